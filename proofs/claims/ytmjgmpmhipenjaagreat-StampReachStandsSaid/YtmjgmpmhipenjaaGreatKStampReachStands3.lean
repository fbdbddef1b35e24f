/- Parts of the proof of StampReachStands, in order. -/
import Derived.Test.YtmjgmpmhipenjaaGreatShelf
import Derived.RangeFuncGives
import Derived.RangeFuncBound
import Derived.RangeFuncIn
import Derived.RangeFuncLeaves
import Derived.RangeFuncRecord
import Derived.Sort.MapsRangeIn
import Derived.TacticsInMore
import Derived.OwnWalkIn
import Derived.RegionIn
import Derived.LoopNIn
import Derived.LoopIn
import Derived.Shelf.AbstractIn
import Derived.BigFrameIn
import Derived.Lib.Overlaps
import Derived.IntWalk
import Derived.Sort.Statements
import Derived.Shelf.SlSortCmp.WholeK
import Derived.Shelf.SlSortCmp.NoneTotal
import Derived.Sort.AssemblyPlain
import Derived.Test.YtmjgmpmhipenjaaGreatKStampReachStands2
namespace Go.Proofs.YtmjgmpmhipenjaaGreat
set_option linter.unusedVariables false
set_option linter.unusedSimpArgs false
set_option linter.unusedSectionVars false
set_option maxRecDepth 1000000
noncomputable section
open A renaming az->Φ,leq->Y0,neq->Uq,loop->p7,append->Uv,cQ->YS,cond->Γ,lb->ZE,mul->WR,guard->μ,geq->ZC,deref->χ,quiet->wh,nn->Wo,bQ->UM,bH->Wr,look->WK,fD->UC,gtr->Tt,cell->Θ,wrap->Ω,eql->Wn,bC->SD,elems->T9,sub->T6,add->Z8,iter->U1,ak->φ,lss->Sq,entries->Tn,aN->p5,aF->l7,iy->XN,cells->ψ,not->Yr,ext->TH,bound->Xn,tab->ZG,fR->Uj,fin->l6,cU->UZ,storeAt->l8,find->XS,pick->p9,bW->UT,dZ->ZY
open List renaming map_map->Zc,getElem?_set_ne->ZN,any_eq_true->Tg,length_cons->R7,map_nil->Wf,length->VN,all_cons->aCh,nil_append->Tp,length_range'->ZS,map_append->V8,append_nil->TU,mem_filter->TR,map_congr_left->TA,getElem?_drop->YF,getElem?_take_of_lt->Vh,mem_map_of_mem->Vb,getElem?_append->Ss,length_nil->TZ,length_append->Ve,drop_zero->Tq,flatten_cons->VG,range'->Tz,find?->S4,getElem?_take->aBQ,contains_iff_mem->Yg,size_toArray->Y9,mem_singleton->Un,length_map->Z7,getD_eq_getElem?_getD->aCN,flatMap_cons->Vi,getD->YA,findIdx?_cons->aCe
open AV renaming aA->i6,om->Vq,ah->ε,rp->Sf,op->S7,agg->Λ,bool->i7,sl->SQ,aM->XF,lbx->p6,int->Z6,np->Wp
open Nat renaming lt_irrefl->aCp,zero_add->WW,sub_self->Wz,le_trans->X8,mul_comm->Wx
open Option renaming isNone_none->UB,map_none->SX,none->ξ,getD_none->Va,some->δ,isNone_some->TF,getD_some->SG
open Classical renaming choose_spec->ZR,choose->V7
open Go renaming run_choose_drew->aCM
open UInt8 renaming lt_irrefl->Xa,not_lt->VX,le_antisymm->aCj
open Bool renaming false_eq_true->UP,and_false->Tb,eq_false_iff->aB0,not_eq_true'->XX,not_true->Xk,eq_false_or_eq_true->aC1,not_false->U6,false->ι,true->η
open Go.Sem renaming run->Sp,run_bind->u9
open Go.Lib renaming bitLen->XK,compareBytes->Ux
open _root_.Array renaming toList_filter->aBK,length_toList->YO,eq_empty_of_size_eq_zero->aC7,getElem?_toList->Ta
open aT renaming map->YE,box->Sd
open Int renaming toNat_of_nonneg->SN,ofNat_zero->aCO,lt_irrefl->WG
open Go.World renaming alloc_heap_new->VD,putObj_heap_other->U4,cell?->XV
open AX renaming normal->l9,exit->Ψ,ret->n9
open Go.Instr renaming next->Si,range->aCo
open Option.some renaming injEq->Δ
open Go.Value renaming ownBlock->aB1
open Go.KeepsWalks renaming alloc->aCq
open Go.Op renaming bytesLess->Vj
open Go.Result renaming andThen_ok->ir
open Prod.mk renaming injEq->j0
open IntKind renaming i64->θ
open Go.IntKind renaming i64->θ
open Go.Sort renaming ahead->aCf
section
def TG (a0:AV) (σ:Heap):aC:=(jS [a0,(ε 0),(ε 36000000)] σ).bind λr1=>l6 σ r1.1 r1.2
def Ds:an->Heap->aC:=Ω η [] .k (ZY TG)
def Ts (a0 a1:AV) (σ:Heap):aC:=(ψ 2 a0).bind λc1=>(ψ 2 a1).bind λc2=>(φ 0 c1).bind λx3=>(φ 0 c2).bind λx4=>(Uq .i x3 x4).bind λx5=>Γ x5 ((φ 0 c1).bind λx6=>(φ 0 c2).bind λx7=>(Sq x6 x7).bind λx8=>Γ x8 (l6 σ (ε (-1)) σ) (l6 σ (ε 1) σ)) ((φ 1 c1).bind λx9=>(φ 1 c2).bind λbR=>(Kc [x9,bR] σ).bind λdH=>l6 σ dH.1 dH.2)
def Oz:an->Heap->aC:=Ω η [] .k (YS Ts)
def SR (a0:AV) (σ:Heap):aC:=(UT a0).bind λx1=>(p7 (λv2 s3=>(Sq (aj v2 1) x1).bind λx5=>Γ x5 ((UM 8 a0 (aj v2 1)).bind λx6=>((χ x6 s3).bind λc7=>l7 0 8 c7).bind λx8=>(ψ 8 x8).bind λc9=>(Φ 0 c9 [(ε 0),dY,(ε 0),(ε 0),aY,aY,(ε 0),(ε 0)]).bind λfM=>(φ 0 fM).bind λcR=>(jS [cR,(ε 1),(ε 9999)] s3).bind λgp=>(Yr gp.1).bind λdg=>Γ dg (δ (n9,[(ε 1),(aj v2 1)],gp.2)) ((φ 1 fM).bind λdI=>(H7 [dI] gp.2).bind λmC=>(Yr mC.1).bind λdJ=>Γ dJ (δ (n9,[(ε 5),(aj v2 1)],mC.2)) ((φ 4 fM).bind λdz=>(μ dz η (l7 2 2 fM) aB).bind λdh=>(μ dz η (δ (Λ [(ε 0),(ε 0)])) aB).bind λfC=>(μ dz η (Uq (.s [0,0]) dh fC) aB).bind λew=>(p9 dz ew aY).bind λdm=>(μ dm ι (φ 2 fM) aB).bind λey=>(μ dm ι (Uq .i ey (ε 0)) aB).bind λeU=>(μ dm ι (δ eU) aB).bind λx24=>(μ x24 η (φ 3 fM) aB).bind λx25=>(μ x24 η (Uq .i x25 (ε 0)) aB).bind λfF=>(μ dm ι (p9 x24 fF aY) aB).bind λfG=>(p9 dm dQ fG).bind λx28=>Γ x28 (δ (n9,[(ε 3),(aj v2 1)],mC.2)) ((φ 2 fM).bind λx29=>(jS [x29,(ε 0),(ε 65535)] mC.2).bind λxR=>(Yr xR.1).bind λx31=>(μ x31 ι (φ 3 fM) aB).bind λx32=>(μ x31 ι (wh (jS [x32,(ε 0),(ε 999)] xR.2) xR.2) aB).bind λiN=>(μ x31 ι (Yr iN) aB).bind λx34=>(p9 x31 dQ x34).bind λgj=>Γ gj (δ (n9,[(ε 1),(aj v2 1)],xR.2)) ((φ 5 fM).bind λgX=>(Yr gX).bind λeY=>(μ eY η (φ 6 fM) aB).bind λx38=>(μ eY η (Uq .i x38 (ε 0)) aB).bind λiO=>(μ eY η (δ iO) aB).bind λfH=>(μ fH ι (φ 7 fM) aB).bind λiP=>(μ fH ι (Uq .i iP (ε 0)) aB).bind λlC=>(μ eY η (p9 fH dQ lC) aB).bind λji=>(p9 eY ji aY).bind λjx=>Γ jx (δ (n9,[(ε 3),(aj v2 1)],xR.2)) ((φ 6 fM).bind λgO=>(Ds [gO] xR.2).bind λnK=>(Yr nK.1).bind λjP=>(μ jP ι (φ 7 fM) aB).bind λjQ=>(μ jP ι (wh (Ds [jQ] nK.2) nK.2) aB).bind λgB=>(μ jP ι (Yr gB) aB).bind λnM=>(p9 jP dQ nM).bind λiT=>Γ iT (δ (n9,[(ε 1),(aj v2 1)],nK.2)) ((Tt (aj v2 1) (ε 0)).bind λfS=>(μ fS η (δ a0) aB).bind λmD=>(μ fS η (δ (aj v2 1)) aB).bind λnN=>(μ fS η (T6 nN (ε 1)) aB).bind λlD=>(μ fS η (UM 8 mD lD) aB).bind λkR=>(μ fS η (p5 0 kR) aB).bind λmE=>(μ fS η ((χ mE nK.2).bind λmZ=>l7 0 2 mZ) aB).bind λjW=>(μ fS η (l7 0 2 fM) aB).bind λkX=>(μ fS η (wh (Oz [jW,kX] nK.2) nK.2) aB).bind λmF=>(μ fS η (ZC mF (ε 0)) aB).bind λiq=>(p9 fS iq aY).bind λgP=>Γ gP (δ (n9,[(ε 7),(aj v2 1)],nK.2)) ((Z8 (aj v2 1) (ε 1)).bind λqG=>δ (l9,[(aj v2 0),qG],nK.2))))))))) (δ (Ψ 0,[(aj v2 0),(aj v2 1)],s3))) [(ε 0),(ε 0)] σ).bind λzi=>bif zi.1==Ψ 0 then(l6 σ (ε 0) zi.2.2)else bif zi.1==n9 then(l6 σ (aj zi.2.1 0) zi.2.2)else ξ
def aAv:an->Heap->aC:=Ω η [(.s 8)] .k (ZY SR)
def Uz (a0:AV) (σ:Heap):aC:=(UT a0).bind λx1=>(Tt x1 (ε 300)).bind λx2=>Γ x2 (l6 σ (ε 2) σ) ((UT a0).bind λx3=>(p7 (λv4 s5=>(Sq (aj v4 2) x3).bind λx7=>Γ x7 ((UM 11 a0 (aj v4 2)).bind λx8=>((χ x8 s5).bind λc9=>l7 0 11 c9).bind λbR=>(ψ 11 bR).bind λgn=>(Φ 0 gn [(ε 0),dY,(ε 0),(ε 0),(ε 0),(ε 0),(ε 0),i6,aY,(ε 0),i6]).bind λfq=>(φ 0 fq).bind λdg=>(jS [dg,(ε 1),(ε 9999999)] s5).bind λkn=>(Yr kn.1).bind λeE=>Γ eE (δ (n9,[(ε 1),(aj v4 1),(aj v4 2)],kn.2)) ((Tt (aj v4 2) (ε 0)).bind λdJ=>(μ dJ η (φ 0 fq) aB).bind λdz=>(μ dJ η (δ a0) aB).bind λdh=>(μ dJ η (δ (aj v4 2)) aB).bind λfC=>(μ dJ η (T6 fC (ε 1)) aB).bind λew=>(μ dJ η (UM 11 dh ew) aB).bind λdm=>(μ dJ η (p5 0 dm) aB).bind λey=>(μ dJ η ((χ ey kn.2).bind λiK=>φ 0 iK) aB).bind λx24=>(μ dJ η (Y0 dz x24) aB).bind λx25=>(p9 dJ x25 aY).bind λfF=>Γ fF (δ (n9,[(ε 7),(aj v4 1),(aj v4 2)],kn.2)) ((φ 1 fq).bind λfG=>(Uq .z fG dY).bind λx28=>(μ x28 η (φ 1 fq) aB).bind λx29=>(μ x28 η (wh (OH [x29] kn.2) kn.2) aB).bind λeG=>(μ x28 η (Yr eG) aB).bind λx31=>(p9 x28 x31 aY).bind λx32=>Γ x32 (δ (n9,[(ε 3),(aj v4 1),(aj v4 2)],kn.2)) ((φ 2 fq).bind λiN=>(Ds [iN] kn.2).bind λjO=>(Yr jO.1).bind λgj=>(μ gj ι (φ 3 fq) aB).bind λgX=>(μ gj ι (wh (Ds [gX] jO.2) jO.2) aB).bind λeY=>(μ gj ι (Yr eY) aB).bind λx38=>(p9 gj dQ x38).bind λiO=>(μ iO ι (φ 4 fq) aB).bind λfH=>(μ iO ι (wh (Ds [fH] jO.2) jO.2) aB).bind λiP=>(μ iO ι (Yr iP) aB).bind λlC=>(p9 iO dQ lC).bind λji=>(μ ji ι (φ 5 fq) aB).bind λjx=>(μ ji ι (wh (Ds [jx] jO.2) jO.2) aB).bind λgO=>(μ ji ι (Yr gO) aB).bind λjG=>(p9 ji dQ jG).bind λjP=>(μ jP ι (φ 9 fq) aB).bind λjQ=>(μ jP ι (wh (jS [jQ,(ε (-1)),(ε 36000000)] jO.2) jO.2) aB).bind λgB=>(μ jP ι (Yr gB) aB).bind λnM=>(p9 jP dQ nM).bind λiT=>Γ iT (δ (n9,[(ε 1),(aj v4 1),(aj v4 2)],jO.2)) ((l7 6 2 fq).bind λfS=>(Oa [fS] jO.2).bind λjg=>(Uq .i jg.1 (ε 0)).bind λnN=>Γ nN (δ (n9,[jg.1,(aj v4 1),(aj v4 2)],jg.2)) ((φ 10 fq).bind λlD=>(UT lD).bind λkR=>(Tt kR (ε 2000)).bind λmE=>Γ mE (δ (n9,[(ε 2),(aj v4 1),(aj v4 2)],jg.2)) ((φ 10 fq).bind λkq=>(aAv [kq] jg.2).bind λRQ=>(Uq .i RQ.1 (ε 0)).bind λkX=>Γ kX (δ (n9,[RQ.1,(aj v4 1),(aj v4 2)],RQ.2)) ((φ 10 fq).bind λmF=>(UT mF).bind λiq=>(Z8 (aj v4 1) iq).bind λgP=>(Z8 (aj v4 2) (ε 1)).bind λqG=>δ (l9,[(aj v4 0),gP,qG],RQ.2))))))))) (δ (Ψ 0,[(aj v4 0),(aj v4 1),(aj v4 2)],s5))) [(ε 0),(ε 0),(ε 0)] σ).bind λzi=>bif zi.1==Ψ 0 then((Tt (aj zi.2.1 1) (ε 10000)).bind λjH=>(mG [jH,(ε 2)] zi.2.2).bind λnr=>l6 σ nr.1 nr.2)else bif zi.1==n9 then(l6 σ (aj zi.2.1 0) zi.2.2)else ξ)
def KI:an->Heap->aC:=Ω η [(.e 11 qv)] .k (ZY Uz)
def SZ (a0 a1 a2:AV) (σ:Heap):aC:=(ψ 2 a0).bind λc1=>(l7 0 2 c1).bind λx2=>(N6 [x2,a1] σ).bind λr3=>(KI [a2] r3.2).bind λr4=>((((Θ r3.1).bind λv=>δ [v]).bind λc5=>(Φ 0 c5 [(ε 0),(ε 0)]).bind λc6=>((Θ r4.1).bind λv=>δ [v]).bind λc7=>(Φ 1 c7 c6).bind λc8=>δ c8).bind λcs=>δ (SQ 1 (gd 1 2 cs))).bind λx9=>(qM [x9] r4.2).bind λjf=>(Uq .i jf.1 (ε 0)).bind λcR=>Γ cR (l6 σ jf.1 jf.2) ((l7 0 2 c1).bind λdc=>(HL [dc] jf.2).bind λqB=>(TH 0 qB.1).bind λdI=>(TH 1 qB.1).bind λeE=>(UT dI).bind λdJ=>(p7 (λv17 sS=>(Sq (aj v17 0) dJ).bind λew=>Γ ew ((UM 2 dI (aj v17 0)).bind λdm=>((χ dm sS).bind λgR=>l7 0 2 gR).bind λeU=>(ψ 2 eU).bind λjc=>(Φ 0 jc [(ε 0),dY]).bind λiL=>(l7 0 2 iL).bind λfF=>(A.iX (.s [0,2]) (Vq qB.2.length) fF dQ sS).bind λh27=>(Z8 (aj v17 0) (ε 1)).bind λx28=>δ (l9,[x28],h27)) (δ (Ψ 0,[(aj v17 0)],sS))) [(ε 0)] (qB.2++[YE []])).bind λnj=>bif nj.1==Ψ 0 then((UT a2).bind λeG=>(p7 (λv31 G5=>(Sq (aj v31 1) eG).bind λx34=>Γ x34 ((UM 11 a2 (aj v31 1)).bind λgj=>((χ gj G5).bind λmM=>l7 0 11 mM).bind λeY=>(ψ 11 eY).bind λoP=>(Φ 0 oP [(ε 0),dY,(ε 0),(ε 0),(ε 0),(ε 0),(ε 0),i6,aY,(ε 0),i6]).bind λmY=>(φ 10 mY).bind λfH=>(UT fH).bind λiP=>(p7 (λER Nk=>(Sq (aj ER 1) iP).bind λgO=>Γ gO ((UM 8 fH (aj ER 1)).bind λjG=>((χ jG Nk).bind λmN=>l7 0 8 mN).bind λjQ=>(ψ 8 jQ).bind λyT=>(Φ 0 yT [(ε 0),dY,(ε 0),(ε 0),aY,aY,(ε 0),(ε 0)]).bind λuO=>(l7 0 2 uO).bind λiT=>(WK (.s [0,2]) (Vq qB.2.length) iT aY Nk).bind λfS=>(Yr fS).bind λmD=>Γ mD (δ (n9,[(ε 8),(aj ER 1)],Nk)) ((l7 0 2 uO).bind λnN=>(l7 2 2 uO).bind λlD=>(Ku [a1,nN,lD] Nk).bind λEL=>(TH 0 EL.1).bind λmE=>(TH 1 EL.1).bind λkq=>(Uq .i kq (ε 0)).bind λjW=>Γ jW (δ (n9,[kq,(aj ER 1)],EL.2)) ((Z8 (aj ER 1) (ε 1)).bind λkX=>δ (l9,[(aj ER 0),kX],EL.2)))) (δ (Ψ 4,[(aj ER 0),(aj ER 1)],Nk))) [(aj v31 0),(ε 0)] G5).bind λwB=>bif wB.1==Ψ 4 then((Z8 (aj v31 1) (ε 1)).bind λiq=>δ (l9,[(aj wB.2.1 0),iq],wB.2.2))else bif wB.1==n9 then(δ (n9,[(aj wB.2.1 0),(aj v31 1)],wB.2.2))else ξ) (δ (Ψ 2,[(aj v31 0),(aj v31 1)],G5))) [(ε 0),(ε 0)] nj.2.2).bind λEM=>bif EM.1==Ψ 2 then(l6 σ (ε 0) EM.2.2)else bif EM.1==n9 then(l6 σ (aj EM.2.1 0) EM.2.2)else ξ)else ξ)
def aAK:an->Heap->aC:=Ω η [(.a [(.e 3 FQ),(.s 4)]),(.e 3 [.k,.k,(.s 3)]),(.e 11 qv)] .k (A.lJ SZ)
def azW (a0:AV) (σ:Heap):aC:=(UT a0).bind λx1=>(p7 (λv2 s3=>(Sq (aj v2 0) x1).bind λx5=>Γ x5 ((UM 11 a0 (aj v2 0)).bind λx6=>((χ x6 s3).bind λc7=>l7 0 11 c7).bind λx8=>(ψ 11 x8).bind λc9=>(Φ 0 c9 [(ε 0),dY,(ε 0),(ε 0),(ε 0),(ε 0),(ε 0),i6,aY,(ε 0),i6]).bind λfM=>(φ 10 fM).bind λcR=>(UT cR).bind λdc=>(p7 (λsW AH=>(Sq (aj sW 1) dc).bind λdJ=>Γ dJ ((UM 8 cR (aj sW 1)).bind λdz=>((χ dz AH).bind λjt=>l7 0 8 jt).bind λfC=>(ψ 8 fC).bind λkG=>(Φ 0 kG [(ε 0),dY,(ε 0),(ε 0),aY,aY,(ε 0),(ε 0)]).bind λkN=>(φ 4 kN).bind λey=>(Γ ey ((l7 0 2 kN).bind λx24=>(A.Gc (.s [0,2]) (Vq σ.length) x24 AH).bind λh25=>δ ([(aj sW 0)],h25)) ((l7 0 2 kN).bind λfF=>(l7 0 2 kN).bind λfG=>(l7 2 2 kN).bind λx28=>((ZE (aj sW 0)).bind λ_=>δ (0)).bind λp29=>((ZE (aj sW 0)).bind λAo=>φ p29 Ao).bind λx31=>(((ψ 2 fG).bind λCK=>(Φ 0 CK [(ε 0),dY,(ε 0),(ε 0),(ε 0)]).bind λGC=>(ψ 2 x28).bind λuL=>(Φ 2 uL GC).bind λkg=>((Θ x31).bind λv=>δ [v]).bind λmM=>(Φ 4 mM kg).bind λlK=>δ lK).bind λcs=>δ (Λ cs)).bind λx38=>(A.iX (.s [0,2]) (Vq σ.length) fF x38 AH).bind λJA=>δ ([(aj sW 0)],JA))).bind λuk=>(Z8 (aj sW 1) (ε 1)).bind λfH=>δ (l9,[(aj uk.1 0),fH],uk.2)) (δ (Ψ 2,[(aj sW 0),(aj sW 1)],AH))) [(p6 fM),(ε 0)] s3).bind λuZ=>bif uZ.1==Ψ 2 then((Z8 (aj v2 0) (ε 1)).bind λlC=>δ (l9,[lC],uZ.2.2))else ξ) (δ (Ψ 0,[(aj v2 0)],s3))) [(ε 0)] (σ++[YE []])).bind λqE=>bif qE.1==Ψ 0 then(l6 σ (Vq σ.length) qE.2.2)else ξ
def Kx:an->Heap->aC:=Ω η [(.e 11 qv)] .k (ZY azW)
def az1 (a0 a1:AV) (σ:Heap):aC:=(ψ 11 a0).bind λc1=>(φ 0 c1).bind λx2=>(T6 x2 a1).bind λx3=>l6 σ x3 σ
def EZ:an->Heap->aC:=Ω η [(.a qv)] .k (YS az1)
def OR (a0 a1:AV) (σ:Heap):aC:=(Hi (ZG (λ_ _=>ξ) [(177,EZ)]) [a0,a1,(AV.fn 177 [])] σ).bind λr1=>(TH 0 r1.1).bind λx2=>(TH 1 r1.1).bind λx3=>l6 σ (XF [x2,x3]) r1.2
def HZ:an->Heap->aC:=Ω η [(.e 11 qv)] .k (YS OR)
def akm (a0 a1:AV) (σ:Heap):aC:=(ψ 5 a0).bind λc1=>(ψ 5 a1).bind λc2=>(l7 0 2 c1).bind λx3=>(l7 0 2 c2).bind λx4=>(Oz [x3,x4] σ).bind λr5=>l6 σ r5.1 r5.2
def aaM:an->Heap->aC:=Ω η [] .k (YS akm)
def OQ (a0 a1:AV) (σ:Heap):aC:=(KI [a0] σ).bind λr1=>(Uq .i r1.1 (ε 0)).bind λx2=>Γ x2 ((l6 σ (XF [i6,r1.1]) r1.2).map λp=>(Wo (.t [(.s 5),.k]) p.1,p.2)) ((HZ [a0,a1] r1.2).bind λr3=>(TH 0 r3.1).bind λx4=>(TH 1 r3.1).bind λx5=>(Yr x5).bind λx6=>Γ x6 ((l6 σ (XF [i6,(ε 8)]) r3.2).map λp=>(Wo (.t [(.s 5),.k]) p.1,p.2)) ((Z8 x4 (ε 1)).bind λx7=>(A.qd 11 a0 ξ (δ x7) r3.2).bind λx8=>(Kx [x8] r3.2).bind λr9=>(A.yx r9.1).bind λawz=>A.Ch (λv11 Dd k13=>A.vO (S7 r9.2.length 0) Dd λdI BG=>(TH 0 dI).bind λdJ=>Γ dJ ((A.yu (S7 r9.2.length 0) BG).bind λdz=>(TH 1 dz).bind λdh=>(ψ 5 dh).bind λiZ=>(Φ 0 iZ [(ε 0),dY,(ε 0),(ε 0),(ε 0)]).bind λkG=>(l7 0 5 kG).bind λdm=>(((ψ 5 dm).bind λgR=>(Φ 0 gR [(ε 0),dY,(ε 0),(ε 0),(ε 0)]).bind λiK=>δ iK).bind λcs=>δ (SQ 5 (gd 5 1 cs))).bind λx24=>(Uv 5 (140737488355328 / 48) (aj v11 0) x24 BG).bind λqD=>k13 (l9,[qD.1],qD.2)) (k13 (Ψ 0,[(aj v11 0)],BG))) [i6] (r9.2++[aT.it [] awz]) λlQ=>bif lQ.1==Ψ 0 then((JW [(aj lQ.2.1 0),(AV.fn 297 [])] lQ.2.2).bind λmO=>(l6 σ (XF [(aj lQ.2.1 0),(ε 0)]) mO.2).map λp=>(Wo (.t [(.s 5),.k]) p.1,p.2))else ξ))
def OK:an->Heap->aC:=Ω η [(.e 11 qv)] (.t [(.s 5),.k]) (YS OQ)
end
section
def az0 (a0 a1:AV) (σ:Heap):aC:=(ψ 2 a0).bind λc1=>(φ 0 c1).bind λx2=>((χ a1 σ).bind λc3=>φ 0 c3).bind λx4=>(Wn .i x2 x4).bind λx5=>l6 σ x5 σ
def Kh:an->Heap->aC:=Ω η [(.a [.k,(.s 11)])] .k (YS az0)
def OT (a0 a1:AV) (σ:Heap):aC:=(ψ 5 a0).bind λc1=>(((Θ a1).bind λv=>δ [v]).bind λcs=>δ (Sf cs)).bind λx2=>(φ 3 c1).bind λx3=>(NW (ZG (λ_ _=>ξ) [(127,Kh)]) [x3,(AV.fn 127 [x2])] σ).bind λr4=>(Sq r4.1 (ε 0)).bind λx5=>Γ x5 ((ψ 2 (Λ [(ε 0),i6])).bind λc6=>(Φ 0 c6 [(ε 0),i6]).bind λc7=>(l7 0 2 c7).bind λx8=>l6 σ (XF [x8,aY]) r4.2) ((φ 3 c1).bind λx9=>(UM 2 x9 r4.1).bind λbR=>((χ bR r4.2).bind λgn=>l7 0 2 gn).bind λdc=>(ψ 2 dc).bind λjr=>(Φ 0 jr [(ε 0),i6]).bind λjN=>(l7 0 2 jN).bind λeE=>l6 σ (XF [eE,dQ]) r4.2)
def Ky:an->Heap->aC:=Ω η [sE] (.t [(.a [.k,(.e 11 qv)]),.k]) (YS OT)
def SO (a0:AV) (σ:Heap):aC:=(ψ 5 a0).bind λc1=>(l7 0 2 c1).bind λx2=>(φ 2 c1).bind λx3=>(wh (N6 [x2,x3] σ) σ).bind λx4=>(φ 3 c1).bind λx5=>(UT x5).bind λx6=>(Tt x6 (ε 30)).bind λx7=>(wh (mG [x7,(ε 2)] σ) σ).bind λx8=>((((Θ x4).bind λv=>δ [v]).bind λc9=>(Φ 0 c9 [(ε 0),(ε 0)]).bind λfM=>((Θ x8).bind λv=>δ [v]).bind λgn=>(Φ 1 gn fM).bind λfq=>δ fq).bind λcs=>δ (SQ 1 (gd 1 2 cs))).bind λdg=>(wh (qM [dg] σ) σ).bind λdI=>(Uq .i dI (ε 0)).bind λeE=>Γ eE (l6 σ dI σ) ((φ 3 c1).bind λdJ=>(UT dJ).bind λdz=>(p7 (λgJ rK=>(Sq (aj gJ 2) dz).bind λdm=>Γ dm ((UM 2 dJ (aj gJ 2)).bind λey=>((χ ey rK).bind λiK=>l7 0 2 iK).bind λx24=>(ψ 2 x24).bind λiL=>(Φ 0 iL [(ε 0),i6]).bind λlz=>(φ 0 lz).bind λfG=>(jS [fG,(ε 1),(ε 999)] rK).bind λuX=>(Yr uX.1).bind λx29=>Γ x29 (δ (n9,[(aj gJ 0),(ε 1),(aj gJ 2)],uX.2)) ((Tt (aj gJ 2) (ε 0)).bind λeG=>(μ eG η (φ 0 lz) aB).bind λx31=>((ZE (aj gJ 0)).bind λ_=>δ (3)).bind λp32=>(μ eG η ((ZE (aj gJ 0)).bind λGC=>φ p32 GC) aB).bind λx34=>(μ eG η (δ (aj gJ 2)) aB).bind λgj=>(μ eG η (T6 gj (ε 1)) aB).bind λgX=>(μ eG η (UM 2 x34 gX) aB).bind λeY=>(μ eG η (p5 0 eY) aB).bind λx38=>(μ eG η ((χ x38 uX.2).bind λmY=>φ 0 mY) aB).bind λfH=>(μ eG η (Y0 x31 fH) aB).bind λiP=>(p9 eG iP aY).bind λlC=>Γ lC (δ (n9,[(aj gJ 0),(ε 7),(aj gJ 2)],uX.2)) (((ZE (aj gJ 0)).bind λ_=>δ (0)).bind λp43=>((ZE (aj gJ 0)).bind λCL=>l7 p43 2 CL).bind λgO=>((ZE (aj gJ 0)).bind λ_=>δ (2)).bind λM8=>((ZE (aj gJ 0)).bind λmN=>φ M8 mN).bind λjQ=>(φ 1 lz).bind λgB=>(aAK [gO,jQ,gB] uX.2).bind λjv=>(Uq .i jv.1 (ε 0)).bind λiT=>Γ iT (δ (n9,[(aj gJ 0),jv.1,(aj gJ 2)],jv.2)) ((Z8 (aj gJ 2) (ε 1)).bind λfS=>δ (l9,[(aj gJ 0),(aj gJ 1),fS],jv.2))))) (δ (Ψ 0,[(aj gJ 0),(aj gJ 1),(aj gJ 2)],rK))) [(p6 c1),(ε 0),(ε 0)] σ).bind λjg=>bif jg.1==Ψ 0 then(((ZE (aj jg.2.1 0)).bind λ_=>δ (4)).bind λp54=>((ZE (aj jg.2.1 0)).bind λpP=>φ p54 pP).bind λkR=>(UT kR).bind λmE=>(Tt mE (ε 40)).bind λkq=>Γ kq (l6 σ (ε 2) jg.2.2) (((ZE (aj jg.2.1 0)).bind λ_=>δ (4)).bind λp59=>((ZE (aj jg.2.1 0)).bind λtW=>φ p59 tW).bind λmF=>(UT mF).bind λiq=>(p7 (λoV ZW=>(Sq (aj oV 2) iq).bind λjH=>Γ jH ((UM 3 mF (aj oV 2)).bind λqH=>((χ qH ZW).bind λCO=>l7 0 3 CO).bind λjR=>(ψ 3 jR).bind λEA=>(Φ 0 EA [(ε 0),(ε 0),(ε 0)]).bind λwm=>(φ 0 wm).bind λvq=>(jS [vq,(ε 1),(ε 40)] ZW).bind λNa=>(Yr Na.1).bind λsY=>Γ sY (δ (n9,[(aj oV 0),(ε 1),(aj oV 2)],Na.2)) ((Tt (aj oV 2) (ε 0)).bind λkr=>(μ kr η (φ 0 wm) aB).bind λrO=>((ZE (aj oV 0)).bind λ_=>δ (4)).bind λM9=>(μ kr η ((ZE (aj oV 0)).bind λCR=>φ M9 CR) aB).bind λxX=>(μ kr η (δ (aj oV 2)) aB).bind λpW=>(μ kr η (T6 pW (ε 1)) aB).bind λoh=>(μ kr η (UM 3 xX oh) aB).bind λxY=>(μ kr η (p5 0 xY) aB).bind λwF=>(μ kr η ((χ wF Na.2).bind λqy=>φ 0 qy) aB).bind λqJ=>(μ kr η (Y0 rO qJ) aB).bind λxZ=>(p9 kr xZ aY).bind λya=>Γ ya (δ (n9,[(aj oV 0),(ε 7),(aj oV 2)],Na.2)) (((ZE (aj oV 0)).bind λsJ=>l7 0 5 sJ).bind λHh=>(φ 1 wm).bind λx90=>(Ky [Hh,x90] Na.2).bind λBC=>(TH 0 BC.1).bind λvu=>(TH 1 BC.1).bind λx93=>(ψ 2 vu).bind λxF=>(Φ 0 xF [(ε 0),i6]).bind λsL=>(Yr x93).bind λx96=>Γ x96 (δ (n9,[(aj oV 0),(ε 8),(aj oV 2)],BC.2)) ((φ 2 wm).bind λJS=>(jS [JS,(ε 0),(ε 100)] BC.2).bind λBD=>(Yr BD.1).bind λx99=>Γ x99 (δ (n9,[(aj oV 0),(ε 1),(aj oV 2)],BD.2)) ((Z8 (aj oV 2) (ε 1)).bind λCE=>δ (l9,[(aj oV 0),(aj oV 1),CE],BD.2)))))) (δ (Ψ 2,[(aj oV 0),(aj oV 1),(aj oV 2)],ZW))) [(aj jg.2.1 0),(aj jg.2.1 1),(ε 0)] jg.2.2).bind λyK=>bif yK.1==Ψ 2 then(l6 σ (ε 0) yK.2.2)else bif yK.1==n9 then(l6 σ (aj yK.2.1 1) yK.2.2)else ξ))else bif jg.1==n9 then(l6 σ (aj jg.2.1 1) jg.2.2)else ξ)
def Hz:an->Heap->aC:=Ω η [sE] .k (ZY SO)
def aBr (a0:AV) (σ:Heap):aC:=(ψ 5 a0).bind λc1=>(φ 1 c1).bind λx2=>(jS [x2,(ε 1),(ε 9)] σ).bind λr3=>(Yr r3.1).bind λx4=>Γ x4 (l6 σ (ε 4) r3.2) ((φ 1 c1).bind λx5=>(Wn .i x5 (ε 8)).bind λx6=>(μ x6 ι (φ 1 c1) aB).bind λx7=>(μ x6 ι (Wn .i x7 (ε 9)) aB).bind λx8=>(p9 x6 dQ x8).bind λx9=>(μ x9 ι (φ 1 c1) aB).bind λbR=>(μ x9 ι (Wn .i bR (ε 6)) aB).bind λcR=>(p9 x9 dQ cR).bind λdc=>(μ dc ι (φ 1 c1) aB).bind λdg=>(μ dc ι (Wn .i dg (ε 7)) aB).bind λdI=>(p9 dc dQ dI).bind λeE=>(μ x9 η (φ 2 c1) aB).bind λdJ=>(μ x9 η (Uq .i dJ (ε 0)) aB).bind λdz=>(p9 x9 dz aY).bind λdh=>(μ dh ι (φ 1 c1) aB).bind λfC=>(μ dh ι (Uq .i fC (ε 3)) aB).bind λew=>(μ dh ι (δ ew) aB).bind λdm=>(μ dm η (φ 3 c1) aB).bind λey=>(μ dm η (Uq .i ey (ε 0)) aB).bind λeU=>(μ dh ι (p9 dm eU aY) aB).bind λx24=>(p9 dh dQ x24).bind λx25=>(μ x25 ι (δ eE) aB).bind λfF=>(μ x25 ι (Yr fF) aB).bind λfG=>(μ x25 ι (δ fG) aB).bind λx28=>(μ x28 η (φ 4 c1) aB).bind λx29=>(μ x28 η (Uq .i x29 (ε 0)) aB).bind λeG=>(μ x25 ι (p9 x28 eG aY) aB).bind λx31=>(p9 x25 dQ x31).bind λx32=>Γ x32 (l6 σ (ε 3) r3.2) (l6 σ (ε 0) r3.2))
def Hw:an->Heap->aC:=Ω η [] .k (ZY aBr)
def anc (a0 a1:AV) (σ:Heap):aC:=(ψ 3 a0).bind λc1=>(φ 0 c1).bind λx2=>(p5 2 a1).bind λx3=>((χ x3 σ).bind λc4=>φ 0 c4).bind λx5=>(Wn .i x2 x5).bind λx6=>l6 σ x6 σ
def JZ:an->Heap->aC:=Ω η [] .k (YS anc)
def Ob (a0 a1:AV) (σ:Heap):aC:=(ψ 5 a0).bind λc1=>((ψ 5 a1).bind λcs=>δ (Sf cs)).bind λx2=>(p5 1 x2).bind λx3=>((χ x3 σ).bind λc4=>φ 0 c4).bind λx5=>(Wn .i x5 (ε 8)).bind λx6=>(μ x6 ι (p5 1 x2) aB).bind λx7=>(μ x6 ι ((χ x7 σ).bind λc8=>φ 0 c8) aB).bind λx9=>(μ x6 ι (Wn .i x9 (ε 9)) aB).bind λbR=>(p9 x6 dQ bR).bind λcR=>(Yr cR).bind λdc=>(μ dc η (φ 4 c1) aB).bind λdg=>(μ dc η (δ (AV.fn 152 [x2])) aB).bind λdI=>(μ dc η (wh (NK (ZG (λ_ _=>ξ) [(152,JZ)]) [dg,dI] σ) σ) aB).bind λeE=>(μ dc η (Yr eE) aB).bind λdJ=>(p9 dc dJ aY).bind λdz=>Γ dz (l6 σ (ε 8) σ) ((p5 1 x2).bind λdh=>((χ dh σ).bind λiZ=>φ 0 iZ).bind λew=>(Wn .i ew (ε 6)).bind λdm=>(Γ dm (δ ([(ε 36000000)],σ)) ((Wn .i ew (ε 9)).bind λeU=>(Γ eU (δ ([(ε 1)],σ)) (δ ([(ε 65535)],σ))).bind λqC=>δ ([(aj qC.1 0)],qC.2))).bind λGZ=>(p5 4 x2).bind λx25=>((χ x25 GZ.2).bind λlz=>φ 0 lz).bind λfG=>(jS [fG,(ε 0),(aj GZ.1 0)] GZ.2).bind λuX=>(Yr uX.1).bind λx29=>(mG [x29,(ε 1)] uX.2).bind λxR=>l6 σ xR.1 xR.2)
def Hx:an->Heap->aC:=Ω η [sE] .k (YS Ob)
def aa8 (a0:AV) (σ:Heap):aC:=(jS [a0,(ε 0),(ε 36000000)] σ).bind λr1=>l6 σ r1.1 r1.2
def Kr:an->Heap->aC:=Ω η [] .k (ZY aa8)
def aaF (a0:AV) (σ:Heap):aC:=(SD a0).bind λx1=>(p5 11 x1).bind λx2=>((χ x2 σ).bind λc3=>φ 0 c3).bind λx4=>(UT x4).bind λx5=>(Wn .i x5 (ε 0)).bind λx6=>Γ x6 (l6 σ (ε 0) σ) ((SD a0).bind λx7=>(p5 11 x7).bind λx8=>((χ x8 σ).bind λc9=>φ 0 c9).bind λbR=>(SD a0).bind λcR=>(p5 11 cR).bind λdc=>((χ dc σ).bind λjr=>φ 0 jr).bind λdI=>(UT dI).bind λeE=>(T6 eE (ε 1)).bind λdJ=>(UM 5 bR dJ).bind λdz=>(p5 0 dz).bind λdh=>((χ dh σ).bind λiZ=>φ 0 iZ).bind λew=>l6 σ ew σ)
def BJ:an->Heap->aC:=Ω η [(.p I3)] .k (ZY aaF)
def aaH (a0:AV) (σ:Heap):aC:=(SD a0).bind λx1=>(p5 8 x1).bind λx2=>((χ x2 σ).bind λc3=>φ 0 c3).bind λx4=>(Sq x4 (ε 0)).bind λx5=>(μ x5 ι (δ a0) aB).bind λx6=>(μ x5 ι (SD x6) aB).bind λx7=>(μ x5 ι (p5 0 x7) aB).bind λx8=>(μ x5 ι (p5 2 x8) aB).bind λx9=>(μ x5 ι ((χ x9 σ).bind λfM=>φ 0 fM) aB).bind λcR=>(p9 x5 dQ cR).bind λdc=>Γ dc (l6 σ (ε (-1)) σ) ((SD a0).bind λdg=>(p5 0 dg).bind λdI=>(p5 1 dI).bind λeE=>((χ eE σ).bind λoO=>φ 0 oO).bind λdz=>(SD a0).bind λdh=>(p5 8 dh).bind λfC=>((χ fC σ).bind λkG=>φ 0 kG).bind λdm=>(Z8 dz dm).bind λey=>(SD a0).bind λeU=>(p5 0 eU).bind λx24=>(p5 0 x24).bind λx25=>((χ x25 σ).bind λlz=>φ 0 lz).bind λfG=>(T6 ey fG).bind λx28=>l6 σ x28 σ)
def Dl:an->Heap->aC:=Ω η [(.p [.k,.k,.k,.k,.k,(.s 11),.k,.k,.k,.k])] .k (ZY aaH)
def aaO (a0 a1:AV) (σ:Heap):aC:=(ψ 3 a0).bind λc1=>(φ 2 c1).bind λx2=>Γ x2 ((φ 0 c1).bind λx3=>l6 σ x3 σ) ((φ 0 c1).bind λx4=>(Z8 x4 a1).bind λx5=>(φ 1 c1).bind λx6=>(T6 x5 x6).bind λx7=>l6 σ x7 σ)
def zq:an->Heap->aC:=Ω η [] .k (YS aaO)
def aaY (a0:AV) (σ:Heap):aC:=(ψ 9 a0).bind λc1=>(φ 2 c1).bind λx2=>(φ 3 c1).bind λx3=>(Z8 x2 x3).bind λx4=>(φ 4 c1).bind λx5=>(Z8 x4 x5).bind λx6=>l6 σ x6 σ
def aAb:an->Heap->aC:=Ω η [(.a [.k,.k,.k,.k,.k,.k,(.s 2),.k,.k])] .k (ZY aaY)
def SC (a0 a1 a2:AV) (σ:Heap):aC:=(ψ 2 a1).bind λc1=>(SD a0).bind λx2=>(p5 9 x2).bind λx3=>((χ x3 σ).bind λc4=>φ 0 c4).bind λx5=>(l7 0 2 c1).bind λx6=>(A.FI (.s [0,2]) x5 x6 (Λ [(ε 0),(ε 0),(ε 0),(ε 0),(ε 0),(ε 0),i6,(ε 0),aY]) σ).bind λx7=>(TH 0 x7).bind λx8=>(TH 1 x7).bind λx9=>(ψ 9 x8).bind λfM=>(Φ 0 fM [(ε 0),(ε 0),(ε 0),(ε 0),(ε 0),(ε 0),i6,(ε 0),aY]).bind λgn=>(l7 0 9 gn).bind λdc=>(μ x9 η (φ 8 gn) aB).bind λdg=>(μ x9 η (δ dg) aB).bind λdI=>(μ dI η (δ a2) aB).bind λeE=>(μ dI η (l7 0 9 gn) aB).bind λdJ=>(μ dI η (wh (aAb [dJ] σ) σ) aB).bind λdz=>(μ dI η (ZC eE dz) aB).bind λdh=>(μ x9 η (p9 dI dh aY) aB).bind λfC=>(μ x9 η (Yr fC) aB).bind λew=>(p9 x9 ew aY).bind λdm=>(ψ 9 dc).bind λgR=>(Φ 0 gR [(ε 0),(ε 0),(ε 0),(ε 0),(ε 0),(ε 0),i6,(ε 0),aY]).bind λiK=>(l7 0 9 iK).bind λx24=>l6 σ (XF [x24,dm]) σ
def uq:an->Heap->aC:=Ω ι [] (.t [(.a [.k,.k,.k,.k,.k,.k,(.s 2),.k,.k]),.k]) (A.lJ SC)
def aaI (a0 a1:AV) (σ:Heap):aC:=(ψ 9 a0).bind λc1=>(l7 0 7 c1).bind λx2=>(A.min a1 (ε 36000000)).bind λx3=>(azh [x2,x3] σ).bind λr4=>(TH 0 r4.1).bind λx5=>(TH 1 r4.1).bind λx6=>l6 σ x5 r4.2
def Dm:an->Heap->aC:=Ω η [(.a [.k,.k,.k,.k,.k,.k,(.s 2),.k,.k])] .k (YS aaI)
def J3 (a1:AV) (a3:AV) (eE:AV):an->Heap->Option (AX×an×Heap):=λeM um=>(Sq (aj eM 6) eE).bind λfC=>Γ fC ((SD a1).bind λew=>(p5 0 ew).bind λdm=>((χ dm um).bind λgR=>φ 0 gR).bind λeU=>(UM 10 eU (aj eM 6)).bind λx24=>(SD x24).bind λx25=>(p5 0 x25).bind λfF=>((χ fF um).bind λpO=>l7 0 3 pO).bind λx28=>(zq [x28,a3] um).bind λnj=>((ZE (aj eM 0)).bind λAo=>l7 0 2 Ao).bind λx31=>(uq [x24,x31,nj.1] nj.2).bind λr32=>(TH 0 r32.1).bind λiN=>(TH 1 r32.1).bind λx34=>(ψ 9 iN).bind λkg=>(Φ 0 kg [(ε 0),(ε 0),(ε 0),(ε 0),(ε 0),(ε 0),i6,(ε 0),aY]).bind λmM=>(Yr x34).bind λeY=>(μ eY ι (δ x24) aB).bind λx38=>(μ eY ι (SD x38) aB).bind λiO=>(μ eY ι (p5 4 iO) aB).bind λfH=>(μ eY ι ((χ fH r32.2).bind λuM=>φ 0 uM) aB).bind λlC=>(μ eY ι (δ (aj eM 4)) aB).bind λji=>(μ eY ι (Sq lC ji) aB).bind λjx=>(p9 eY dQ jx).bind λgO=>Γ gO ((Z8 (aj eM 6) (ε 1)).bind λjG=>δ (l9,[(aj eM 0),(aj eM 1),(aj eM 2),(aj eM 3),(aj eM 4),(aj eM 5),jG],r32.2)) ((l7 0 9 mM).bind λjP=>(Dm [jP,nj.1] r32.2).bind λve=>((ZE (aj eM 1)).bind λ_=>δ (1)).bind λp49=>((ZE (aj eM 1)).bind λuO=>φ p49 uO).bind λiT=>(Wn .i iT (ε 1)).bind λfS=>(Γ fS ((SD x24).bind λnN=>(p5 7 nN).bind λlD=>((χ lD ve.2).bind λsI=>φ 0 sI).bind λmE=>(OA [ve.1,mE] ve.2).bind λJP=>(TH 0 JP.1).bind λjW=>(TH 1 JP.1).bind λkX=>δ ([(aj eM 0),(aj eM 1),(p6 mM),jW],JP.2)) (δ ([(aj eM 0),(aj eM 1),(p6 mM),ve.1],ve.2))).bind λjg=>(SD x24).bind λmF=>(p5 4 mF).bind λiq=>((χ iq jg.2).bind λGF=>φ 0 GF).bind λqG=>(Tt qG (aj eM 4)).bind λkY=>((ZE (aj jg.1 1)).bind λ_=>δ (1)).bind λp66=>(μ kY ι ((ZE (aj jg.1 1)).bind λCN=>φ p66 CN) aB).bind λqI=>(μ kY ι (Wn .i qI (ε 1)) aB).bind λjR=>(μ kY ι (δ jR) aB).bind λmQ=>(μ mQ η (δ (aj jg.1 3)) aB).bind λvn=>(μ mQ η (δ (aj eM 2)) aB).bind λvq=>(μ mQ η (Tt vn vq) aB).bind λoc=>(μ kY ι (p9 mQ oc aY) aB).bind λsY=>(p9 kY dQ sY).bind λkr=>((ZE (aj jg.1 1)).bind λ_=>δ (1)).bind λaA4=>(μ kr ι ((ZE (aj jg.1 1)).bind λuQ=>φ aA4 uQ) aB).bind λoW=>(μ kr ι (Uq .i oW (ε 1)) aB).bind λxX=>(μ kr ι (δ xX) aB).bind λpW=>((ZE (aj jg.1 2)).bind λ_=>δ (7)).bind λp81=>(μ pW η ((ZE (aj jg.1 2)).bind λAr=>φ p81 Ar) aB).bind λwF=>(μ pW η (δ (aj eM 5)) aB).bind λHg=>(μ pW η (Tt wF Hg) aB).bind λqJ=>(μ kr ι (p9 pW qJ aY) aB).bind λxZ=>(p9 kr dQ xZ).bind λya=>(Γ ya ((SD x24).bind λHh=>(p5 3 Hh).bind λx90=>((χ x90 jg.2).bind λMF=>φ 0 MF).bind λvu=>(SD x24).bind λx93=>(p5 4 x93).bind λzm=>((χ zm jg.2).bind λsL=>φ 0 sL).bind λx96=>((ZE (aj jg.1 2)).bind λ_=>δ (7)).bind λZI=>((ZE (aj jg.1 2)).bind λAs=>φ ZI As).bind λx99=>δ ([(aj jg.1 0),(aj jg.1 1),(aj jg.1 3),vu,x96,x99],jg.2)) (δ ([(aj jg.1 0),(aj jg.1 1),(aj eM 2),(aj eM 3),(aj eM 4),(aj eM 5)],jg.2))).bind λG4=>(Z8 (aj eM 6) (ε 1)).bind λCE=>δ (l9,[(aj G4.1 0),(aj G4.1 1),(aj G4.1 2),(aj G4.1 3),(aj G4.1 4),(aj G4.1 5),CE],G4.2))) (δ (Ψ 0,[(aj eM 0),(aj eM 1),(aj eM 2),(aj eM 3),(aj eM 4),(aj eM 5),(aj eM 6)],um))
def aau (a0 a1 a2 a3:AV) (σ:Heap):aC:=(ψ 2 a2).bind λc1=>(SD a0).bind λx2=>(p5 10 x2).bind λx3=>((χ x3 σ).bind λc4=>φ 0 c4).bind λx5=>(l7 0 2 c1).bind λx6=>(WK (.s [0,2]) x5 x6 (Λ [dY,(ε 0),(ε 0),(ε 0),(ε 0),aY,i6]) σ).bind λx7=>(ψ 7 x7).bind λc8=>(Φ 0 c8 [dY,(ε 0),(ε 0),(ε 0),(ε 0),aY,i6]).bind λc9=>(φ 4 c9).bind λbR=>(SD a1).bind λcR=>(p5 0 cR).bind λdc=>((χ dc σ).bind λjr=>φ 0 jr).bind λdI=>(UT dI).bind λeE=>(p7 (J3 a1 a3 eE) [(p6 c1),(p6 c9),bR,(ε 0),(ε (-1)),(ε 0),(ε 0)] σ).bind λyK=>bif yK.1==Ψ 0 then(l6 σ (XF [(aj yK.2.1 2),(aj yK.2.1 3)]) yK.2.2)else ξ
def Ka:an->Heap->aC:=Ω η [(.p I3),(.p [(.s 10),.k,.k,.k])] .k (A.An aau)
def aak (a0 a1:AV) (σ:Heap):aC:=(ψ 8 a0).bind λc1=>(l7 0 2 c1).bind λx2=>((χ a1 σ).bind λc3=>l7 0 2 c3).bind λx4=>(Wn (.s [0,2]) x2 x4).bind λx5=>l6 σ x5 σ
def Hu:an->Heap->aC:=Ω η [] .k (YS aak)
def acA (a0:AV) (σ:Heap):aC:=(ψ 7 a0).bind λc1=>(φ 2 c1).bind λx2=>(A.min x2 (ε 36000000)).bind λx3=>((Θ x3).bind λv=>δ [v]).bind λc4=>(Φ 2 c4 c1).bind λc5=>(φ 3 c5).bind λx6=>(φ 2 c5).bind λx7=>(T6 (ε 36000000) x7).bind λx8=>(A.min x6 x8).bind λx9=>((Θ x9).bind λv=>δ [v]).bind λfM=>(Φ 3 fM c5).bind λgn=>(φ 4 gn).bind λdc=>(φ 2 gn).bind λdg=>(T6 (ε 36000000) dg).bind λdI=>(φ 3 gn).bind λeE=>(T6 dI eE).bind λdJ=>(A.min dc dJ).bind λdz=>((Θ dz).bind λv=>δ [v]).bind λjt=>(Φ 4 jt gn).bind λiZ=>(l7 0 7 iZ).bind λew=>(ψ 7 ew).bind λkN=>(Φ 0 kN [(ε 0),(ε 0),(ε 0),(ε 0),(ε 0),(ε 0),i6]).bind λgR=>(l7 0 7 gR).bind λeU=>l6 σ eU σ
def yh:an->Heap->aC:=Ω η [FR] FR (ZY acA)
def SS (a0 a1 a2 a3 a4 a5:AV) (σ:Heap):aC:=(ψ 11 a1).bind λc1=>((ψ 2 a2).bind λcs=>δ (Sf cs)).bind λx2=>(φ 2 c1).bind λx3=>(φ 5 c1).bind λx4=>(l7 6 2 c1).bind λx5=>((((Θ a3).bind λv=>δ [v]).bind λc6=>(Φ 0 c6 [(ε 0),(ε 0),(ε 0),(ε 0),(ε 0),(ε 0),i6]).bind λc7=>((Θ a4).bind λv=>δ [v]).bind λc8=>(Φ 1 c8 c7).bind λc9=>((Θ a5).bind λv=>δ [v]).bind λfM=>(Φ 2 fM c9).bind λgn=>((Θ x3).bind λv=>δ [v]).bind λfq=>(Φ 3 fq gn).bind λjr=>((Θ x4).bind λv=>δ [v]).bind λjN=>(Φ 4 jN jr).bind λkF=>(ψ 2 x5).bind λoO=>(Φ 5 oO kF).bind λmL=>δ mL).bind λcs=>δ (Λ cs)).bind λdh=>(ψ 7 dh).bind λiZ=>(Φ 0 iZ [(ε 0),(ε 0),(ε 0),(ε 0),(ε 0),(ε 0),i6]).bind λkG=>(SD a0).bind λdm=>(p5 10 dm).bind λey=>((χ ey σ).bind λiK=>φ 0 iK).bind λx24=>((χ x2 σ).bind λiL=>l7 0 2 iL).bind λfF=>(WK (.s [0,2]) x24 fF (Λ [dY,(ε 0),(ε 0),(ε 0),(ε 0),aY,i6]) σ).bind λfG=>(ψ 7 fG).bind λnD=>(Φ 0 nD [dY,(ε 0),(ε 0),(ε 0),(ε 0),aY,i6]).bind λiA=>(φ 1 iA).bind λeG=>(Wn .i eG (ε 1)).bind λx31=>(Γ x31 ((φ 3 c1).bind λiN=>((Θ iN).bind λv=>δ [v]).bind λuL=>(Φ 4 uL kG).bind λkg=>(Sq a4 a3).bind λgX=>(Γ gX ((φ 4 c1).bind λx38=>((Θ x38).bind λv=>δ [v]).bind λmY=>(Φ 4 mY kg).bind λBu=>δ ([(p6 c1),(p6 [(ε 0),(ε 0),(ε 0),(ε 0),(ε 0),(ε 0),i6]),(p6 Bu),(p6 iA)],σ)) (δ ([(p6 c1),(p6 [(ε 0),(ε 0),(ε 0),(ε 0),(ε 0),(ε 0),i6]),(p6 kg),(p6 iA)],σ))).bind λjV=>δ ([(aj jV.1 0),(aj jV.1 1),(aj jV.1 2),(aj jV.1 3)],jV.2)) (δ ([(p6 c1),(p6 [(ε 0),(ε 0),(ε 0),(ε 0),(ε 0),(ε 0),i6]),(p6 kG),(p6 iA)],σ))).bind λr32=>((ZE (aj r32.1 0)).bind λ_=>δ (10)).bind λp41=>((ZE (aj r32.1 0)).bind λkO=>φ p41 kO).bind λji=>(JU (ZG (λ_ _=>ξ) [(349,Hu)]) [ji,(AV.fn 349 [x2])] r32.2).bind λeR=>(ZC eR.1 (ε 0)).bind λgO=>((ZE (aj r32.1 0)).bind λ_=>δ (10)).bind λM8=>(μ gO η ((ZE (aj r32.1 0)).bind λmN=>φ M8 mN) aB).bind λjQ=>(μ gO η (δ eR.1) aB).bind λgB=>(μ gO η (UM 8 jQ gB) aB).bind λnM=>(μ gO η (p5 5 nM) aB).bind λiT=>(μ gO η ((χ iT eR.2).bind λMD=>φ 0 MD) aB).bind λmD=>(p9 gO mD aY).bind λnN=>(Γ nN (((ZE (aj r32.1 0)).bind λ_=>δ (10)).bind λp56=>((ZE (aj r32.1 0)).bind λlX=>φ p56 lX).bind λkq=>(UM 8 kq eR.1).bind λjW=>(p5 6 jW).bind λkX=>((χ kX eR.2).bind λnE=>φ 0 nE).bind λiq=>((ZE (aj r32.1 0)).bind λ_=>δ (10)).bind λp63=>((ZE (aj r32.1 0)).bind λxD=>φ p63 xD).bind λkY=>(UM 8 kY eR.1).bind λjH=>(p5 7 jH).bind λqH=>((χ qH eR.2).bind λCO=>φ 0 CO).bind λjR=>((ZE (aj r32.1 2)).bind λ_=>δ (3)).bind λp70=>(ZE (aj r32.1 2)).bind λGG=>((Θ iq).bind λv=>δ [v]).bind λwm=>(Φ p70 wm GG).bind λyU=>((Θ jR).bind λv=>δ [v]).bind λCQ=>(Φ 4 CQ yU).bind λAp=>δ ([(aj r32.1 1),(p6 Ap),(aj r32.1 3)],eR.2)) (δ ([(aj r32.1 1),(aj r32.1 2),(aj r32.1 3)],eR.2))).bind λzh=>((ZE (aj zh.1 2)).bind λ_=>δ (5)).bind λaA4=>((ZE (aj zh.1 2)).bind λuQ=>φ aA4 uQ).bind λoW=>(Γ oW (((ZE (aj zh.1 1)).bind λ_=>δ (4)).bind λp80=>(ZE (aj zh.1 1)).bind λCT=>((Θ (ε 0)).bind λv=>δ [v]).bind λCS=>(Φ p80 CS CT).bind λAr=>δ ([(aj zh.1 0),(p6 Ar)],zh.2)) (δ ([(aj zh.1 0),(aj zh.1 1)],zh.2))).bind λnu=>((ZE (aj nu.1 1)).bind λqy=>l7 0 7 qy).bind λqJ=>(yh [qJ] nu.2).bind λAG=>(ZE (aj nu.1 0)).bind λoQ=>(ψ 7 AG.1).bind λqz=>(Φ 0 qz oQ).bind λsJ=>(l7 0 7 sJ).bind λx90=>l6 σ x90 AG.2
def HH:an->Heap->aC:=Ω ι [] FR (A.Br SS)
def J8 (a0:AV) (a1:AV) (x5:AV) (a4:AV) (y0:AV) (y1:Nat) (y2:Nat) (x28:AV) (fF:AV):an->Heap->Option (AX×an×Heap):=λBH ZU=>(Sq (aj BH 1) x28).bind λx32=>Γ x32 ((UM 5 fF (aj BH 1)).bind λiN=>((χ iN ZU).bind λuL=>l7 0 5 uL).bind λgj=>(ψ 5 gj).bind λmM=>(Φ 0 mM [(ε 0),dY,(ε 0),(ε 0),(ε 0)]).bind λlK=>(l7 0 2 lK).bind λx38=>(A.iX (.s [0,2]) (Vq y1) x38 dQ ZU).bind λJA=>(SD a0).bind λfH=>(p5 4 fH).bind λiP=>(p5 2 iP).bind λlC=>((χ lC JA).bind λsG=>φ 0 sG).bind λjx=>(l7 0 2 lK).bind λgO=>(l7 2 2 lK).bind λjG=>(wh (Ku [jx,gO,jG] JA) JA).bind λjP=>(TH 0 jP).bind λjQ=>(TH 1 jP).bind λgB=>(l7 0 2 lK).bind λnM=>(uq [x5,nM,y0] JA).bind λzg=>(TH 0 zg.1).bind λfS=>(TH 1 zg.1).bind λmD=>(ψ 9 fS).bind λrE=>(Φ 0 rE [(ε 0),(ε 0),(ε 0),(ε 0),(ε 0),(ε 0),i6,(ε 0),aY]).bind λpP=>(μ mD η (φ 8 pP) aB).bind λkR=>(μ mD η (Yr kR) aB).bind λmE=>(p9 mD mE aY).bind λkq=>(μ kq η (φ 1 pP) aB).bind λjW=>(μ kq η (δ jQ) aB).bind λkX=>(μ kq η (Wn .i jW kX) aB).bind λmF=>(p9 kq mF aY).bind λiq=>Γ iq ((l7 0 2 lK).bind λgP=>(l7 0 9 pP).bind λqG=>(A.iX (.s [0,2]) (Vq y2) gP qG zg.2).bind λh65=>(Z8 (aj BH 1) (ε 1)).bind λjH=>δ (l9,[(aj BH 0),jH],h65)) ((Γ mD ((l7 0 9 pP).bind λqI=>(Dm [qI,y0] zg.2).bind λr69=>δ ([(aj BH 0),(p6 lK),r69.1],r69.2)) ((SD a0).bind λmQ=>(p5 10 mQ).bind λvn=>((χ vn zg.2).bind λyU=>φ 0 yU).bind λoc=>(l7 0 2 lK).bind λsY=>(WK (.s [0,2]) oc sY (Λ [dY,(ε 0),(ε 0),(ε 0),(ε 0),aY,i6]) zg.2).bind λkr=>((ψ 7 kr).bind λAq=>φ 1 Aq).bind λAJ=>(Uq .i AJ (ε 1)).bind λoW=>(Γ oW ((l7 0 2 lK).bind λpW=>(Ka [a0,a1,pW,a4] zg.2).bind λZO=>(TH 0 ZO.1).bind λxY=>(TH 1 ZO.1).bind λwF=>δ ([(aj BH 0),(p6 lK),xY],ZO.2)) (δ ([(aj BH 0),(p6 lK),(ε 0)],zg.2))).bind λnu=>δ ([(aj nu.1 0),(aj nu.1 1),(aj nu.1 2)],nu.2))).bind λnr=>((ZE (aj nr.1 1)).bind λ_=>δ (0)).bind λar6=>((ZE (aj nr.1 1)).bind λuR=>l7 ar6 2 uR).bind λxZ=>((ZE (aj nr.1 0)).bind λqz=>l7 0 11 qz).bind λvr=>((ZE (aj nr.1 1)).bind λ_=>δ (0)).bind λZH=>((ZE (aj nr.1 1)).bind λsK=>l7 ZH 2 sK).bind λx91=>(wh (HH [a0,vr,x91,(aj nr.1 2),jQ,y0] nr.2) nr.2).bind λvu=>(SD a1).bind λx93=>(p5 1 x93).bind λzm=>((χ zm nr.2).bind λsL=>φ 0 sL).bind λx96=>(((ψ 7 vu).bind λGI=>(Φ 0 GI [(ε 0),(ε 0),(ε 0),(ε 0),(ε 0),(ε 0),i6,(ε 0),aY]).bind λAs=>((Θ x96).bind λv=>δ [v]).bind λCU=>(Φ 7 CU As).bind λCn=>((Θ aY).bind λv=>δ [v]).bind λFW=>(Φ 8 FW Cn).bind λLR=>δ LR).bind λcs=>δ (Λ cs)).bind λCF=>(A.iX (.s [0,2]) (Vq y2) xZ CF nr.2).bind λaAN=>(Z8 (aj BH 1) (ε 1)).bind λGk=>δ (l9,[(aj nr.1 0),Gk],aAN))) (δ (Ψ 0,[(aj BH 0),(aj BH 1)],ZU))
def azC (a0 a1 a2 a3 a4:AV) (σ:Heap):aC:=(SD a1).bind λx1=>(p5 0 x1).bind λx2=>((χ x2 σ).bind λc3=>φ 0 c3).bind λx4=>(UM 10 x4 a2).bind λx5=>(SD x5).bind λx6=>(p5 5 x6).bind λx7=>((χ x7 σ).bind λc8=>φ 0 c8).bind λx9=>(UM 11 x9 a3).bind λbR=>((χ bR σ).bind λgn=>l7 0 11 gn).bind λdc=>(ψ 11 dc).bind λjr=>(Φ 0 jr [(ε 0),dY,(ε 0),(ε 0),(ε 0),(ε 0),(ε 0),i6,aY,(ε 0),i6]).bind λjN=>(SD x5).bind λeE=>(p5 0 eE).bind λdJ=>((χ dJ σ).bind λmL=>l7 0 3 mL).bind λdh=>(zq [dh,a4] σ).bind λnh=>(SD x5).bind λew=>(p5 5 ew).bind λdm=>((χ dm nh.2).bind λgR=>φ 0 gR).bind λeU=>(φ 0 jN).bind λx24=>(wh (OK [eU,x24] nh.2) nh.2).bind λx25=>(TH 0 x25).bind λfF=>(TH 1 x25).bind λfG=>(UT fF).bind λx28=>(p7 (J8 a0 a1 x5 a4 nh.1 ((nh.2++[YE []]).length) nh.2.length x28 fF) [(p6 jN),(ε 0)] ((nh.2++[YE []])++[YE []])).bind λJi=>bif Ji.1==Ψ 0 then((SD x5).bind λCH=>(p5 9 CH).bind λGl=>((χ Gl Ji.2.2).bind λavD=>φ 0 avD).bind λJq=>(A.yx Jq).bind λauL=>A.Ch (λBp axC XY=>A.vO (S7 Ji.2.2.length 0) axC λx115 Yb=>(TH 0 x115).bind λGn=>Γ Gn ((A.yu (S7 Ji.2.2.length 0) Yb).bind λCI=>(TH 0 CI).bind λGp=>(ψ 2 Gp).bind λWY=>(Φ 0 WY [(ε 0),dY]).bind λuF=>(l7 0 2 uF).bind λMs=>(uq [x5,Ms,nh.1] Yb).bind λrD=>(TH 0 rD.1).bind λMt=>(TH 1 rD.1).bind λyP=>(ψ 9 Mt).bind λFZ=>(Φ 0 FZ [(ε 0),(ε 0),(ε 0),(ε 0),(ε 0),(ε 0),i6,(ε 0),aY]).bind λBe=>(Yr yP).bind λRi=>(μ Ri ι (δ (Vq (nh.2++[YE []]).length)) aB).bind λyQ=>(μ Ri ι (l7 0 2 uF) aB).bind λGs=>(μ Ri ι (WK (.s [0,2]) yQ Gs aY rD.2) aB).bind λMv=>(p9 Ri dQ Mv).bind λxz=>(μ xz ι (δ a0) aB).bind λMw=>(μ xz ι (SD Mw) aB).bind λYl=>(μ xz ι (p5 10 Yl) aB).bind λMx=>(μ xz ι ((χ Mx rD.2).bind λavJ=>φ 0 avJ) aB).bind λMz=>(μ xz ι (l7 0 2 uF) aB).bind λGt=>(μ xz ι (WK (.s [0,2]) Mz Gt (Λ [dY,(ε 0),(ε 0),(ε 0),(ε 0),aY,i6]) rD.2) aB).bind λYm=>(μ xz ι ((ψ 7 Ym).bind λXd=>φ 1 Xd) aB).bind λMA=>(μ xz ι (Uq .i MA (ε 1)) aB).bind λYo=>(p9 xz dQ Yo).bind λGu=>Γ Gu (XY (l9,[(aj Bp 0)],rD.2)) ((φ 8 Be).bind λYp=>(Yr Yp).bind λYq=>(Γ Yq ((l7 0 9 Be).bind λazf=>(wh (Dm [azf,nh.1] rD.2) rD.2).bind λaxH=>((ZE (aj Bp 0)).bind λ_=>δ (2)).bind λaxg=>((ZE (aj Bp 0)).bind λL0=>φ axg L0).bind λx151=>((ZE (aj Bp 0)).bind λ_=>δ (4)).bind λaxh=>((ZE (aj Bp 0)).bind λF0=>φ axh F0).bind λYt=>((ZE (aj Bp 0)).bind λ_=>δ (6)).bind λaxi=>((ZE (aj Bp 0)).bind λavP=>l7 axi 2 avP).bind λx157=>((((Θ axH).bind λv=>δ [v]).bind λEc=>(Φ 0 Ec [(ε 0),(ε 0),(ε 0),(ε 0),(ε 0),(ε 0),i6]).bind λL3=>((Θ nh.1).bind λv=>δ [v]).bind λL4=>(Φ 2 L4 L3).bind λL5=>((Θ x151).bind λv=>δ [v]).bind λXh=>(Φ 3 Xh L5).bind λL6=>((Θ Yt).bind λv=>δ [v]).bind λXi=>(Φ 4 Xi L6).bind λL7=>(ψ 2 x157).bind λF1=>(Φ 5 F1 L7).bind λCp=>δ Cp).bind λcs=>δ (Λ cs)).bind λx168=>(ψ 7 x168).bind λavR=>(Φ 0 avR [(ε 0),(ε 0),(ε 0),(ε 0),(ε 0),(ε 0),i6]).bind λavS=>(l7 0 7 avS).bind λaxO=>(wh (yh [axO] rD.2) rD.2).bind λaz8=>(SD a1).bind λaxP=>(p5 1 axP).bind λYx=>((χ Yx rD.2).bind λL8=>φ 0 L8).bind λYy=>(((ψ 7 az8).bind λavU=>(Φ 0 avU [(ε 0),(ε 0),(ε 0),(ε 0),(ε 0),(ε 0),i6,(ε 0),aY]).bind λXj=>((Θ Yy).bind λv=>δ [v]).bind λavV=>(Φ 7 avV Xj).bind λavW=>((Θ dQ).bind λv=>δ [v]).bind λavX=>(Φ 8 avX avW).bind λavY=>δ avY).bind λcs=>δ (Λ cs)).bind λYz=>(ψ 9 Yz).bind λazz=>(Φ 0 azz Be).bind λavZ=>δ ([(aj Bp 0),(p6 uF),(p6 avZ)],rD.2)) (δ ([(aj Bp 0),(p6 uF),(p6 Be)],rD.2))).bind λRa=>((ZE (aj Ra.1 1)).bind λav0=>l7 0 2 av0).bind λaxY=>((ZE (aj Ra.1 2)).bind λav2=>l7 0 9 av2).bind λax0=>(A.iX (.s [0,2]) (Vq nh.2.length) axY ax0 Ra.2).bind λXv=>XY (l9,[(aj Ra.1 0)],Xv))) (XY (Ψ 2,[(aj Bp 0)],Yb))) [(aj Ji.2.1 0)] (Ji.2.2++[aT.it [] auL]) λJk=>bif Jk.1==Ψ 2 then(((((Θ nh.1).bind λv=>δ [v]).bind λF2=>(Φ 0 F2 [(ε 0),(ε 0),aY]).bind λF3=>((Θ a4).bind λv=>δ [v]).bind λF4=>(Φ 1 F4 F3).bind λL9=>((Θ aY).bind λv=>δ [v]).bind λMa=>(Φ 2 Ma L9).bind λMb=>δ Mb).bind λcs=>δ (Λ cs)).bind λax4=>(SD x5).bind λax5=>(p5 0 ax5).bind λaAA=>(ψ 3 ax4).bind λav7=>(l8 aAA av7 Jk.2.2).bind λaBF=>(SD x5).bind λaBl=>(p5 6 aBl).bind λazJ=>((Θ a3).bind λv=>δ [v]).bind λav8=>(l8 azJ av8 aBF).bind λav9=>(SD x5).bind λax9=>(p5 9 ax9).bind λaya=>((Θ (Vq nh.2.length)).bind λv=>δ [v]).bind λawb=>(l8 aya awb av9).bind λawc=>(SD x5).bind λYD=>(p5 8 YD).bind λayc=>((Θ (ε (-1))).bind λv=>δ [v]).bind λawe=>(l8 ayc awe awc).bind λaBG=>((ZE (aj Jk.2.1 0)).bind λ_=>δ (9)).bind λaxk=>((ZE (aj Jk.2.1 0)).bind λawf=>φ axk awf).bind λar4=>(ZC ar4 (ε 0)).bind λCJ=>(μ CJ η (δ a3) aB).bind λaAO=>(μ CJ η (Z8 aAO (ε 1)) aB).bind λYG=>(μ CJ η (δ x5) aB).bind λYH=>(μ CJ η (SD YH) aB).bind λYI=>(μ CJ η (p5 5 YI) aB).bind λayg=>(μ CJ η ((χ ayg aBG).bind λaAe=>φ 0 aAe) aB).bind λYJ=>(μ CJ η (UT YJ) aB).bind λYK=>(μ CJ η (Sq YG YK) aB).bind λYL=>(p9 CJ YL aY).bind λayi=>(Γ ayi (((ZE (aj Jk.2.1 0)).bind λ_=>δ (9)).bind λaxl=>((ZE (aj Jk.2.1 0)).bind λawk=>φ axl awk).bind λayk=>(Z8 nh.1 ayk).bind λYM=>(SD x5).bind λayl=>(p5 8 ayl).bind λYN=>((Θ YM).bind λv=>δ [v]).bind λXp=>(l8 YN Xp aBG).bind λawl=>δ (([]:an),awl)) (δ (([]:an),aBG))).bind λaxt=>A.Cs σ (XF []) axt.2)else ξ)else ξ
def wG:an->Heap->aC:=Ω ι [] .k (A.wj azC)
def J6 (a1:AV) (y0:Nat) (ew:AV):an->Heap->Option (AX×an×Heap):=λv21 xV =>(Sq (aj v21 3) ew).bind λx24=>Γ x24 ((p5 0 (S7 y0 0)).bind λx25=>((χ x25 xV).bind λlz=>φ 0 lz).bind λfG=>(UM 10 fG (aj v21 3)).bind λx28=>(Dl [x28] xV).bind λnj=>(ZC nj.1 (ε 0)).bind λeG=>(μ eG η (δ nj.1) aB).bind λx31=>(μ eG η (δ a1) aB).bind λx32=>(μ eG η (Y0 x31 x32) aB).bind λiN=>(p9 eG iN aY).bind λx34=>(μ x34 η (δ (aj v21 1)) aB).bind λgj=>(μ x34 η (Sq gj (ε 0)) aB).bind λgX=>(μ x34 η (δ gX) aB).bind λeY=>(μ eY ι (δ nj.1) aB).bind λx38=>(μ eY ι (δ (aj v21 2)) aB).bind λiO=>(μ eY ι (Sq x38 iO) aB).bind λfH=>(μ x34 η (p9 eY dQ fH) aB).bind λiP=>(p9 x34 iP aY).bind λlC=>(Γ lC (δ ([(aj v21 0),(aj v21 3),nj.1],nj.2)) (δ ([(aj v21 0),(aj v21 1),(aj v21 2)],nj.2))).bind λqE=>(Z8 (aj v21 3) (ε 1)).bind λjx=>δ (l9,[(aj qE.1 0),(aj qE.1 1),(aj qE.1 2),jx],qE.2)) (δ (Ψ 2,[(aj v21 0),(aj v21 1),(aj v21 2),(aj v21 3)],xV))
def J5 (a0:AV) (a1:AV) (y0:Nat):an->Heap->Option (AX×an×Heap):=λrM BG=>(p5 0 (S7 y0 0)).bind λdz=>((χ dz BG).bind λjt=>φ 0 jt).bind λfC=>(UT fC).bind λew=>(p7 (J6 a1 y0 ew) [(aj rM 0),(ε (-1)),(ε 0),(ε 0)] BG).bind λAF=>bif AF.1==Ψ 2 then((Sq (aj AF.2.1 1) (ε 0)).bind λjG=>Γ jG (((χ (S7 y0 0) AF.2.2).bind λmN=>l7 0 4 mN).bind λjQ=>(ZE (aj AF.2.1 0)).bind λxC=>(ψ 4 jQ).bind λyT=>(Φ 0 yT xC).bind λuO=>δ (n9,[(p6 uO)],AF.2.2)) ((p5 1 (S7 y0 0)).bind λfS=>((χ fS AF.2.2).bind λuP=>φ 0 uP).bind λnN=>(Z8 nN (ε 1)).bind λlD=>(p5 1 (S7 y0 0)).bind λkR=>((Θ lD).bind λv=>δ [v]).bind λlX=>(l8 kR lX AF.2.2).bind λmZ=>(p5 0 (S7 y0 0)).bind λjW=>((χ jW mZ).bind λtW=>φ 0 tW).bind λmF=>(UM 10 mF (aj AF.2.1 1)).bind λiq=>(p5 6 iq).bind λgP=>((χ gP mZ).bind λxD=>φ 0 xD).bind λkY=>(Z8 kY (ε 1)).bind λjH=>(wG [a0,(S7 y0 0),(aj AF.2.1 1),jH,(aj AF.2.1 2)] mZ).bind λnr=>δ (l9,[(aj AF.2.1 0)],nr.2)))else ξ
def Og (a0 a1:AV) (σ:Heap):aC:=(SD a0).bind λx1=>(p5 0 x1).bind λx2=>((χ x2 σ).bind λc3=>l7 0 4 c3).bind λx4=>(ψ 4 x4).bind λc5=>(l8 (S7 σ.length 0) c5 (σ++[Sd [i6,(ε 0),(ε 0),aY]])).bind λc6=>(p5 0 (S7 σ.length 0)).bind λx7=>((χ x7 c6).bind λc8=>φ 0 c8).bind λx9=>(Hl [x9] c6).bind λjf=>(p5 0 (S7 σ.length 0)).bind λcR=>((Θ jf.1).bind λv=>δ [v]).bind λfq=>(l8 cR fq jf.2).bind λjr=>(p7 (J5 a0 a1 σ.length) [(p6 [i6,(ε 0),(ε 0),aY])] jr).bind λDc=>bif Dc.1==n9 then(((ZE (aj Dc.2.1 0)).bind λEA=>l7 0 4 EA).bind λjR=>δ (jR,Dc.2.2))else ξ
def HA:an->Heap->aC:=Ω ι [] .k (YS Og)
def aao (a0 a1:AV) (σ:Heap):aC:=(ψ 10 a0).bind λc1=>(φ 3 c1).bind λx2=>(p5 2 a1).bind λx3=>((χ x3 σ).bind λc4=>φ 0 c4).bind λx5=>(Wn .i x2 x5).bind λx6=>l6 σ x6 σ
def Dj:an->Heap->aC:=Ω η [(.a [.k,.k,.k,.k,.k,(.s 11),.k,.k,.k,.k])] .k (YS aao)
def aap (a0 a1:AV) (σ:Heap):aC:=(ψ 11 a0).bind λc1=>(φ 0 c1).bind λx2=>(p5 3 a1).bind λx3=>((χ x3 σ).bind λc4=>φ 0 c4).bind λx5=>(Wn .i x2 x5).bind λx6=>l6 σ x6 σ
def Dk:an->Heap->aC:=Ω η [(.a qv)] .k (YS aap)
def SB (a0 a1 a2 a3:AV) (σ:Heap):aC:=(ψ 5 a3).bind λc1=>(SD a2).bind λx2=>(p5 0 x2).bind λx3=>((χ x3 σ).bind λc4=>l7 0 3 c4).bind λx5=>(φ 0 c1).bind λx6=>(wh (zq [x5,x6] σ) σ).bind λx7=>(SD a2).bind λx8=>(p5 9 x8).bind λx9=>((χ x9 (σ++[YE []])).bind λfM=>φ 0 fM).bind λcR=>(A.yx cR).bind λawA=>A.Ch (λsW AH Zx=>A.vO (S7 (σ++[YE []]).length 0) AH λdJ um=>(TH 0 dJ).bind λdh=>Γ dh ((A.yu (S7 (σ++[YE []]).length 0) um).bind λfC=>(TH 0 fC).bind λew=>(ψ 2 ew).bind λkN=>(Φ 0 kN [(ε 0),dY]).bind λgR=>(l7 0 2 gR).bind λeU=>(uq [a2,eU,x7] um).bind λqC=>(TH 0 qC.1).bind λx25=>(TH 1 qC.1).bind λfF=>(ψ 9 x25).bind λpO=>(Φ 0 pO [(ε 0),(ε 0),(ε 0),(ε 0),(ε 0),(ε 0),i6,(ε 0),aY]).bind λnD=>(Yr fF).bind λx29=>(μ x29 ι (δ a0) aB).bind λeG=>(μ x29 ι (SD eG) aB).bind λx31=>(μ x29 ι (p5 10 x31) aB).bind λx32=>(μ x29 ι ((χ x32 qC.2).bind λGC=>φ 0 GC) aB).bind λx34=>(μ x29 ι (l7 0 2 gR) aB).bind λgj=>(μ x29 ι (WK (.s [0,2]) x34 gj (Λ [dY,(ε 0),(ε 0),(ε 0),(ε 0),aY,i6]) qC.2) aB).bind λgX=>(μ x29 ι ((ψ 7 gX).bind λlK=>φ 1 lK) aB).bind λx38=>(μ x29 ι (Uq .i x38 (ε 1)) aB).bind λiO=>(p9 x29 dQ iO).bind λfH=>Γ fH (Zx (l9,[(aj sW 0)],qC.2)) ((l7 0 2 gR).bind λiP=>(l7 0 9 nD).bind λlC=>(wh (Dm [lC,x7] qC.2) qC.2).bind λji=>((ZE (aj sW 0)).bind λ_=>δ (4)).bind λp44=>((ZE (aj sW 0)).bind λuN=>φ p44 uN).bind λjG=>((((Θ (ε 1)).bind λv=>δ [v]).bind λmN=>(Φ 0 mN [(ε 0),i6]).bind λsH=>δ sH).bind λcs=>δ (Λ cs)).bind λgB=>((((Θ ji).bind λv=>δ [v]).bind λuO=>(Φ 0 uO [(ε 0),(ε 0),(ε 0),(ε 0),(ε 0),(ε 0),i6]).bind λxC=>((Θ x7).bind λv=>δ [v]).bind λMD=>(Φ 2 MD xC).bind λuP=>((Θ jG).bind λv=>δ [v]).bind λrE=>(Φ 4 rE uP).bind λpP=>(ψ 2 gB).bind λsI=>(Φ 5 sI pP).bind λlX=>δ lX).bind λcs=>δ (Λ cs)).bind λkq=>(wh (yh [kq] qC.2) qC.2).bind λjW=>(SD a1).bind λkX=>(p5 1 kX).bind λmF=>((χ mF qC.2).bind λaAa=>φ 0 aAa).bind λgP=>(((ψ 7 jW).bind λxD=>(Φ 0 xD [(ε 0),(ε 0),(ε 0),(ε 0),(ε 0),(ε 0),i6,(ε 0),aY]).bind λME=>((Θ gP).bind λv=>δ [v]).bind λYR=>(Φ 7 YR ME).bind λCN=>((Θ dQ).bind λv=>δ [v]).bind λCO=>(Φ 8 CO CN).bind λCP=>δ CP).bind λcs=>δ (Λ cs)).bind λmQ=>(A.iX (.s [0,2]) (Vq σ.length) iP mQ qC.2).bind λRp=>Zx (l9,[(aj sW 0)],Rp))) (Zx (Ψ 0,[(aj sW 0)],um))) [(p6 c1)] ((σ++[YE []])++[aT.it [] awA]) λRR=>bif RR.1==Ψ 0 then(((ZE (aj RR.2.1 0)).bind λ_=>δ (0)).bind λp73=>((ZE (aj RR.2.1 0)).bind λCQ=>φ p73 CQ).bind λkr=>((((Θ x7).bind λv=>δ [v]).bind λAq=>(Φ 0 Aq [(ε 0),(ε 0),aY]).bind λuQ=>((Θ kr).bind λv=>δ [v]).bind λCR=>(Φ 1 CR uQ).bind λGH=>((Θ aY).bind λv=>δ [v]).bind λJv=>(Φ 2 Jv GH).bind λCS=>δ CS).bind λcs=>δ (Λ cs)).bind λxY=>(SD a2).bind λwF=>(p5 0 wF).bind λHg=>(ψ 3 xY).bind λuR=>(l8 Hg uR RR.2.2).bind λxE=>(SD a2).bind λya=>(p5 6 ya).bind λvr=>((Θ (ε (-1))).bind λv=>δ [v]).bind λoQ=>(l8 vr oQ xE).bind λsK=>(SD a2).bind λx91=>(p5 8 x91).bind λvu=>((Θ (ε (-1))).bind λv=>δ [v]).bind λwo=>(l8 vu wo sK).bind λxF=>(SD a2).bind λx95=>(p5 9 x95).bind λx96=>((Θ (Vq σ.length)).bind λv=>δ [v]).bind λGI=>(l8 x96 GI xF).bind λAs=>A.Cs σ (XF []) As)else ξ
def J9:an->Heap->aC:=Ω ι [] .k (A.An SB)
def aaG (a0 a1:AV) (σ:Heap):aC:=(Kr [a1] σ).bind λr1=>(Yr r1.1).bind λx2=>(mG [x2,(ε 1)] r1.2).bind λr3=>(BJ [a0] r3.2).bind λr4=>(Sq a1 r4.1).bind λx5=>(mG [x5,(ε 7)] r4.2).bind λr6=>((((Θ r3.1).bind λv=>δ [v]).bind λc7=>(Φ 0 c7 [(ε 0),(ε 0)]).bind λc8=>((Θ r6.1).bind λv=>δ [v]).bind λc9=>(Φ 1 c9 c8).bind λfM=>δ fM).bind λcs=>δ (SQ 1 (gd 1 2 cs))).bind λcR=>(qM [cR] r6.2).bind λgp=>l6 σ gp.1 gp.2
def Kf:an->Heap->aC:=Ω η [(.p I3)] .k (YS aaG)
def Oj (Gn:AV):an->Heap->Option (AX×an×Heap):=λyO Ex =>(Sq (aj yO 3) Gn).bind λYi=>Γ Yi (((ZE (aj yO 2)).bind λ_=>δ (1)).bind λaxe=>((ZE (aj yO 2)).bind λLW=>φ axe LW).bind λMt=>(UM 11 Mt (aj yO 3)).bind λyP=>(SD yP).bind λYk=>(p5 10 Yk).bind λMu=>((χ Mu Ex).bind λCo=>φ 0 Co).bind λyQ=>(wh ((A.oJ (.s 8) aze) [yQ] Ex) Ex).bind λGs=>(SD yP).bind λMv=>(p5 6 Mv).bind λxz=>(p5 1 xz).bind λMw=>((χ Mw Ex).bind λLY=>φ 0 LY).bind λMx=>(wh ((A.oJ (.s 2) EV) [Mx] Ex) Ex).bind λMy=>(SD yP).bind λMz=>(p5 10 Mz).bind λGt=>((Θ Gs).bind λv=>δ [v]).bind λXc=>(l8 Gt Xc Ex).bind λXd=>(SD yP).bind λMA=>(p5 6 MA).bind λYo=>(p5 1 Yo).bind λGu=>((Θ My).bind λv=>δ [v]).bind λavL=>(l8 Gu avL Xd).bind λavM=>(Z8 (aj yO 3) (ε 1)).bind λaxG=>δ (l9,[(aj yO 0),(aj yO 1),(aj yO 2),axG],avM)) (δ (Ψ 8,[(aj yO 0),(aj yO 1),(aj yO 2),(aj yO 3)],Ex))
def HF (x101:AV) (x102:AV):an->Heap->Option (AX×an×Heap):=λEz Ya =>(Sq (aj Ez 2) x102).bind λCG=>Γ CG ((UM 2 x101 (aj Ez 2)).bind λCH=>((χ CH Ya).bind λavC=>l7 0 2 avC).bind λGm=>(ψ 2 Gm).bind λavE=>(Φ 0 avE [(ε 0),i6]).bind λI4=>(φ 1 I4).bind λx112=>(N3 [x112] Ya).bind λMr=>((Θ Mr.1).bind λv=>δ [v]).bind λFX=>(Φ 1 FX I4).bind λQU=>(φ 1 QU).bind λaxF=>(UT axF).bind λGn=>(p7 (Oj Gn) [(aj Ez 0),(aj Ez 1),(p6 QU),(ε 0)] Mr.2).bind λEv=>bif Ev.1==Ψ 8 then(((ZE (aj Ev.2.1 1)).bind λ_=>δ (3)).bind λaxf=>((ZE (aj Ev.2.1 1)).bind λLZ=>φ axf LZ).bind λx150=>((ZE (aj Ev.2.1 2)).bind λL2=>l7 0 2 L2).bind λx152=>(((ψ 2 x152).bind λF0=>(Φ 0 F0 [(ε 0),i6]).bind λavO=>δ avO).bind λcs=>δ (SQ 2 (gd 2 1 cs))).bind λYu=>(Uv 2 (140737488355328 / 32) x150 Yu Ev.2.2).bind λaie=>((ZE (aj Ev.2.1 1)).bind λ_=>δ (3)).bind λaxj=>(ZE (aj Ev.2.1 1)).bind λL4=>((Θ aie.1).bind λv=>δ [v]).bind λEc=>(Φ axj Ec L4).bind λL3=>(Z8 (aj Ez 2) (ε 1)).bind λaxJ=>δ (l9,[(aj Ev.2.1 0),(p6 L3),axJ],aie.2))else ξ) (δ (Ψ 6,[(aj Ez 0),(aj Ez 1),(aj Ez 2)],Ya))
def HE (mQ:AV) (vn:AV):an->Heap->Option (AX×an×Heap):=λv72 ZX=>(Sq (aj v72 3) vn).bind λkr=>Γ kr ((UM 3 mQ (aj v72 3)).bind λrO=>((χ rO ZX).bind λuQ=>l7 0 3 uQ).bind λoW=>(ψ 3 oW).bind λGH=>(Φ 0 GH [(ε 0),dY,i6]).bind λJv=>(φ 2 Jv).bind λoh=>((A.oJ (.s 3) R8) [oh] ZX).bind λNd=>((Θ Nd.1).bind λv=>δ [v]).bind λCT=>(Φ 2 CT Jv).bind λqy=>((ZE (aj v72 2)).bind λ_=>δ (2)).bind λp85=>((ZE (aj v72 2)).bind λxE=>φ p85 xE).bind λya=>(l7 0 3 qy).bind λvr=>(((ψ 3 vr).bind λoQ=>(Φ 0 oQ [(ε 0),dY,i6]).bind λsK=>δ sK).bind λcs=>δ (SQ 3 (gd 3 1 cs))).bind λx91=>(Uv 3 (140737488355328 / 48) ya x91 Nd.2).bind λNg=>((ZE (aj v72 2)).bind λ_=>δ (2)).bind λp93=>(ZE (aj v72 2)).bind λc96=>((Θ Ng.1).bind λv=>δ [v]).bind λxF=>(Φ p93 xF c96).bind λsL=>(Z8 (aj v72 3) (ε 1)).bind λJS=>δ (l9,[(aj v72 0),(aj v72 1),(p6 sL),JS],Ng.2)) (δ (Ψ 4,[(aj v72 0),(aj v72 1),(aj v72 2),(aj v72 3)],ZX))
def Oi (x29:AV):an->Heap->Option (AX×an×Heap):=λv30 Nj=>(Sq (aj v30 4) x29).bind λiN=>Γ iN (((ZE (aj v30 3)).bind λ_=>δ (2)).bind λZD=>((ZE (aj v30 3)).bind λkg=>φ ZD kg).bind λgX=>((ZE (aj v30 3)).bind λ_=>δ (2)).bind λp37=>((ZE (aj v30 3)).bind λoP=>φ p37 oP).bind λiO=>(UM 7 iO (aj v30 4)).bind λfH=>(p5 6 fH).bind λiP=>((χ iP Nj).bind λkO=>φ 0 kO).bind λji=>(wh ((A.oJ (.s 3) Sb) [ji] Nj) Nj).bind λjx=>(UM 7 gX (aj v30 4)).bind λgO=>(p5 6 gO).bind λjG=>((Θ jx).bind λv=>δ [v]).bind λmN=>(l8 jG mN Nj).bind λsH=>(Z8 (aj v30 4) (ε 1)).bind λgB=>δ (l9,[(aj v30 0),(aj v30 1),(aj v30 2),(aj v30 3),gB],sH)) (δ (Ψ 2,[(aj v30 0),(aj v30 1),(aj v30 2),(aj v30 3),(aj v30 4)],Nj))
def HD (dg:AV) (dI:AV):an->Heap->Option (AX×an×Heap):=λjh nL=>(Sq (aj jh 3) dI).bind λdh=>Γ dh ((UM 3 dg (aj jh 3)).bind λfC=>((χ fC nL).bind λkG=>l7 0 3 kG).bind λdm=>(ψ 3 dm).bind λgR=>(Φ 0 gR [dY,(ε 0),i6]).bind λiK=>(φ 2 iK).bind λx24=>(Sa [x24] nL).bind λqD=>((Θ qD.1).bind λv=>δ [v]).bind λlz=>(Φ 2 lz iK).bind λpO=>(φ 2 pO).bind λx28=>(UT x28).bind λx29=>(p7 (Oi x29) [(aj jh 0),(aj jh 1),(aj jh 2),(p6 pO),(ε 0)] qD.2).bind λjv=>bif jv.1==Ψ 2 then(((ZE (aj jv.2.1 2)).bind λ_=>δ (0)).bind λp51=>((ZE (aj jv.2.1 2)).bind λ_=>δ (p51)).bind λp52=>((ZE (aj jv.2.1 2)).bind λuP=>φ p52 uP).bind λnN=>((ZE (aj jv.2.1 3)).bind λpP=>l7 0 3 pP).bind λkR=>(((ψ 3 kR).bind λlX=>(Φ 0 lX [dY,(ε 0),i6]).bind λmZ=>δ mZ).bind λcs=>δ (SQ 3 (gd 3 1 cs))).bind λjW=>(Uv 3 (140737488355328 / 48) nN jW jv.2.2).bind λr60=>((ZE (aj jv.2.1 2)).bind λ_=>δ (0)).bind λp61=>((ZE (aj jv.2.1 2)).bind λ_=>δ (p61)).bind λp62=>(ZE (aj jv.2.1 2)).bind λME=>((Θ r60.1).bind λv=>δ [v]).bind λGF=>(Φ p62 GF ME).bind λxD=>(Z8 (aj jh 3) (ε 1)).bind λjH=>δ (l9,[(aj jv.2.1 0),(aj jv.2.1 1),(p6 xD),jH],r60.2))else ξ) (δ (Ψ 0,[(aj jh 0),(aj jh 1),(aj jh 2),(aj jh 3)],nL))
def Tv (a0:AV) (σ:Heap):aC:=(ψ 5 a0).bind λc1=>(φ 4 c1).bind λx2=>((A.oJ (.s 3) R6) [x2] σ).bind λr3=>((((Θ r3.1).bind λv=>δ [v]).bind λc4=>(Φ 4 c4 Ck).bind λc5=>δ c5).bind λcs=>δ (Λ cs)).bind λx6=>(ψ 5 x6).bind λc7=>(Φ 0 c7 Ck).bind λc8=>(φ 1 c1).bind λx9=>((A.oJ (.s 4) Se) [x9] r3.2).bind λjf=>((Θ jf.1).bind λv=>δ [v]).bind λgn=>(Φ 1 gn c8).bind λfq=>(φ 0 c1).bind λdg=>(UT dg).bind λdI=>(p7 (HD dg dI) [(p6 c1),(p6 Ck),(p6 fq),(ε 0)] jf.2).bind λnr=>bif nr.1==Ψ 0 then(((ZE (aj nr.2.1 0)).bind λ_=>δ (2)).bind λp68=>((ZE (aj nr.2.1 0)).bind λCP=>φ p68 CP).bind λmQ=>(UT mQ).bind λvn=>(p7 (HE mQ vn) [(aj nr.2.1 0),(aj nr.2.1 1),(aj nr.2.1 2),(ε 0)] nr.2.2).bind λBD=>bif BD.1==Ψ 4 then(((ZE (aj BD.2.1 0)).bind λ_=>δ (3)).bind λp99=>((ZE (aj BD.2.1 0)).bind λCn=>φ p99 Cn).bind λx101=>(UT x101).bind λx102=>(p7 (HF x101 x102) [(aj BD.2.1 1),(aj BD.2.1 2),(ε 0)] BD.2.2).bind λRb=>bif Rb.1==Ψ 6 then(((ZE (aj Rb.2.1 1)).bind λL6=>l7 0 5 L6).bind λYv=>(ZE (aj Rb.2.1 0)).bind λCp=>(ψ 5 Yv).bind λL7=>(Φ 0 L7 Cp).bind λF1=>(l7 0 5 F1).bind λx168=>l6 σ x168 Rb.2.2)else ξ)else ξ)else ξ
def OB:an->Heap->aC:=Ω η [sE] (.a [(.e 3 FQ),(.s 4),(.e 3 [.k,.k,(.s 3)]),(.e 2 [.k,(.e 11 qv)]),(.s 3)]) (ZY Tv)
def HN (y0:Nat) (zm:AV) (x95:AV):an->Heap->Option (AX×an×Heap):=λG6 az3=>(Sq (aj G6 1) x95).bind λx99=>Γ x99 ((UM 3 zm (aj G6 1)).bind λCE=>((χ CE az3).bind λFW=>l7 0 3 FW).bind λx102=>(ψ 3 x102).bind λWX=>(Φ 0 WX [(ε 0),(ε 0),(ε 0)]).bind λLU=>((ZE (aj G6 0)).bind λLV=>l7 0 5 LV).bind λCG=>(φ 1 LU).bind λCH=>(Ky [CG,CH] az3).bind λQ9=>(TH 0 Q9.1).bind λGm=>(TH 1 Q9.1).bind λJq=>(ψ 2 Gm).bind λI4=>(Φ 0 I4 [(ε 0),i6]).bind λavF=>(SD (S7 y0 0)).bind λx113=>(p5 0 x113).bind λx114=>(p5 0 x114).bind λx115=>((χ x115 Q9.2).bind λxw=>φ 0 xw).bind λGn=>(φ 0 LU).bind λCI=>(φ 2 LU).bind λGp=>(φ 1 avF).bind λGq=>((((Θ CI).bind λv=>δ [v]).bind λuF=>(Φ 3 uF [(ε 0),(ε 0),aY,(ε 0),(ε 0),i6,(ε 0),(ε 0),(ε 0),AV.nm]).bind λFY=>((Θ Gp).bind λv=>δ [v]).bind λLW=>(Φ 4 LW FY).bind λWZ=>((Θ Gq).bind λv=>δ [v]).bind λLX=>(Φ 5 LX WZ).bind λFZ=>((Θ (ε (-1))).bind λv=>δ [v]).bind λBe=>(Φ 6 Be FZ).bind λCo=>((Θ (ε 65535)).bind λv=>δ [v]).bind λW7=>(Φ 7 W7 Co).bind λW8=>((Θ (ε (-1))).bind λv=>δ [v]).bind λW9=>(Φ 8 W9 W8).bind λaBm=>δ aBm).bind λcs=>δ (Λ cs)).bind λMw=>(((ψ 10 Mw).bind λLY=>(Φ 0 LY [(ε 0),(ε 0),aY,(ε 0),(ε 0),i6,(ε 0),(ε 0),(ε 0),AV.nm]).bind λXb=>δ Xb).bind λcs=>δ (SQ 10 (gd 10 1 cs))).bind λMy=>(Uv 10 (140737488355328 / 96) Gn My Q9.2).bind λaic=>(SD (S7 y0 0)).bind λGt=>(p5 0 Gt).bind λYm=>(p5 0 Ym).bind λYn=>((Θ aic.1).bind λv=>δ [v]).bind λavK=>(l8 Yn avK aic.2).bind λXe=>(Z8 (aj G6 1) (ε 1)).bind λGu=>δ (l9,[(aj G6 0),Gu],Xe)) (δ (Ψ 6,[(aj G6 0),(aj G6 1)],az3))
def Fa (y0:Nat) (iq:AV) (gP:AV):an->Heap->Option (AX×an×Heap):=λv64 EN=>(Sq (aj v64 2) gP).bind λqH=>Γ qH ((UM 7 iq (aj v64 2)).bind λqI=>((χ qI EN).bind λCP=>l7 0 7 CP).bind λmQ=>(ψ 7 mQ).bind λwm=>(Φ 0 wm [dY,(ε 0),(ε 0),(ε 0),(ε 0),aY,i6]).bind λyU=>(SD (S7 y0 0)).bind λoc=>(p5 10 oc).bind λsY=>((χ sY EN).bind λAp=>φ 0 Ap).bind λrO=>((ZE (aj v64 1)).bind λ_=>δ (0)).bind λM9=>((ZE (aj v64 1)).bind λCR=>φ M9 CR).bind λxX=>(φ 0 yU).bind λpW=>((((Θ xX).bind λv=>δ [v]).bind λCS=>(Φ 0 CS [(ε 0),dY]).bind λAr=>((Θ pW).bind λv=>δ [v]).bind λCT=>(Φ 1 CT Ar).bind λqy=>δ qy).bind λcs=>δ (Λ cs)).bind λqJ=>(l7 0 7 yU).bind λxZ=>(A.iX (.s [0,2]) rO qJ xZ EN).bind λh87=>(Z8 (aj v64 2) (ε 1)).bind λvr=>δ (l9,[(aj v64 0),(aj v64 1),vr],h87)) (δ (Ψ 4,[(aj v64 0),(aj v64 1),(aj v64 2)],EN))
def Kp (y0:Nat) (y1:Nat) (jQ:AV) (gB:AV):an->Heap->Option (AX×an×Heap):=λv50 RW =>(Sq (aj v50 1) gB).bind λmD=>Γ mD ((UM 4 jQ (aj v50 1)).bind λnN=>((χ nN RW).bind λpP=>l7 0 4 pP).bind λkR=>(ψ 4 kR).bind λlX=>(Φ 0 lX [(ε 0),dY,(ε 0),(ε 0)]).bind λmZ=>(φ 1 mZ).bind λjW=>(WK .z (Vq y1) jW (Λ [dY,(ε 0),i6]) RW).bind λkX=>((ψ 3 kX).bind λnE=>φ 2 nE).bind λiq=>(UT iq).bind λgP=>(p7 (Fa (y0) iq gP) [(aj v50 0),(p6 mZ),(ε 0)] RW).bind λaAj=>bif aAj.1==Ψ 4 then((Z8 (aj v50 1) (ε 1)).bind λx90=>δ (l9,[(aj aAj.2.1 0),x90],aAj.2.2))else ξ) (δ (Ψ 2,[(aj v50 0),(aj v50 1)],RW))
def Ko (x29:AV) (eG:AV) (y0:Nat):an->Heap->Option (AX×an×Heap):=λv31 G5=>(Sq (aj v31 1) eG).bind λx34=>Γ x34 ((UM 3 x29 (aj v31 1)).bind λgj=>((χ gj G5).bind λmM=>l7 0 3 mM).bind λeY=>(ψ 3 eY).bind λoP=>(Φ 0 oP [dY,(ε 0),i6]).bind λmY=>(φ 0 mY).bind λfH=>(l7 0 3 mY).bind λiP=>(A.iX .z (Vq y0) fH iP G5).bind λh42=>(Z8 (aj v31 1) (ε 1)).bind λji=>δ (l9,[(aj v31 0),ji],h42)) (δ (Ψ 0,[(aj v31 0),(aj v31 1)],G5))
def O2 (a0:AV) (σ:Heap):aC:=(ψ 5 a0).bind λc1=>(l7 0 5 c1).bind λx2=>(Hz [x2] σ).bind λr3=>(Uq .i r3.1 (ε 0)).bind λx4=>Γ x4 (δ ((XF [Wp,r3.1]),r3.2)) ((l7 0 5 c1).bind λx5=>(OB [x5] r3.2).bind λr6=>(ψ 5 r6.1).bind λc7=>(Φ 0 c7 c1).bind λc8=>(l7 0 5 c8).bind λx9=>(((ψ 5 x9).bind λfM=>(Φ 4 fM [i6,(ε 0),(ε 0),aY,i6,i6,i6,i6,i6,i6,AV.nm,i6]).bind λgn=>((Θ (Vq r6.2.length)).bind λv=>δ [v]).bind λfq=>(Φ 10 fq gn).bind λjr=>δ jr).bind λcs=>δ (Λ cs)).bind λdI=>(ψ 12 dI).bind λkF=>(SD (S7 (r6.2++[YE []]).length 0)).bind λdJ=>(p5 0 dJ).bind λdz=>(p5 2 dz).bind λdh=>((Θ (ε 65535)).bind λv=>δ [v]).bind λiZ=>(l8 dh iZ ((r6.2++[YE []])++[Sd kF])).bind λkG=>(l7 0 2 c8).bind λdm=>(HL [dm] kG).bind λGZ=>(TH 0 GZ.1).bind λeU=>(TH 1 GZ.1).bind λx24=>(SD (S7 (r6.2++[YE []]).length 0)).bind λx25=>(p5 9 x25).bind λfF=>((Θ eU).bind λv=>δ [v]).bind λpO=>(l8 fF pO GZ.2).bind λnD=>(φ 0 c8).bind λx29=>(UT x29).bind λeG=>(p7 (Ko x29 eG nD.length) [(p6 c8),(ε 0)] (nD++[YE []])).bind λeR=>bif eR.1==Ψ 0 then(((ZE (aj eR.2.1 0)).bind λ_=>δ (0)).bind λain=>((ZE (aj eR.2.1 0)).bind λ_=>δ ((ain+1))).bind λM8=>((ZE (aj eR.2.1 0)).bind λmN=>φ M8 mN).bind λjQ=>(UT jQ).bind λgB=>(p7 (Kp ((r6.2++[YE []]).length) nD.length jQ gB) [(aj eR.2.1 0),(ε 0)] eR.2.2).bind λBC=>bif BC.1==Ψ 2 then(((ZE (aj BC.2.1 0)).bind λ_=>δ (4)).bind λp92=>((ZE (aj BC.2.1 0)).bind λwo=>φ p92 wo).bind λzm=>(UT zm).bind λx95=>(p7 (HN ((r6.2++[YE []]).length) zm x95) [(aj BC.2.1 0),(ε 0)] BC.2.2).bind λaid=>bif aid.1==Ψ 6 then(δ ((XF [(S7 (r6.2++[YE []]).length 0),(ε 0)]),aid.2.2))else ξ)else ξ)else ξ)
def Ib:an->Heap->aC:=Ω η [sE] .k (ZY O2)
def HJ (a0 a1 a2:AV) (σ:Heap):aC:=((ψ 5 a2).bind λcs=>δ (Sf cs)).bind λx1=>(p5 1 x1).bind λx2=>((χ x2 σ).bind λc3=>φ 0 c3).bind λx4=>(Wn .i x4 (ε 8)).bind λx5=>Γ x5 ((SD a1).bind λx6=>(p5 1 x6).bind λx7=>((χ x7 σ).bind λc8=>φ 0 c8).bind λx9=>(Z8 x9 (ε 1)).bind λbR=>(SD a1).bind λcR=>(p5 1 cR).bind λdc=>((Θ bR).bind λv=>δ [v]).bind λjr=>(l8 dc jr σ).bind λjN=>(p5 4 x1).bind λeE=>((χ eE jN).bind λoO=>φ 0 oO).bind λdz=>(SD a1).bind λdh=>(p5 2 dh).bind λfC=>((Θ dz).bind λv=>δ [v]).bind λkG=>(l8 fC kG jN).bind λkN=>δ ((ε 0),kN)) ((Wn .i x4 (ε 9)).bind λey=>Γ ey ((SD a1).bind λeU=>(p5 1 eU).bind λx24=>((χ x24 σ).bind λiL=>φ 0 iL).bind λfF=>(Z8 fF (ε 1)).bind λfG=>(SD a1).bind λx28=>(p5 1 x28).bind λx29=>((Θ fG).bind λv=>δ [v]).bind λAo=>(l8 x29 Ao σ).bind λwk=>(p5 4 x1).bind λx32=>((χ x32 wk).bind λGC=>φ 0 GC).bind λx34=>(Wn .i x34 (ε 1)).bind λgj=>(SD a1).bind λgX=>(p5 3 gX).bind λeY=>((Θ gj).bind λv=>δ [v]).bind λoP=>(l8 eY oP wk).bind λmY=>δ ((ε 0),mY)) ((SD a1).bind λfH=>(p5 0 fH).bind λiP=>((χ iP σ).bind λkO=>φ 0 kO).bind λji=>(Di (ZG (λ_ _=>ξ) [(352,Dj),(354,Dk)]) [ji,(AV.fn 352 [x1])] σ).bind λeR=>(SD a1).bind λgO=>(p5 0 gO).bind λjG=>((χ jG eR.2).bind λmN=>φ 0 mN).bind λjQ=>(UM 10 jQ eR.1).bind λgB=>(p5 1 x1).bind λnM=>((χ nM eR.2).bind λxC=>φ 0 xC).bind λfS=>(Wn .i fS (ε 1)).bind λmD=>Γ mD ((SD gB).bind λnN=>(p5 6 nN).bind λlD=>((χ lD eR.2).bind λsI=>φ 0 sI).bind λmE=>(Z8 mE (ε 1)).bind λkq=>(SD gB).bind λjW=>(p5 5 jW).bind λkX=>((χ kX eR.2).bind λnE=>φ 0 nE).bind λiq=>(UT iq).bind λgP=>(Wn .i kq gP).bind λqG=>Γ qG (δ ((ε 8),eR.2)) ((SD a1).bind λkY=>(p5 1 kY).bind λjH=>((χ jH eR.2).bind λCN=>φ 0 CN).bind λqI=>(Z8 qI (ε 1)).bind λjR=>(SD a1).bind λmQ=>(p5 1 mQ).bind λvn=>((Θ jR).bind λv=>δ [v]).bind λyU=>(l8 vn yU eR.2).bind λGG=>(ZC kq (ε 0)).bind λsY=>(Γ sY ((p5 0 x1).bind λrO=>((χ rO GG).bind λuQ=>φ 0 uQ).bind λoW=>(wG [a0,a1,eR.1,kq,oW] GG).bind λnu=>δ (([]:an),nu.2)) (δ (([]:an),GG))).bind λr75=>δ ((ε 0),r75.2))) ((Wn .i fS (ε 2)).bind λpW=>Γ pW ((SD gB).bind λoh=>(p5 6 oh).bind λxY=>((χ xY eR.2).bind λCT=>φ 0 CT).bind λHg=>(T6 Hg (ε 1)).bind λqJ=>(Sq qJ (ε 0)).bind λxZ=>Γ xZ (δ ((ε 8),eR.2)) ((SD a1).bind λya=>(p5 1 ya).bind λvr=>((χ vr eR.2).bind λoQ=>φ 0 oQ).bind λx90=>(Z8 x90 (ε 1)).bind λx91=>(SD a1).bind λvu=>(p5 1 vu).bind λx93=>((Θ x91).bind λv=>δ [v]).bind λxF=>(l8 x93 xF eR.2).bind λsL=>(ZC qJ (ε 0)).bind λx96=>(Γ x96 ((p5 0 x1).bind λx98=>((χ x98 sL).bind λCU=>φ 0 CU).bind λCE=>(wG [a0,a1,eR.1,qJ,CE] sL).bind λyK=>δ (([]:an),yK.2)) (δ (([]:an),sL))).bind λr97=>δ ((ε 0),r97.2))) ((Wn .i fS (ε 3)).bind λx102=>Γ x102 ((SD gB).bind λCF=>(p5 5 CF).bind λx104=>((χ x104 eR.2).bind λLV=>φ 0 LV).bind λCG=>(EU (ZG (λ_ _=>ξ) [(352,Dj),(354,Dk)]) [CG,(AV.fn 354 [x1])] eR.2).bind λJj=>(Sq Jj.1 (ε 0)).bind λGl=>Γ Gl (δ ((ε 8),Jj.2)) ((SD a1).bind λGm=>(p5 1 Gm).bind λJq=>((χ Jq Jj.2).bind λI4=>φ 0 I4).bind λx112=>(Z8 x112 (ε 1)).bind λx113=>(SD a1).bind λx114=>(p5 1 x114).bind λx115=>((Θ x113).bind λv=>δ [v]).bind λxw=>(l8 x115 xw Jj.2).bind λzZ=>(ZC Jj.1 (ε 0)).bind λCI=>(Γ CI ((p5 0 x1).bind λGq=>((χ Gq zZ).bind λuF=>φ 0 uF).bind λMs=>(wG [a0,a1,eR.1,Jj.1,Ms] zZ).bind λrD=>δ (([]:an),rD.2)) (δ (([]:an),zZ))).bind λaxn=>δ ((ε 0),axn.2))) ((Wn .i fS (ε 4)).bind λMt=>Γ Mt ((SD gB).bind λyP=>(p5 0 yP).bind λYk=>(p5 2 Yk).bind λMu=>((χ Mu eR.2).bind λCo=>φ 0 Co).bind λyQ=>(μ yQ ι (δ gB) aB).bind λGs=>(μ yQ ι (SD Gs) aB).bind λMv=>(μ yQ ι (p5 6 Mv) aB).bind λxz=>(μ yQ ι ((χ xz eR.2).bind λavI=>φ 0 avI) aB).bind λYl=>(μ yQ ι (Sq Yl (ε 0)) aB).bind λMx=>(p9 yQ dQ Mx).bind λMy=>Γ My (δ ((ε 10),eR.2)) ((SD gB).bind λMz=>(p5 0 Mz).bind λGt=>((χ Gt eR.2).bind λXc=>l7 0 3 Xc).bind λYn=>(p5 0 x1).bind λMA=>((χ MA eR.2).bind λXe=>φ 0 Xe).bind λGu=>(wh (zq [Yn,Gu] eR.2) eR.2).bind λYp=>(p5 0 x1).bind λYq=>((χ Yq eR.2).bind λavN=>φ 0 avN).bind λazf=>((((Θ Yp).bind λv=>δ [v]).bind λaBI=>(Φ 0 aBI [(ε 0),(ε 0),aY]).bind λLZ=>((Θ azf).bind λv=>δ [v]).bind λL0=>(Φ 1 L0 LZ).bind λL2=>((Θ dQ).bind λv=>δ [v]).bind λXg=>(Φ 2 Xg L2).bind λF0=>δ F0).bind λcs=>δ (Λ cs)).bind λYt=>(SD gB).bind λYu=>(p5 0 Yu).bind λaxI=>(ψ 3 Yt).bind λavQ=>(l8 axI avQ eR.2).bind λEc=>(SD a1).bind λx159=>(p5 1 x159).bind λx160=>((χ x160 Ec).bind λL5=>φ 0 L5).bind λaxK=>(Z8 axK (ε 1)).bind λaxL=>(SD a1).bind λYv=>(p5 1 Yv).bind λaxM=>((Θ axL).bind λv=>δ [v]).bind λF1=>(l8 axM F1 Ec).bind λCp=>(ZC (ε (-1)) (ε 0)).bind λx168=>(Γ x168 ((p5 0 x1).bind λaxN=>((χ axN Cp).bind λavT=>φ 0 avT).bind λaz8=>(wG [a0,a1,eR.1,(ε (-1)),az8] Cp).bind λaxp=>δ (([]:an),axp.2)) (δ (([]:an),Cp))).bind λaxo=>δ ((ε 0),axo.2))) ((Wn .i fS (ε 5)).bind λYx=>Γ Yx ((SD gB).bind λaxQ=>(p5 0 axQ).bind λYy=>(p5 2 Yy).bind λaxR=>((χ axR eR.2).bind λXj=>φ 0 Xj).bind λaxS=>(Yr axS).bind λaxT=>Γ axT (δ ((ε 10),eR.2)) ((SD gB).bind λaxU=>(p5 0 axU).bind λaxV=>(p5 0 axV).bind λYz=>((χ Yz eR.2).bind λazz=>φ 0 azz).bind λaxW=>(p5 0 x1).bind λaxX=>((χ axX eR.2).bind λav1=>φ 0 av1).bind λaxZ=>((((Θ axW).bind λv=>δ [v]).bind λav3=>(Φ 0 av3 [(ε 0),(ε 0),aY]).bind λav4=>((Θ axZ).bind λv=>δ [v]).bind λav5=>(Φ 1 av5 av4).bind λF2=>((Θ aY).bind λv=>δ [v]).bind λF3=>(Φ 2 F3 F2).bind λF4=>δ F4).bind λcs=>δ (Λ cs)).bind λax1=>(SD gB).bind λax2=>(p5 0 ax2).bind λax3=>(ψ 3 ax1).bind λav6=>(l8 ax3 av6 eR.2).bind λahz=>(SD a1).bind λaAA=>(p5 1 aAA).bind λax6=>((χ ax6 ahz).bind λaBF=>φ 0 aBF).bind λaBl=>(Z8 aBl (ε 1)).bind λazJ=>(SD a1).bind λax7=>(p5 1 ax7).bind λax8=>((Θ azJ).bind λv=>δ [v]).bind λawa=>(l8 ax8 awa ahz).bind λXm=>(ZC (ε (-1)) (ε 0)).bind λayb=>(Γ ayb ((p5 0 x1).bind λYD=>((χ YD Xm).bind λawd=>φ 0 awd).bind λayd=>(wG [a0,a1,eR.1,(ε (-1)),ayd] Xm).bind λaxr=>δ (([]:an),axr.2)) (δ (([]:an),Xm))).bind λaxq=>δ ((ε 0),axq.2))) ((Wn .i fS (ε 6)).bind λaye=>Γ aye ((SD gB).bind λayf=>(p5 6 ayf).bind λar4=>((χ ar4 eR.2).bind λawg=>φ 0 awg).bind λaAO=>(Sq aAO (ε 0)).bind λYG=>Γ YG (δ ((ε 10),eR.2)) ((SD a1).bind λYH=>(p5 1 YH).bind λYI=>((χ YI eR.2).bind λawh=>φ 0 awh).bind λayh=>(Z8 ayh (ε 1)).bind λYJ=>(SD a1).bind λYK=>(p5 1 YK).bind λYL=>((Θ YJ).bind λv=>δ [v]).bind λawi=>(l8 YL awi eR.2).bind λahA=>((χ x1 ahA).bind λawj=>l7 0 5 awj).bind λayj=>(J9 [a0,a1,gB,ayj] ahA).bind λaxu=>δ ((ε 0),axu.2))) ((Wn .i fS (ε 7)).bind λYM=>(Γ YM ((p5 4 x1).bind λYN=>((χ YN eR.2).bind λXp=>φ 0 Xp).bind λaym=>(SD gB).bind λayn=>(p5 7 ayn).bind λayo=>((Θ aym).bind λv=>δ [v]).bind λawm=>(l8 ayo awm eR.2).bind λawn=>δ (([]:an),awn)) (δ (([]:an),eR.2))).bind λaif=>(SD a1).bind λayp=>(p5 1 ayp).bind λayq=>((χ ayq aif.2).bind λawo=>φ 0 awo).bind λayr=>(Z8 ayr (ε 1)).bind λays=>(SD a1).bind λayt=>(p5 1 ayt).bind λayu=>((Θ ays).bind λv=>δ [v]).bind λawp=>(l8 ayu awp aif.2).bind λXq=>(ZC (ε (-1)) (ε 0)).bind λayv=>(Γ ayv ((p5 0 x1).bind λayw=>((χ ayw Xq).bind λawq=>φ 0 awq).bind λayx=>(wG [a0,a1,eR.1,(ε (-1)),ayx] Xq).bind λaxw=>δ (([]:an),axw.2)) (δ (([]:an),Xq))).bind λaxv=>δ ((ε 0),axv.2)))))))))
def Kg:an->Heap->aC:=Ω ι [] .k (A.lJ HJ)
def Ov (a0 a1:AV) (σ:Heap):aC:=(ψ 5 a1).bind λc1=>(SD a0).bind λx2=>(p5 11 x2).bind λx3=>((χ x3 σ).bind λc4=>φ 0 c4).bind λx5=>(UT x5).bind λx6=>(Wn .i x6 (ε 5000)).bind λx7=>(wh (mG [x7,(ε 2)] σ) σ).bind λx8=>(l7 0 5 c1).bind λx9=>(wh (Hw [x9] σ) σ).bind λbR=>(φ 0 c1).bind λcR=>(wh (Kr [cR] σ) σ).bind λdc=>(Yr dc).bind λdg=>(wh (mG [dg,(ε 1)] σ) σ).bind λdI=>(φ 0 c1).bind λeE=>(wh (BJ [a0] σ) σ).bind λdJ=>(Sq eE dJ).bind λdz=>(wh (mG [dz,(ε 7)] σ) σ).bind λdh=>((((Θ x8).bind λv=>δ [v]).bind λiZ=>(Φ 0 iZ [(ε 0),(ε 0),(ε 0),(ε 0)]).bind λkG=>((Θ bR).bind λv=>δ [v]).bind λkN=>(Φ 1 kN kG).bind λgR=>((Θ dI).bind λv=>δ [v]).bind λiK=>(Φ 2 iK gR).bind λjc=>((Θ dh).bind λv=>δ [v]).bind λiL=>(Φ 3 iL jc).bind λlz=>δ lz).bind λcs=>δ (SQ 1 (gd 1 4 cs))).bind λfG=>(wh (qM [fG] σ) σ).bind λx28=>(SD a0).bind λx29=>(p5 4 x29).bind λeG=>((χ eG σ).bind λwk=>l7 0 5 wk).bind λx32=>(l7 0 5 c1).bind λiN=>(wh (Hx [x32,iN] σ) σ).bind λx34=>((((Θ x28).bind λv=>δ [v]).bind λkg=>(Φ 0 kg [(ε 0),(ε 0)]).bind λmM=>((Θ x34).bind λv=>δ [v]).bind λlK=>(Φ 1 lK mM).bind λoP=>δ oP).bind λcs=>δ (SQ 1 (gd 1 2 cs))).bind λiO=>(wh (qM [iO] σ) σ).bind λfH=>(Uq .i fH (ε 0)).bind λiP=>Γ iP (δ (fH,σ)) ((φ 0 c1).bind λlC=>(HA [a0,lC] σ).bind λqE=>(ψ 4 qE.1).bind λCL=>(l8 (S7 qE.2.length 0) CL (qE.2++[Sd [i6,(ε 0),(ε 0),aY]])).bind λuN=>(l7 0 5 c1).bind λjG=>(Kg [a0,(S7 qE.2.length 0),jG] uN).bind λqF=>(Uq .i qF.1 (ε 0)).bind λjQ=>Γ jQ (δ (qF.1,qF.2)) (((χ (S7 qE.2.length 0) qF.2).bind λyT=>l7 0 4 yT).bind λnM=>(SD a0).bind λiT=>(p5 0 iT).bind λfS=>(ψ 4 nM).bind λuP=>(l8 fS uP qF.2).bind λrE=>(SD a0).bind λlD=>(p5 11 lD).bind λkR=>((χ kR rE).bind λlX=>φ 0 lX).bind λkq=>(l7 0 5 c1).bind λjW=>(((ψ 5 jW).bind λtW=>(Φ 0 tW [(ε 0),(ε 0),(ε 0),(ε 0),(ε 0)]).bind λnE=>δ nE).bind λcs=>δ (SQ 5 (gd 5 1 cs))).bind λiq=>(Uv 5 (140737488355328 / 40) kq iq rE).bind λEM=>(SD a0).bind λqG=>(p5 11 qG).bind λkY=>((Θ EM.1).bind λv=>δ [v]).bind λYR=>(l8 kY YR EM.2).bind λCN=>δ ((ε 0),CN)))
def E8:an->Heap->aC:=Ω ι [] .k (YS Ov)
def HG (a1:AV) (x4:AV) (x7:AV):an->Heap->Option (AX×an×Heap):=λv8 s9=>(Sq (aj v8 3) x7).bind λcR=>Γ cR ((UM 5 a1 (aj v8 3)).bind λdc=>((χ dc s9).bind λjr=>l7 0 5 jr).bind λdI=>(ψ 5 dI).bind λkF=>(Φ 0 kF [(ε 0),(ε 0),(ε 0),(ε 0),(ε 0)]).bind λoO=>(l7 0 5 oO).bind λdz=>(E8 [x4,dz] s9).bind λEJ=>(Uq .i EJ.1 (ε 0)).bind λfC=>Γ fC (δ (n9,[Wp,(aj v8 3),EJ.1,(aj v8 3)],EJ.2)) ((Z8 (aj v8 3) (ε 1)).bind λew=>δ (l9,[(aj v8 0),(aj v8 1),(aj v8 2),ew],EJ.2))) (δ (Ψ 0,[(aj v8 0),(aj v8 1),(aj v8 2),(aj v8 3)],s9))
def HO (a0 a1:AV) (σ:Heap):aC:=(ψ 5 a0).bind λc1=>(l7 0 5 c1).bind λx2=>(Ib [x2] σ).bind λr3=>(TH 0 r3.1).bind λx4=>(TH 1 r3.1).bind λx5=>(Uq .i x5 (ε 0)).bind λx6=>Γ x6 (δ ((XF [Wp,(ε 0),x5]),r3.2)) ((UT a1).bind λx7=>(p7 (HG a1 x4 x7) [Wp,(ε 0),(ε 0),(ε 0)] r3.2).bind λkW=>bif kW.1==Ψ 0 then(δ ((XF [x4,(ε 0),(ε 0)]),kW.2.2))else bif kW.1==n9 then(δ ((XF [(aj kW.2.1 0),(aj kW.2.1 1),(aj kW.2.1 2)]),kW.2.2))else ξ)
def Kq:an->Heap->aC:=Ω ι [] .k (YS HO)
def aag (a0 a1:AV) (σ:Heap):aC:=(ψ 10 a0).bind λc1=>(φ 3 c1).bind λx2=>((χ a1 σ).bind λc3=>φ 0 c3).bind λx4=>(Wn .i x2 x4).bind λx5=>l6 σ x5 σ
def Hq:an->Heap->aC:=Ω η [(.a [.k,.k,.k,.k,.k,(.s 11),.k,.k,.k,.k])] .k (YS aag)
def Oh (a0 a1 a2:AV) (σ:Heap):aC:=(((Θ a1).bind λv=>δ [v]).bind λcs=>δ (Sf cs)).bind λx1=>(SD a0).bind λx2=>(p5 0 x2).bind λx3=>(p5 0 x3).bind λx4=>((χ x4 σ).bind λc5=>φ 0 c5).bind λx6=>(Di (ZG (λ_ _=>ξ) [(358,Hq)]) [x6,(AV.fn 358 [x1])] σ).bind λr7=>(Kf [a0,a2] r7.2).bind λr8=>(Sq r7.1 (ε 0)).bind λx9=>(mG [x9,(ε 8)] r8.2).bind λjf=>((((Θ r8.1).bind λv=>δ [v]).bind λgn=>(Φ 0 gn [(ε 0),(ε 0)]).bind λfq=>((Θ jf.1).bind λv=>δ [v]).bind λjr=>(Φ 1 jr fq).bind λjN=>δ jN).bind λcs=>δ (SQ 1 (gd 1 2 cs))).bind λeE=>(qM [eE] jf.2).bind λxQ=>(Uq .i xQ.1 (ε 0)).bind λdz=>Γ dz ((ψ 10 (Λ [(ε 0),(ε 0),aY,(ε 0),(ε 0),i6,(ε 0),(ε 0),(ε 0),AV.nm])).bind λjt=>(Φ 0 jt [(ε 0),(ε 0),aY,(ε 0),(ε 0),i6,(ε 0),(ε 0),(ε 0),AV.nm]).bind λiZ=>(l7 0 10 iZ).bind λew=>l6 σ (XF [ew,xQ.1]) xQ.2) ((HA [a0,a2] xQ.2).bind λkW=>((ψ 4 kW.1).bind λgR=>φ 0 gR).bind λeU=>(UM 10 eU r7.1).bind λx24=>((χ x24 kW.2).bind λiL=>l7 0 10 iL).bind λfF=>(ψ 10 fF).bind λpO=>(Φ 0 pO [(ε 0),(ε 0),aY,(ε 0),(ε 0),i6,(ε 0),(ε 0),(ε 0),AV.nm]).bind λnD=>(l7 0 10 nD).bind λx29=>l6 σ (XF [x29,(ε 0)]) kW.2)
def Oe:an->Heap->aC:=Ω ι [] (.t [(.a [.k,.k,.k,.k,.k,(.e 11 qv),.k,.k,.k,.k]),.k]) (A.lJ Oh)
def ai9 (a0 a1:AV) (σ:Heap):aC:=(ψ 2 a0).bind λc1=>(ψ 2 a1).bind λc2=>(φ 0 c1).bind λx3=>(φ 0 c2).bind λx4=>(Uq .i x3 x4).bind λx5=>Γ x5 ((φ 0 c1).bind λx6=>(φ 0 c2).bind λx7=>(T6 x6 x7).bind λx8=>l6 σ x8 σ) ((φ 1 c1).bind λx9=>(φ 1 c2).bind λbR=>(Kc [x9,bR] σ).bind λdH=>l6 σ dH.1 dH.2)
def adm:an->Heap->aC:=Ω η [] .k (YS ai9)
def JV (y0:Option AV) (a2:AV) (y1:Nat) (y2:AV) (iT:AV):an->Heap->Option (AX×an×Heap):=λmP sV=>(Sq (aj mP 2) iT).bind λlD=>Γ lD ((UM 2 y2 (aj mP 2)).bind λkR=>((χ kR sV).bind λlX=>l7 0 2 lX).bind λkq=>(ψ 2 kq).bind λCM=>(Φ 0 CM [(ε 0),dY]).bind λtW=>(l7 0 2 tW).bind λmF=>y0.bind λiq=>((χ iq sV).bind λGF=>l7 0 3 GF).bind λqG=>(wh (zq [qG,a2] sV) sV).bind λkY=>(wh (uq [(S7 y1 0),mF,kY] sV) sV).bind λjH=>(TH 0 jH).bind λqH=>(TH 1 jH).bind λqI=>(ψ 9 qH).bind λCP=>(Φ 0 CP [(ε 0),(ε 0),(ε 0),(ε 0),(ε 0),(ε 0),i6,(ε 0),aY]).bind λEA=>(Yr qI).bind λvn=>Γ vn ((Z8 (aj mP 2) (ε 1)).bind λvq=>δ (l9,[(aj mP 0),(aj mP 1),vq],sV)) ((φ 6 EA).bind λoc=>((A.oJ (.s 2) EV) [oc] sV).bind λNb=>((Θ Nb.1).bind λv=>δ [v]).bind λAp=>(Φ 6 Ap EA).bind λAq=>((ZE (aj mP 1)).bind λ_=>δ (5)).bind λM9=>((ZE (aj mP 1)).bind λCR=>φ M9 CR).bind λxX=>(l7 0 2 tW).bind λpW=>(l7 0 7 Aq).bind λoh=>(φ 7 Aq).bind λxY=>(φ 8 Aq).bind λwF=>(((ψ 2 pW).bind λqy=>(Φ 0 qy [(ε 0),dY,(ε 0),(ε 0),(ε 0),(ε 0),(ε 0),(ε 0),i6,(ε 0),aY]).bind λuR=>(ψ 7 oh).bind λxE=>(Φ 2 xE uR).bind λqz=>((Θ xY).bind λv=>δ [v]).bind λsJ=>(Φ 9 sJ qz).bind λoQ=>((Θ wF).bind λv=>δ [v]).bind λsK=>(Φ 10 sK oQ).bind λMF=>δ MF).bind λcs=>δ (Λ cs)).bind λvu=>(((ψ 11 vu).bind λwo=>(Φ 0 wo [(ε 0),dY,(ε 0),(ε 0),(ε 0),(ε 0),(ε 0),(ε 0),i6,(ε 0),aY]).bind λxF=>δ xF).bind λcs=>δ (SQ 11 (gd 11 1 cs))).bind λx95=>(Uv 11 (140737488355328 / 112) xX x95 Nb.2).bind λr96=>((ZE (aj mP 1)).bind λ_=>δ (5)).bind λZI=>(ZE (aj mP 1)).bind λCn=>((Θ r96.1).bind λv=>δ [v]).bind λAs=>(Φ ZI As Cn).bind λCU=>(Z8 (aj mP 2) (ε 1)).bind λx101=>δ (l9,[(aj mP 0),(p6 CU),x101],r96.2))) (δ (Ψ 0,[(aj mP 0),(aj mP 1),(aj mP 2)],sV))
def N5 (a0 a1 a2:AV) (σ:Heap):aC:=(Oe [a0,a1,a2] σ).bind λr1=>(TH 0 r1.1).bind λx2=>(TH 1 r1.1).bind λx3=>(ψ 10 x2).bind λc4=>(l8 (S7 r1.2.length 0) c4 (r1.2++[Sd [(ε 0),(ε 0),aY,(ε 0),(ε 0),i6,(ε 0),(ε 0),(ε 0),AV.nm]])).bind λc5=>(Uq .i x3 (ε 0)).bind λx6=>Γ x6 ((ψ 6 (Λ [(ε 0),(ε 0),(ε 0),aY,(ε 0),i6])).bind λc7=>(Φ 0 c7 [(ε 0),(ε 0),(ε 0),aY,(ε 0),i6]).bind λc8=>(l7 0 6 c8).bind λx9=>l6 σ (XF [x9,x3]) c5) ((p5 7 (S7 r1.2.length 0)).bind λbR=>((χ bR c5).bind λgn=>φ 0 gn).bind λdc=>(p5 0 (S7 r1.2.length 0)).bind λdg=>(p5 2 dg).bind λdI=>((χ dI c5).bind λkF=>φ 0 kF).bind λdJ=>(wh (Dl [(S7 r1.2.length 0)] c5) c5).bind λdz=>((((Θ a1).bind λv=>δ [v]).bind λjt=>(Φ 0 jt [(ε 0),(ε 0),(ε 0),aY,(ε 0),i6]).bind λiZ=>((Θ dc).bind λv=>δ [v]).bind λkG=>(Φ 2 kG iZ).bind λkN=>((Θ dJ).bind λv=>δ [v]).bind λgR=>(Φ 3 gR kN).bind λiK=>((Θ dz).bind λv=>δ [v]).bind λjc=>(Φ 4 jc iK).bind λiL=>δ iL).bind λcs=>δ (Λ cs)).bind λfF=>(ψ 6 fF).bind λpO=>(Φ 0 pO [(ε 0),(ε 0),(ε 0),aY,(ε 0),i6]).bind λnD=>(p5 6 (S7 r1.2.length 0)).bind λx29=>((χ x29 c5).bind λAo=>φ 0 Ao).bind λx31=>(ZC x31 (ε 0)).bind λx32=>(Γ x32 ((p5 5 (S7 r1.2.length 0)).bind λx34=>((χ x34 c5).bind λkg=>φ 0 kg).bind λgX=>(p5 6 (S7 r1.2.length 0)).bind λeY=>((χ eY c5).bind λoP=>φ 0 oP).bind λiO=>(UM 11 gX iO).bind λfH=>(p5 0 fH).bind λiP=>((χ iP c5).bind λkO=>φ 0 kO).bind λji=>((Θ ji).bind λv=>δ [v]).bind λCL=>(Φ 1 CL nD).bind λuN=>δ ([(p6 [(ε 0),(ε 0),(ε 0),aY,(ε 0),i6]),(p6 uN)],c5)) (δ ([(p6 [(ε 0),(ε 0),(ε 0),aY,(ε 0),i6]),(p6 nD)],c5))).bind λsQ=>(p5 9 (S7 r1.2.length 0)).bind λjG=>((χ jG sQ.2).bind λmN=>φ 0 mN).bind λjQ=>(N4 [jQ] sQ.2).bind λzf=>(JX [zf.1,(AV.fn 372 [])] zf.2).bind λjv=>(UT jv.1).bind λiT=>(p7 (JV (p5 0 (S7 r1.2.length 0)) a2 r1.2.length jv.1 iT) [(aj sQ.1 0),(aj sQ.1 1),(ε 0)] jv.2).bind λQ8=>bif Q8.1==Ψ 0 then(((ZE (aj Q8.2.1 1)).bind λWX=>l7 0 6 WX).bind λx104=>(ZE (aj Q8.2.1 0)).bind λavB=>(ψ 6 x104).bind λLV=>(Φ 0 LV avB).bind λavA=>(l7 0 6 avA).bind λGl=>l6 σ (XF [Gl,(ε 0)]) Q8.2.2)else ξ)
def Ht:an->Heap->aC:=Ω ι [] (.t [(.a [.k,.k,.k,.k,.k,(.e 11 [.k,.k,.k,.k,.k,.k,.k,.k,(.s 2),.k,.k])]),.k]) (A.lJ N5)
end
section
def Tx (a0:AV) (σ:Heap):aC:=(Wn .i a0 (ε 24)).bind λx1=>(Γ x1 (δ ([x1],σ)) ((Wn .i a0 (ε 25)).bind λx3=>(Γ x3 (δ ([x3],σ)) ((Wn .i a0 (ε 30)).bind λx5=>δ ([x5],σ))).bind λr4=>δ ([(aj r4.1 0)],r4.2))).bind λr2=>Γ (aj r2.1 0) (l6 σ (XF [a0,(ε 1),dQ]) r2.2) ((Wn .i a0 (ε 29)).bind λx6=>Γ x6 (l6 σ (XF [(ε 30000),(ε 1001),dQ]) r2.2) (l6 σ (XF [(ε 0),(ε 0),aY]) r2.2))
def OC:an->Heap->aC:=Ω η [] .k (ZY Tx)
def TJ (a0:AV) (σ:Heap):aC:=(OC [a0] σ).bind λr1=>(TH 0 r1.1).bind λx2=>(TH 1 r1.1).bind λx3=>(TH 2 r1.1).bind λx4=>(Yr x4).bind λx5=>(mG [x5,(ε 16)] r1.2).bind λr6=>l6 σ r6.1 r6.2
def Kv:an->Heap->aC:=Ω η [] .k (ZY TJ)
def T8 (a0:AV) (σ:Heap):aC:=(Wn .i a0 (ε 29)).bind λx1=>Γ x1 (l6 σ (ε 2589408) σ) ((WR (ε 86400) a0).bind λx2=>l6 σ x2 σ)
def H6:an->Heap->aC:=Ω η [] .k (ZY T8)
def Tj (a0 a1:AV) (σ:Heap):aC:=(ψ 5 a0).bind λc1=>(φ 4 c1).bind λx2=>(UT x2).bind λx3=>(p7 (λv4 s5=>(Sq (aj v4 2) x3).bind λx7=>Γ x7 ((UM 3 x2 (aj v4 2)).bind λx8=>((χ x8 s5).bind λc9=>l7 0 3 c9).bind λbR=>(ψ 3 bR).bind λgn=>(Φ 0 gn [(ε 0),(ε 0),(ε 0)]).bind λfq=>((ZE (aj v4 0)).bind λ_=>δ (3)).bind λZB=>((ZE (aj v4 0)).bind λjN=>φ ZB jN).bind λeE=>(UT eE).bind λdJ=>(p7 (λv17 sS=>(Sq (aj v17 3) dJ).bind λew=>Γ ew ((UM 2 eE (aj v17 3)).bind λdm=>((χ dm sS).bind λgR=>l7 0 2 gR).bind λeU=>(ψ 2 eU).bind λjc=>(Φ 0 jc [(ε 0),i6]).bind λiL=>((ZE (aj v17 2)).bind λ_=>δ (0)).bind λp26=>((ZE (aj v17 2)).bind λpO=>φ p26 pO).bind λx28=>(Wn .i x28 a1).bind λx29=>(μ x29 η (φ 0 iL) aB).bind λeG=>((ZE (aj v17 2)).bind λ_ => δ (1)).bind λp31 =>(μ x29 η ((ZE (aj v17 2)).bind λCK=>φ p31 CK) aB).bind λiN=>(μ x29 η (Wn .i eG iN) aB).bind λx34=>(p9 x29 x34 aY).bind λgj=>Γ gj ((φ 1 iL).bind λgX=>δ (n9,[(aj v17 0),gX,(aj v17 2),(aj v17 3)],sS)) ((Z8 (aj v17 3) (ε 1)).bind λeY=>δ (l9,[(aj v17 0),(aj v17 1),(aj v17 2),eY],sS))) (δ (Ψ 2,[(aj v17 0),(aj v17 1),(aj v17 2),(aj v17 3)],sS))) [(aj v4 0),(aj v4 1),(p6 fq),(ε 0)] s5).bind λsR=>bif sR.1==Ψ 2 then((Z8 (aj v4 2) (ε 1)).bind λiO=>δ (l9,[(aj sR.2.1 0),(aj sR.2.1 1),iO],sR.2.2))else bif sR.1==n9 then(δ (n9,[(aj sR.2.1 0),(aj sR.2.1 1),(aj v4 2)],sR.2.2))else ξ) (δ (Ψ 0,[(aj v4 0),(aj v4 1),(aj v4 2)],s5))) [(p6 c1),i6,(ε 0)] σ).bind λxS=>bif xS.1==Ψ 0 then(l6 σ i6 xS.2.2)else bif xS.1==n9 then(l6 σ (aj xS.2.1 1) xS.2.2)else ξ
def Ou:an->Heap->aC:=Ω η [sE] (.e 11 qv) (YS Tj)
def aBx (a0 a1:AV) (σ:Heap):aC:=(ψ 11 a0).bind λc1=>(φ 0 c1).bind λx2=>(p5 3 a1).bind λx3=>((χ x3 σ).bind λc4=>φ 0 c4).bind λx5=>(Wn .i x2 x5).bind λx6=>l6 σ x6 σ
def JY:an->Heap->aC:=Ω η [(.a qv)] .k (YS aBx)
def N7 (a0 a1 a2:AV) (σ:Heap):aC:=(ψ 5 a0).bind λc1=>(l7 0 5 c1).bind λx2=>(Hz [x2] σ).bind λr3=>(Kv [a1] r3.2).bind λr4=>(UT a2).bind λx5=>(Tt x5 (ε 2000)).bind λx6=>(mG [x6,(ε 2)] r4.2).bind λr7=>((((Θ r3.1).bind λv=>δ [v]).bind λc8=>(Φ 0 c8 [(ε 0),(ε 0),(ε 0)]).bind λc9=>((Θ r4.1).bind λv=>δ [v]).bind λfM=>(Φ 1 fM c9).bind λgn=>((Θ r7.1).bind λv=>δ [v]).bind λfq=>(Φ 2 fq gn).bind λjr=>δ jr).bind λcs=>δ (SQ 1 (gd 1 3 cs))).bind λdI=>(qM [dI] r7.2).bind λmC=>(Uq .i mC.1 (ε 0)).bind λdJ=>Γ dJ (l6 σ mC.1 mC.2) ((UT a2).bind λdz=>(p7 (λgJ rK=>(Sq (aj gJ 2) dz).bind λdm=>Γ dm ((UM 6 a2 (aj gJ 2)).bind λey=>((χ ey rK).bind λiK=>l7 0 6 iK).bind λx24=>(ψ 6 x24).bind λiL=>(Φ 0 iL [(ε 0),(ε 0),(ε 0),(ε 0),(ε 0),(ε 0)]).bind λlz=>(l7 1 5 lz).bind λfG=>(ψ 5 fG).bind λnD=>(l8 (S7 rK.length 0) nD (rK++[Sd [(ε 0),(ε 0),(ε 0),(ε 0),(ε 0)]])).bind λiA=>(φ 0 lz).bind λeG=>(wh (H6 [a1] iA) iA).bind λx31=>(T6 x31 (ε 1)).bind λx32=>(wh (jS [eG,(ε 0),x32] iA) iA).bind λiN=>(Yr iN).bind λx34=>(wh (mG [x34,(ε 1)] iA) iA).bind λgj=>(Tt (aj gJ 2) (ε 0)).bind λgX=>(μ gX η (φ 0 lz) aB).bind λeY=>(μ gX η (δ a2) aB).bind λx38=>(μ gX η (δ (aj gJ 2)) aB).bind λiO=>(μ gX η (T6 iO (ε 1)) aB).bind λfH=>(μ gX η (UM 6 x38 fH) aB).bind λiP=>(μ gX η (p5 0 iP) aB).bind λlC=>(μ gX η ((χ lC iA).bind λsG=>φ 0 sG) aB).bind λjx=>(μ gX η (Sq eY jx) aB).bind λgO=>(p9 gX gO aY).bind λjG=>(wh (mG [jG,(ε 7)] iA) iA).bind λjP=>((((Θ gj).bind λv=>δ [v]).bind λsH=>(Φ 0 sH [(ε 0),(ε 0)]).bind λyT=>((Θ jP).bind λv=>δ [v]).bind λuO=>(Φ 1 uO yT).bind λxC=>δ xC).bind λcs=>δ (SQ 1 (gd 1 2 cs))).bind λfS=>(wh (qM [fS] iA) iA).bind λmD=>((χ (S7 rK.length 0) iA).bind λrE=>l7 0 5 rE).bind λlD=>(wh (Hw [lD] iA) iA).bind λkR=>(p5 0 (S7 rK.length 0)).bind λmE=>((χ mE iA).bind λmZ=>φ 0 mZ).bind λjW=>(Uq .i jW (ε 0)).bind λkX=>(wh (mG [kX,(ε 3)] iA) iA).bind λmF=>((ZE (aj gJ 0)).bind λaAa=>l7 0 5 aAa).bind λgP=>((χ (S7 rK.length 0) iA).bind λxD=>l7 0 5 xD).bind λkY=>(wh (Hx [gP,kY] iA) iA).bind λjH=>((((Θ mD).bind λv=>δ [v]).bind λCN=>(Φ 0 CN [(ε 0),(ε 0),(ε 0),(ε 0)]).bind λCO=>((Θ kR).bind λv=>δ [v]).bind λCP=>(Φ 1 CP CO).bind λEA=>((Θ mF).bind λv=>δ [v]).bind λwm=>(Φ 2 wm EA).bind λyU=>((Θ jH).bind λv=>δ [v]).bind λGG=>(Φ 3 GG yU).bind λCQ=>δ CQ).bind λcs=>δ (SQ 1 (gd 1 4 cs))).bind λkr=>(wh (qM [kr] iA) iA).bind λrO=>(Uq .i rO (ε 0)).bind λAJ=>Γ AJ (δ (n9,[(aj gJ 0),rO,(aj gJ 2)],iA)) ((p5 1 (S7 rK.length 0)).bind λoW=>((χ oW iA).bind λGH=>φ 0 GH).bind λpW=>(Wn .i pW (ε 3)).bind λoh=>(μ oh η ((ZE (aj gJ 0)).bind λAr=>l7 0 5 Ar) aB).bind λwF=>(μ oh η (p5 2 (S7 rK.length 0)) aB).bind λHg=>(μ oh η ((χ Hg iA).bind λuR=>φ 0 uR) aB).bind λxZ=>(μ oh η (wh (Ou [wF,xZ] iA) iA) aB).bind λya=>(μ oh η (δ (AV.fn 157 [(S7 rK.length 0)])) aB).bind λvr=>(μ oh η (wh (NR (ZG (λ_ _=>ξ) [(157,JY)]) [ya,vr] iA) iA) aB).bind λHh=>(μ oh η (Yr Hh) aB).bind λx90=>(p9 oh x90 aY).bind λx91=>Γ x91 (δ (n9,[(aj gJ 0),(ε 8),(aj gJ 2)],iA)) ((Z8 (aj gJ 2) (ε 1)).bind λvu=>δ (l9,[(aj gJ 0),(aj gJ 1),vu],iA)))) (δ (Ψ 0,[(aj gJ 0),(aj gJ 1),(aj gJ 2)],rK))) [(p6 c1),(ε 0),(ε 0)] mC.2).bind λNh=>bif Nh.1==Ψ 0 then(l6 σ (ε 0) Nh.2.2)else bif Nh.1==n9 then(l6 σ (aj Nh.2.1 1) Nh.2.2)else ξ)
def Sy:an->Heap->aC:=Ω η [sE,.k,(.s 6)] .k (A.lJ N7)
def aAV (a0 a1 a2 a3 a4:AV) (σ:Heap):aC:=(ψ 5 a0).bind λc1=>(l7 0 5 c1).bind λx2=>(Sy [x2,a1,a2] σ).bind λr3=>(Y0 (ε 0) a3).bind λx4=>(μ x4 η (δ a3) aB).bind λx5=>(μ x4 η (δ a4) aB).bind λx6=>(μ x4 η (Y0 x5 x6) aB).bind λx7=>(p9 x4 x7 aY).bind λx8=>(μ x8 η (δ a4) aB).bind λx9=>(μ x8 η (δ a1) aB).bind λbR=>(μ x8 η (wh (H6 [bR] r3.2) r3.2) aB).bind λcR=>(μ x8 η (Y0 x9 cR) aB).bind λdc=>(p9 x8 dc aY).bind λdg=>(Yr dg).bind λdI=>(mG [dI,(ε 1)] r3.2).bind λmC=>((((Θ r3.1).bind λv=>δ [v]).bind λoO=>(Φ 0 oO [(ε 0),(ε 0)]).bind λmL=>((Θ mC.1).bind λv=>δ [v]).bind λjt=>(Φ 1 jt mL).bind λiZ=>δ iZ).bind λcs=>δ (SQ 1 (gd 1 2 cs))).bind λew=>(qM [ew] mC.2).bind λkW=>(Uq .i kW.1 (ε 0)).bind λey=>Γ ey (l6 σ (XF [i6,kW.1]) kW.2) ((UT a2).bind λeU=>(p7 (λv24 RT=>(Sq (aj v24 1) eU).bind λfG=>Γ fG ((UM 6 a2 (aj v24 1)).bind λx28=>((χ x28 RT).bind λiA=>l7 0 6 iA).bind λeG=>(ψ 6 eG).bind λwk=>(Φ 0 wk [(ε 0),(ε 0),(ε 0),(ε 0),(ε 0),(ε 0)]).bind λCK=>(φ 0 CK).bind λiN=>(Y0 a3 iN).bind λx34=>(μ x34 η (φ 0 CK) aB).bind λgj=>(μ x34 η (δ a4) aB).bind λgX=>(μ x34 η (Sq gj gX) aB).bind λeY=>(p9 x34 eY aY).bind λx38=>(Γ x38 ((l7 0 6 CK).bind λfH=>(((ψ 6 fH).bind λuM=>(Φ 0 uM [(ε 0),(ε 0),(ε 0),(ε 0),(ε 0),(ε 0)]).bind λkO=>δ kO).bind λcs=>δ (SQ 6 (gd 6 1 cs))).bind λji=>(Uv 6 (140737488355328 / 48) (aj v24 0) ji RT).bind λeR=>δ ([eR.1],eR.2)) (δ ([(aj v24 0)],RT))).bind λuY=>(Z8 (aj v24 1) (ε 1)).bind λgO=>δ (l9,[(aj uY.1 0),gO],uY.2)) (δ (Ψ 0,[(aj v24 0),(aj v24 1)],RT))) [i6,(ε 0)] kW.2).bind λnK=>bif nK.1==Ψ 0 then(l6 σ (XF [(aj nK.2.1 0),(ε 0)]) nK.2.2)else ξ)
def KA:an->Heap->aC:=Ω η [sE,.k,(.s 6)] (.t [(.s 6),.k]) (A.wj aAV)
def S5 (a0:AV) (σ:Heap):aC:=(jS [a0,(ε 0),(ε 36000000)] σ).bind λr1=>l6 σ r1.1 r1.2
def wJ:an->Heap->aC:=Ω η [] .k (ZY S5)
def Tk (a0 a1:AV) (σ:Heap):aC:=(OC [a0] σ).bind λr1=>(TH 0 r1.1).bind λx2=>(TH 1 r1.1).bind λx3=>(TH 2 r1.1).bind λx4=>(WR a1 (ε 1000)).bind λx5=>(WR x5 x3).bind λx6=>(OG [x6,x2] r1.2).bind λr7=>l6 σ r7.1 r7.2
def BK:an->Heap->aC:=Ω η [] .k (YS Tk)
def S6 (dyn:Nat->an->Heap->aC) (a0 a1 a2 a3 a4:AV) (σ:Heap):aC:=(ψ 6 a0).bind λc1=>((χ a1 σ).bind λc2=>φ 0 c2).bind λx3=>((χ a2 σ).bind λc4=>φ 0 c4).bind λx5=>((χ a3 σ).bind λc6=>φ 0 c6).bind λx7=>(φ 0 c1).bind λx8=>((χ a4 σ).bind λc9=>φ 0 c9).bind λbR=>(T6 x8 bR).bind λcR=>(wh (BK [x7,cR] σ) σ).bind λdc=>(Z8 x5 dc).bind λdg=>(wh (A.jC dyn x3 [dg] σ) σ).bind λdI=>(Yr dI).bind λeE=>l6 σ eE σ
def E6 (dyn:Nat->an->Heap->aC):an->Heap->aC:=Ω η [] .k (A.wj (S6 dyn))
def az9 (a0 a1:AV) (σ:Heap):aC:=(Kv [a0] σ).bind λr1=>(H6 [a0] r1.2).bind λr2=>(jS [a1,(ε 0),r2.1] r2.2).bind λr3=>(Yr r3.1).bind λx4=>(mG [x4,(ε 1)] r3.2).bind λr5=>((((Θ r1.1).bind λv=>δ [v]).bind λc6=>(Φ 0 c6 [(ε 0),(ε 0)]).bind λc7=>((Θ r5.1).bind λv=>δ [v]).bind λc8=>(Φ 1 c8 c7).bind λc9=>δ c9).bind λcs=>δ (SQ 1 (gd 1 2 cs))).bind λbR=>(qM [bR] r5.2).bind λdH=>(Uq .i dH.1 (ε 0)).bind λdc=>Γ dc (l6 σ (XF [(ε 0),dH.1]) dH.2) ((BK [a0,a1] dH.2).bind λqB=>l6 σ (XF [qB.1,(ε 0)]) qB.2)
def Td:an->Heap->aC:=Ω η [] .k (YS az9)
def KD (a0 a1 a2 a3 a4 a5:AV) (σ:Heap):aC:=(ψ 5 a0).bind λc1=>(((Θ a1).bind λv=>δ [v]).bind λcs=>δ (Sf cs)).bind λx2=>(((Θ a3).bind λv=>δ [v]).bind λcs=>δ (Sf cs)).bind λx3=>(((Θ a5).bind λv=>δ [v]).bind λcs=>δ (Sf cs)).bind λx4=>(l7 0 5 c1).bind λx5=>((χ x2 σ).bind λc6=>φ 0 c6).bind λx7=>((χ x3 σ).bind λc8=>φ 0 c8).bind λx9=>(KA [x5,x7,a2,x9,a4] σ).bind λjf=>(TH 0 jf.1).bind λcR=>(TH 1 jf.1).bind λdc=>(Uq .i dc (ε 0)).bind λdg=>Γ dg (δ ((XF [Wp,dc]),jf.2)) (((Θ (AV.fn 501 [])).bind λv=>δ [v]).bind λjN=>(l8 (S7 jf.2.length 0) jN (jf.2++[Sd [AV.ze]])).bind λkF=>((χ (S7 jf.2.length 0) kF).bind λoO=>φ 0 oO).bind λdz=>((χ x4 kF).bind λjt=>φ 0 jt).bind λfC=>(A.jC (ZG (λ_ _=>ξ) [(501,wJ),(503,E6 (ZG (λ_ _=>ξ) [(501,wJ)]))]) dz [fC] kF).bind λuj=>(Yr uj.1).bind λdm=>(μ dm ι (δ cR) aB).bind λey=>(μ dm ι (δ (AV.fn 503 [(S7 jf.2.length 0),x4,x2,x3])) aB).bind λeU=>(μ dm ι (wh (JT (ZG (λ_ _=>ξ) [(501,wJ),(503,E6 (ZG (λ_ _=>ξ) [(501,wJ)]))]) [ey,eU] uj.2) uj.2) aB).bind λx24=>(p9 dm dQ x24).bind λx25=>Γ x25 (δ ((XF [Wp,(ε 1)]),uj.2)) ((UT cR).bind λfF=>(Tt fF (ε 5000)).bind λfG=>Γ fG (δ ((XF [Wp,(ε 2)]),uj.2)) ((l7 0 5 c1).bind λx28=>(Ib [x28] uj.2).bind λnj=>(TH 0 nj.1).bind λeG=>(TH 1 nj.1).bind λx31=>(Uq .i x31 (ε 0)).bind λx32=>Γ x32 (δ ((XF [Wp,x31]),nj.2)) ((UT cR).bind λiN=>(p7 (λDg sU=>(Sq (aj Dg 0) iN).bind λeY=>Γ eY ((UM 6 cR (aj Dg 0)).bind λx38=>((χ x38 sU).bind λmY=>l7 0 6 mY).bind λfH=>(ψ 6 fH).bind λuM=>(Φ 0 uM [(ε 0),(ε 0),(ε 0),(ε 0),(ε 0),(ε 0)]).bind λkO=>((χ x4 sU).bind λsG=>φ 0 sG).bind λjx=>((χ x2 sU).bind λuN=>φ 0 uN).bind λjG=>(φ 0 kO).bind λjP=>((χ x3 sU).bind λsH=>φ 0 sH).bind λgB=>(T6 jP gB).bind λnM=>(wh (BK [jG,nM] sU) sU).bind λiT=>(Z8 jx iT).bind λfS=>((Θ fS).bind λv=>δ [v]).bind λuP=>(Φ 1 uP kO).bind λrE=>(l7 1 5 rE).bind λlD=>(E8 [eG,lD] sU).bind λEL=>(Z8 (aj Dg 0) (ε 1)).bind λmE=>δ (l9,[mE],EL.2)) (δ (Ψ 0,[(aj Dg 0)],sU))) [(ε 0)] nj.2).bind λJP=>bif JP.1==Ψ 0 then(δ ((XF [eG,(ε 0)]),JP.2.2))else ξ))))
def Kz:an->Heap->aC:=Ω η [sE,.k,(.s 6)] .k (A.Br KD)
def Tw (a0 a1 a2 a3 a4:AV) (σ:Heap):aC:=(ψ 5 a0).bind λc1=>(l7 0 5 c1).bind λx2=>(Kz [x2,a1,a2,a3,a4,(ε 0)] σ).bind λr3=>(TH 0 r3.1).bind λx4=>(TH 1 r3.1).bind λx5=>(Uq .i x5 (ε 0)).bind λx6=>Γ x6 (l6 σ (XF [i6,x5]) r3.2) ((T6 a4 a3).bind λx7=>(BK [a1,x7] r3.2).bind λr8=>(BJ [x4] r8.2).bind λr9=>(A.max r8.1 r9.1).bind λbR=>(Tt bR (ε 36000000)).bind λcR=>Γ cR (l6 σ (XF [i6,(ε 1)]) r9.2) ((φ 4 c1).bind λdc=>(UT dc).bind λdg=>(p7 (λrM BG=>(Sq (aj rM 4) dg).bind λdz=>Γ dz ((UM 3 dc (aj rM 4)).bind λdh=>((χ dh BG).bind λiZ=>l7 0 3 iZ).bind λew=>(ψ 3 ew).bind λkN=>(Φ 0 kN [(ε 0),(ε 0),(ε 0)]).bind λgR=>(φ 0 gR).bind λeU=>(Ht [x4,eU,bR] BG).bind λqC=>(TH 0 qC.1).bind λx25=>(TH 1 qC.1).bind λfF=>(ψ 6 x25).bind λpO=>(Φ 0 pO [(ε 0),(ε 0),(ε 0),aY,(ε 0),i6]).bind λnD=>(φ 1 nD).bind λx29=>(Tt x29 (ε 0)).bind λeG=>(Γ eG ((φ 0 gR).bind λx32=>(φ 1 nD).bind λiN=>((((Θ (ε 3)).bind λv=>δ [v]).bind λuL=>(Φ 1 uL [(ε 0),(ε 0),(ε 0),(ε 0),(ε 0)]).bind λkg=>((Θ x32).bind λv=>δ [v]).bind λmM=>(Φ 2 mM kg).bind λlK=>((Θ iN).bind λv=>δ [v]).bind λoP=>(Φ 3 oP lK).bind λmY=>δ mY).bind λcs=>δ (Λ cs)).bind λfH=>(((ψ 5 fH).bind λuM=>(Φ 0 uM [(ε 0),(ε 0),(ε 0),(ε 0),(ε 0)]).bind λkO=>δ kO).bind λcs=>δ (SQ 5 (gd 5 1 cs))).bind λji=>(Uv 5 (140737488355328 / 40) (aj rM 1) ji qC.2).bind λeR=>δ ([(aj rM 0),eR.1,(p6 gR),(p6 nD)],eR.2)) (δ ([(aj rM 0),(aj rM 1),(p6 gR),(p6 nD)],qC.2))).bind λoa=>((ZE (aj oa.1 3)).bind λ_=>δ (2)).bind λain=>((ZE (aj oa.1 3)).bind λGD=>φ ain GD).bind λjP=>(Uq .i jP (ε 65535)).bind λjQ=>(Γ jQ (((ZE (aj oa.1 2)).bind λ_=>δ (0)).bind λp50=>((ZE (aj oa.1 2)).bind λxC=>φ p50 xC).bind λfS=>((ZE (aj oa.1 3)).bind λ_=>δ (2)).bind λp53=>((ZE (aj oa.1 3)).bind λrE=>φ p53 rE).bind λlD=>((((Θ (ε 7)).bind λv=>δ [v]).bind λsI=>(Φ 1 sI [(ε 0),(ε 0),(ε 0),(ε 0),(ε 0)]).bind λlX=>((Θ fS).bind λv=>δ [v]).bind λmZ=>(Φ 2 mZ lX).bind λCM=>((Θ lD).bind λv=>δ [v]).bind λtW=>(Φ 4 tW CM).bind λnE=>δ nE).bind λcs=>δ (Λ cs)).bind λiq=>(((ψ 5 iq).bind λGF=>(Φ 0 GF [(ε 0),(ε 0),(ε 0),(ε 0),(ε 0)]).bind λxD=>δ xD).bind λcs=>δ (SQ 5 (gd 5 1 cs))).bind λkY=>(Uv 5 (140737488355328 / 40) (aj rM 2) kY oa.2).bind λDb=>δ ([(aj oa.1 0),Db.1,(aj oa.1 2),(aj oa.1 3)],Db.2)) (δ ([(aj oa.1 0),(aj rM 2),(aj oa.1 2),(aj oa.1 3)],oa.2))).bind λzf=>((ZE (aj zf.1 3)).bind λ_=>δ (3)).bind λp67=>((ZE (aj zf.1 3)).bind λCO=>φ p67 CO).bind λjR=>(Γ jR (((ZE (aj zf.1 2)).bind λ_=>δ (0)).bind λp71=>((ZE (aj zf.1 2)).bind λyU=>φ p71 yU).bind λoc=>((((Θ (ε 4)).bind λv=>δ [v]).bind λCQ=>(Φ 1 CQ [(ε 0),(ε 0),(ε 0),(ε 0),(ε 0)]).bind λAp=>((Θ oc).bind λv=>δ [v]).bind λAq=>(Φ 2 Aq Ap).bind λuQ=>δ uQ).bind λcs=>δ (Λ cs)).bind λoW=>(((ψ 5 oW).bind λGH=>(Φ 0 GH [(ε 0),(ε 0),(ε 0),(ε 0),(ε 0)]).bind λJv=>δ Jv).bind λcs=>δ (SQ 5 (gd 5 1 cs))).bind λoh=>(Uv 5 (140737488355328 / 40) (aj rM 3) oh zf.2).bind λNd=>δ ([(aj zf.1 0),Nd.1],Nd.2)) (δ ([(aj zf.1 0),(aj rM 3)],zf.2))).bind λaAc=>(Z8 (aj rM 4) (ε 1)).bind λwF=>δ (l9,[(aj aAc.1 0),(aj oa.1 1),(aj zf.1 1),(aj aAc.1 1),wF],aAc.2)) (δ (Ψ 0,[(aj rM 0),(aj rM 1),(aj rM 2),(aj rM 3),(aj rM 4)],BG))) [(p6 c1),i6,i6,i6,(ε 0)] r9.2).bind λvf=>bif vf.1==Ψ 0 then(((((Θ (aj vf.2.1 1)).bind λv=>δ [v]).bind λuR=>(Φ 0 uR [i6,i6,i6]).bind λxE=>((Θ (aj vf.2.1 2)).bind λv=>δ [v]).bind λqz=>(Φ 1 qz xE).bind λsJ=>((Θ (aj vf.2.1 3)).bind λv=>δ [v]).bind λoQ=>(Φ 2 oQ sJ).bind λsK=>δ sK).bind λcs=>δ (SQ 1 (gd 1 3 cs))).bind λx91=>(NZ [x91] vf.2.2).bind λNg=>((ZE (aj vf.2.1 0)).bind λwo=>l7 0 5 wo).bind λzm=>(KA [zm,a1,a2,a3,a4] Ng.2).bind λZQ=>(TH 0 ZQ.1).bind λx96=>(TH 1 ZQ.1).bind λJS=>(UT (SQ 1 [[(ε 8)],[(ε 9)]])).bind λx98=>(p7 (λJR X9=>(Sq (aj JR 1) x98).bind λx102=>Γ x102 ((UM 1 (SQ 1 [[(ε 8)],[(ε 9)]]) (aj JR 1)).bind λCF=>((χ CF X9).bind λLU=>φ 0 LU).bind λGk=>(UT x96).bind λCG=>(T6 CG (ε 1)).bind λCH=>(p7 (λsD CD=>(ZC (aj sD 1) (ε 0)).bind λYh=>Γ Yh ((UM 6 x96 (aj sD 1)).bind λx112=>(p5 1 x112).bind λx113=>((χ x113 CD).bind λFX=>l7 0 5 FX).bind λx115=>(ψ 5 x115).bind λxw=>(Φ 0 xw [(ε 0),(ε 0),(ε 0),(ε 0),(ε 0)]).bind λzZ=>(φ 1 zZ).bind λCI=>(Wn .i CI Gk).bind λGp=>Γ Gp ((l7 0 5 zZ).bind λGq=>(((ψ 5 Gq).bind λuF=>(Φ 0 uF [(ε 0),(ε 0),(ε 0),(ε 0),(ε 0)]).bind λFY=>δ FY).bind λcs=>δ (SQ 5 (gd 5 1 cs))).bind λaAH=>(Uv 5 (140737488355328 / 40) (aj sD 0) aAH CD).bind λEu=>δ (Ψ 4,[Eu.1,(aj sD 1)],Eu.2)) ((T6 (aj sD 1) (ε 1)).bind λyP=>δ (l9,[(aj sD 0),yP],CD))) (δ (Ψ 4,[(aj sD 0),(aj sD 1)],CD))) [(aj JR 0),CH] X9).bind λX3=>bif X3.1==Ψ 4 then((Z8 (aj JR 1) (ε 1)).bind λMu=>δ (l9,[(aj X3.2.1 0),Mu],X3.2.2))else ξ) (δ (Ψ 2,[(aj JR 0),(aj JR 1)],X9))) [Ng.1,(ε 0)] ZQ.2).bind λaAy=>bif aAy.1==Ψ 2 then(l6 σ (XF [(aj aAy.2.1 0),(ε 0)]) aAy.2.2)else ξ)else ξ))
def az6:an->Heap->aC:=Ω η [sE,.k,(.s 6)] (.t [(.s 5),.k]) (A.wj Tw)
end
section
def Uy (a0:AV) (σ:Heap):aC:=(ψ 5 a0).bind λc1=>(φ 3 c1).bind λx2=>(UT x2).bind λx3=>(p7 (λv4 s5=>(Sq (aj v4 1) x3).bind λx7=>Γ x7 ((UM 2 x2 (aj v4 1)).bind λx8=>((χ x8 s5).bind λc9=>l7 0 2 c9).bind λbR=>(ψ 2 bR).bind λgn=>(Φ 0 gn [(ε 0),i6]).bind λfq=>(φ 1 fq).bind λdg=>(UT dg).bind λdI=>(p7 (λjh nL=>(Sq (aj jh 1) dI).bind λdh=>Γ dh ((UM 11 dg (aj jh 1)).bind λfC=>((χ fC nL).bind λkG=>l7 0 11 kG).bind λdm=>(ψ 11 dm).bind λgR=>(Φ 0 gR [(ε 0),dY,(ε 0),(ε 0),(ε 0),(ε 0),(ε 0),i6,aY,(ε 0),i6]).bind λiK=>(φ 9 iK).bind λx24=>(ZC x24 (ε 0)).bind λx25=>Γ x25 (δ (n9,[aY,(aj jh 1)],nL)) ((Z8 (aj jh 1) (ε 1)).bind λfF=>δ (l9,[(aj jh 0),fF],nL))) (δ (Ψ 2,[(aj jh 0),(aj jh 1)],nL))) [(aj v4 0),(ε 0)] s5).bind λmO=>bif mO.1==Ψ 2 then((Z8 (aj v4 1) (ε 1)).bind λx28=>δ (l9,[(aj mO.2.1 0),x28],mO.2.2))else bif mO.1==n9 then(δ (n9,[(aj mO.2.1 0),(aj v4 1)],mO.2.2))else ξ) (δ (Ψ 0,[(aj v4 0),(aj v4 1)],s5))) [aY,(ε 0)] σ).bind λnj=>bif nj.1==Ψ 0 then(l6 σ dQ nj.2.2)else bif nj.1==n9 then(l6 σ (aj nj.2.1 0) nj.2.2)else ξ
def azX:an->Heap->aC:=Ω η [sE] .k (ZY Uy)
def aAt (a0 a1 a2 a3 a4:AV) (σ:Heap):aC:=(ψ 5 a0).bind λc1=>(l7 0 5 c1).bind λx2=>(az6 [x2,a1,a2,a3,a4] σ).bind λr3=>(TH 0 r3.1).bind λx4=>(TH 1 r3.1).bind λx5=>(Uq .i x5 (ε 0)).bind λx6=>(μ x6 ι (l7 0 5 c1) aB).bind λx7=>(μ x6 ι (wh (azX [x7] r3.2) r3.2) aB).bind λx8=>(μ x6 ι (Yr x8) aB).bind λx9=>(p9 x6 dQ x9).bind λbR=>Γ bR (l6 σ dQ r3.2) ((l7 0 5 c1).bind λcR=>(Kz [cR,a1,a2,a3,a4,(ε 0)] r3.2).bind λgp=>(TH 0 gp.1).bind λdg=>(TH 1 gp.1).bind λdI=>(l7 0 5 c1).bind λeE=>(Kq [eE,x4] gp.2).bind λxQ=>(TH 0 xQ.1).bind λdz=>(TH 1 xQ.1).bind λdh=>(TH 2 xQ.1).bind λfC=>(Uq .i dI (ε 0)).bind λew=>(μ ew ι (δ fC) aB).bind λdm=>(μ ew ι (Uq .i dm (ε 0)) aB).bind λey=>(p9 ew dQ ey).bind λeU=>(μ eU ι (δ dh) aB).bind λx24=>(μ eU ι (Uq .i x24 (ε 0)) aB).bind λx25=>(p9 eU dQ x25).bind λfF=>(μ fF ι (δ dg) aB).bind λfG=>(μ fF ι (Wn .p fG Wp) aB).bind λx28=>(p9 fF dQ x28).bind λx29=>(μ x29 ι (δ dz) aB).bind λeG=>(μ x29 ι (Wn .p eG Wp) aB).bind λx31=>(p9 x29 dQ x31).bind λx32=>Γ x32 (l6 σ aY xQ.2) ((T6 a4 a3).bind λiN=>(Td [a1,iN] xQ.2).bind λjO=>(TH 0 jO.1).bind λgj=>(TH 1 jO.1).bind λgX=>(BJ [dg] jO.2).bind λjV=>(A.max gj jV.1).bind λx38=>(φ 4 c1).bind λiO=>(UT iO).bind λfH=>(p7 (λv41 aAu=>(Sq (aj v41 1) fH).bind λjx=>Γ jx ((UM 3 iO (aj v41 1)).bind λgO=>((χ gO aAu).bind λGD=>l7 0 3 GD).bind λjP=>(ψ 3 jP).bind λsH=>(Φ 0 sH [(ε 0),(ε 0),(ε 0)]).bind λyT=>(φ 0 yT).bind λnM=>(Ht [dg,nM,x38] aAu).bind λzg=>(TH 0 zg.1).bind λfS=>(TH 1 zg.1).bind λmD=>(ψ 6 fS).bind λrE=>(Φ 0 rE [(ε 0),(ε 0),(ε 0),aY,(ε 0),i6]).bind λpP=>(φ 0 yT).bind λkR=>(Ht [dz,kR,(ε 0)] zg.2).bind λRO=>(TH 0 RO.1).bind λkq=>(TH 1 RO.1).bind λjW=>(ψ 6 kq).bind λtW=>(Φ 0 tW [(ε 0),(ε 0),(ε 0),aY,(ε 0),i6]).bind λnE=>(Uq .i mD (ε 0)).bind λiq=>(μ iq ι (δ jW) aB).bind λgP=>(μ iq ι (Uq .i gP (ε 0)) aB).bind λqG=>(p9 iq dQ qG).bind λkY=>(μ kY ι (φ 1 pP) aB).bind λjH=>(μ kY ι (φ 1 nE) aB).bind λqH=>(μ kY ι (Uq .i jH qH) aB).bind λqI=>(p9 kY dQ qI).bind λjR=>(μ jR ι (φ 2 pP) aB).bind λmQ=>(μ jR ι (φ 2 nE) aB).bind λvn=>(μ jR ι (Uq .i mQ vn) aB).bind λvq=>(p9 jR dQ vq).bind λoc=>(μ oc ι (φ 3 pP) aB).bind λsY=>(μ oc ι (φ 3 nE) aB).bind λkr=>(μ oc ι (Uq .b sY kr) aB).bind λrO=>(p9 oc dQ rO).bind λAJ=>Γ AJ (δ (n9,[aY,(aj v41 1)],RO.2)) ((Z8 (aj v41 1) (ε 1)).bind λoW=>δ (l9,[(aj v41 0),oW],RO.2))) (δ (Ψ 0,[(aj v41 0),(aj v41 1)],aAu))) [aY,(ε 0)] jV.2).bind λnu=>bif nu.1==Ψ 0 then(l6 σ dQ nu.2.2)else bif nu.1==n9 then(l6 σ (aj nu.2.1 0) nu.2.2)else ξ))
def aaf:an->Heap->aC:=Ω η [sE,.k,(.s 6)] .k (A.wj aAt)
end
section
open Go.RowKit
theorem pG.same{P:Program}{nm:List Nat}{f:FuncId}{args:an}{σ:Heap}{r:AV}(hc:∀us w,(callFunc f us).run P w=.ok (.enter f us) w)
  (h:∀(c:RC)(vs:Array Value)(w:World),aR c args vs.toList->Calls P f vs w λe w'=>∃v,e=.returned v/\Below w.heap.size w w'/\∀c',aq c' r v):pG P nm f args σ r σ:=by
 refine .inl ⟨f,hc,λz vs e1 e2 hh ha=>(h _ vs z.w ha).mono ?_⟩;rintro e w' ⟨v,k1,k2,k3⟩;have ho:Out z z.w z.E:=⟨rfl,rfl,rfl,bF _,λ_ _ _=>rfl,λi p hp=>.inr ⟨p,hp,rfl⟩,λi p hp=>⟨p,hp,.inl rfl⟩,e2,λp hp=>hh.lt hp⟩
 exact⟨v,z.E,k1,ho.grow k2,hh.mono (yl k2) rfl (λp hp=>k2.block _ (hh.lt hp)),k3 _⟩
theorem QH{c:RC}{a:AV}{vs:Array Value}(h:aR c [a] vs.toList):∃v,vs=#[v]/\aq c a v:=by simp only[aR]at h;obtain⟨v,vs',e,h1,e2⟩:=h;refine⟨v,?_,h1⟩;subst e2;cases vs;simp at e;simp [e]
theorem QI{c:RC}{a b:AV}{vs:Array Value}(h:aR c [a,b] vs.toList):∃v u,vs=#[v,u]/\aq c a v/\aq c b u:=by simp only[aR]at h;obtain⟨v,vs',e,h1,u,vs2,e2,h2,e3⟩:=h;refine⟨v,u,?_,h1,h2⟩;subst e3;subst e2;cases vs;simp at e;simp [e]
theorem SP:Sound Tryz.prog aK 29 Kc:=by
 intro args σ r σ' h;unfold Kc YS at h;split at h
 ·simp only at h;split at h
  ·simp only[Δ,j0]at h;obtain⟨rfl,rfl⟩:=h;refine pG.same Tryz.call29 λc vs w hr=>?_
   obtain⟨v,u,rfl,h1,h2⟩:=QI hr;simp only[aq]at h1 h2;subst h1 h2;refine(Tryz.strings_Compare _ _ w).mono ?_;rintro e w' ⟨rfl,rfl⟩;exact⟨_,rfl,Below.refl _ _,λc'=>by simp [aq]⟩
  ·cases h
 ·cases h
end
section
open Go.RowKit
theorem BL{P:Program}{nm:List Nat}{f:FuncId}{m0:an->Heap->aC}(h0:Sound P nm f m0)(hc:∀us w,(callFunc f us).run P w=.ok (.enter f us) w)
  (hz:∀a cap w,Calls P f #[.slice a 0 cap] w λe w'=>∃q,e=.returned (.slice q 0 0)/\Below w.heap.size w w'):Sound P nm f (A.wT m0):=by
 intro args σ r σ' h;unfold A.wT at h;split at h
 ·simp only[Δ,j0]at h;obtain⟨rfl,rfl⟩:=h;refine pG.same hc λc vs w hr=>?_
  obtain⟨v,rfl,h1⟩:=QH hr;simp only[aq]at h1;obtain⟨a,cap,rfl,_⟩:=h1;refine(hz _ _ w).mono ?_;rintro e w' ⟨q,rfl,hb⟩;exact⟨_,rfl,hb,λc'=>by simp [aq]⟩
 ·simp only[Δ,j0]at h;obtain⟨rfl,rfl⟩:=h;refine pG.same hc λc vs w hr=>?_
  obtain⟨v,rfl,h1⟩:=QH hr;simp only[aq]at h1;subst h1;refine(hz _ _ w).mono ?_;rintro e w' ⟨q,rfl,hb⟩;exact⟨_,rfl,hb,λc'=>by simp [aq]⟩
 ·simp only[Δ,j0]at h;obtain⟨rfl,rfl⟩:=h;refine pG.same hc λc vs w hr=>?_
  obtain⟨v,rfl,h1⟩:=QH hr;simp only[aq]at h1;obtain⟨a,rfl⟩:=h1;refine(hz _ _ w).mono ?_;rintro e w' ⟨q,rfl,hb⟩;exact⟨_,rfl,hb,λc'=>by simp [aq]⟩
 ·simp only[Δ,j0]at h;obtain⟨rfl,rfl⟩:=h;refine pG.same hc λc vs w hr=>?_
  obtain⟨v,rfl,h1⟩:=QH hr;simp only[aq]at h1;obtain⟨_,p,_,_,a,cap,rfl,_⟩:=h1;refine(hz _ _ w).mono ?_;rintro e w' ⟨q,rfl,hb⟩;exact⟨_,rfl,hb,λc'=>by simp [aq]⟩
 ·exact h0 _ _ _ _ h
theorem qS{P:Program}{t e:TypeId}(ht:P.underlying t=δ (.slice e))(a:Option Addr)(n m:Nat)(w:World):Sp P (binOp .eql t (.slice a n m) (.slice ξ 0 0)) w=.ok (.bool a.isNone) w:=by simp [binOp,show(Op.equal t (.slice a n m) (.slice ξ 0 0)).run P w=.ok a.isNone w from agA w 9999 t a n m ht]
theorem arB(a:Option Addr)(cap:Nat)(w:World):Calls Tryz.prog 67 #[.slice a 0 cap] w λe w'=>∃q,e=.returned (.slice q 0 0)/\Below w.heap.size w w':=by
 go_enter Tryz.func67,Tryz.ntmps67
 cases a
 ·go_wp2_with (simp only[qS (Tryz.underlying68),UB,ir])
  go_ret
  exact⟨_,rfl,Below.refl _ _⟩
 ·go_wp2_with (simp only[qS (Tryz.underlying68),TF,ir])
  go_ret
  exact⟨_,rfl,(Below.refl _ _).alloc (bF _) _⟩
theorem apS(a:Option Addr)(cap:Nat)(w:World):Calls Tryz.prog 32 #[.slice a 0 cap] w λe w'=>∃q,e=.returned (.slice q 0 0)/\Below w.heap.size w w':=by
 go_enter Tryz.func32,Tryz.ntmps32
 cases a
 ·go_wp2_with (simp only[qS (Tryz.underlying65),UB,ir])
  go_ret
  exact⟨_,rfl,Below.refl _ _⟩
 ·go_wp2_with (simp only[qS (Tryz.underlying65),TF,ir])
  go_ret
  exact⟨_,rfl,(Below.refl _ _).alloc (bF _) _⟩
theorem atw(a:Option Addr)(cap:Nat)(w:World):Calls Tryz.prog 66 #[.slice a 0 cap] w λe w'=>∃q,e=.returned (.slice q 0 0)/\Below w.heap.size w w':=by
 go_enter Tryz.func66,Tryz.ntmps66
 cases a
 ·go_wp2_with (simp only[qS (Tryz.underlying62),UB,ir])
  go_ret
  exact⟨_,rfl,Below.refl _ _⟩
 ·go_wp2_with (simp only[qS (Tryz.underlying62),TF,ir])
  go_ret
  exact⟨_,rfl,(Below.refl _ _).alloc (bF _) _⟩
theorem apT(a:Option Addr)(cap:Nat)(w:World):Calls Tryz.prog 64 #[.slice a 0 cap] w λe w'=>∃q,e=.returned (.slice q 0 0)/\Below w.heap.size w w':=by
 go_enter Tryz.func64,Tryz.ntmps64
 cases a
 ·go_wp2_with (simp only[qS (Tryz.underlying130),UB,ir])
  go_ret
  exact⟨_,rfl,Below.refl _ _⟩
 ·go_wp2_with (simp only[qS (Tryz.underlying130),TF,ir])
  go_ret
  exact⟨_,rfl,(Below.refl _ _).alloc (bF _) _⟩
theorem apR(a:Option Addr)(cap:Nat)(w:World):Calls Tryz.prog 63 #[.slice a 0 cap] w λe w'=>∃q,e=.returned (.slice q 0 0)/\Below w.heap.size w w':=by
 go_enter Tryz.func63,Tryz.ntmps63
 cases a
 ·go_wp2_with (simp only[qS (Tryz.underlying125),UB,ir])
  go_ret
  exact⟨_,rfl,Below.refl _ _⟩
 ·go_wp2_with (simp only[qS (Tryz.underlying125),TF,ir])
  go_ret
  exact⟨_,rfl,(Below.refl _ _).alloc (bF _) _⟩
theorem al0(a:Option Addr)(cap:Nat)(w:World):Calls Tryz.prog 61 #[.slice a 0 cap] w λe w'=>∃q,e=.returned (.slice q 0 0)/\Below w.heap.size w w':=by
 go_enter Tryz.func61,Tryz.ntmps61
 cases a
 ·go_wp2_with (simp only[qS (Tryz.underlying28),UB,ir])
  go_ret
  exact⟨_,rfl,Below.refl _ _⟩
 ·go_wp2_with (simp only[qS (Tryz.underlying28),TF,ir])
  go_ret
  exact⟨_,rfl,(Below.refl _ _).alloc (bF _) _⟩
theorem arC(a:Option Addr)(cap:Nat)(w:World):Calls Tryz.prog 62 #[.slice a 0 cap] w λe w'=>∃q,e=.returned (.slice q 0 0)/\Below w.heap.size w w':=by
 go_enter Tryz.func62,Tryz.ntmps62
 cases a
 ·go_wp2_with (simp only[qS (Tryz.underlying23),UB,ir])
  go_ret
  exact⟨_,rfl,Below.refl _ _⟩
 ·go_wp2_with (simp only[qS (Tryz.underlying23),TF,ir])
  go_ret
  exact⟨_,rfl,(Below.refl _ _).alloc (bF _) _⟩
theorem am7(a:Option Addr)(cap:Nat)(w:World):Calls Tryz.prog 65 #[.slice a 0 cap] w λe w'=>∃q,e=.returned (.slice q 0 0)/\Below w.heap.size w w':=by
 go_enter Tryz.func65,Tryz.ntmps65
 cases a
 ·go_wp2_with (simp only[qS (Tryz.underlying157),UB,ir])
  go_ret
  exact⟨_,rfl,Below.refl _ _⟩
 ·go_wp2_with (simp only[qS (Tryz.underlying157),TF,ir])
  go_ret
  exact⟨_,rfl,(Below.refl _ _).alloc (bF _) _⟩
theorem apU(a:Option Addr)(cap:Nat)(w:World):Calls Tryz.prog 74 #[.slice a 0 cap] w λe w'=>∃q,e=.returned (.slice q 0 0)/\Below w.heap.size w w':=by
 go_enter Tryz.func74,Tryz.ntmps74
 cases a
 ·go_wp2_with (simp only[qS (Tryz.underlying81),UB,ir])
  go_ret
  exact⟨_,rfl,Below.refl _ _⟩
 ·go_wp2_with (simp only[qS (Tryz.underlying81),TF,ir])
  go_ret
  exact⟨_,rfl,(Below.refl _ _).alloc (bF _) _⟩
end
section
open Go.RowKit
def qw(W:World)(mb:Option Nat)(r:Nat)(es:Array MapEntry)(done:List MapEntry):Prop:=match mb with
 |none=>es=#[]/\done=[]/\∃a b c,W.heap[r]? =δ (.mapIter ξ a b c)
 |some m=>∃aJ,qh es aJ/\W.heap[m]? =δ (.map es aJ)/\W.heap[r]? =δ (.mapIter (δ m) aJ (done.map (·.born)).toArray aJ)/\∃left,(done++left).Perm es.toList
def Bc(W:World)(mb:Option Nat)(es:Array MapEntry):Prop:=match mb with
 |none=>es=#[]
 |some m=>∃aJ,qh es aJ/\W.heap[m]? =δ (.map es aJ)
theorem Bc.below{W W':World}{mb:Option Nat}{es:Array MapEntry}(h:Bc W mb es)(hb:Below W.heap.size W W'):Bc W' mb es:=by
 cases mb with
 |none=>exact h
 |some m=>obtain⟨aJ,h1,h2⟩:=h;exact⟨aJ,h1,(hb.block m (lT.1 h2).1).trans h2⟩
theorem qw.walks{W W':World}{mb:Option Nat}{r:Nat}{es:Array MapEntry}{done:List MapEntry}(h:qw W mb r es done)(hk:KeepsWalks W W'):qw W' mb r es done:=by
 cases mb with
 |none=>obtain⟨h1,h2,a,b,c,h3⟩:=h;exact⟨h1,h2,a,b,c,hk.same _ _ h3 rfl⟩
 |some m=>obtain⟨aJ,h1,h2,h3,h4⟩:=h;exact⟨aJ,h1,hk.same _ _ h2 rfl,hk.same _ _ h3 rfl,h4⟩
theorem qw.iter{W:World}{mb:Option Nat}{r:Nat}{es:Array MapEntry}{done:List MapEntry}(h:qw W mb r es done):∃o:Obj,W.heap[r]? =δ o/\o.isWalk=η:=by
 cases mb with
 |none=>obtain⟨h1,h2,a,b,c,h3⟩:=h;exact⟨_,h3,rfl⟩
 |some m=>obtain⟨aJ,h1,h2,h3,h4⟩:=h;exact⟨_,h3,rfl⟩
theorem qw.len{W:World}{mb:Option Nat}{r:Nat}{es:Array MapEntry}{done:List MapEntry}(h:qw W mb r es done):done.length<=es.size:=by
 cases mb with
 |none=>obtain⟨h1,h2,_⟩:=h;subst h2;simp
 |some m=>obtain⟨aJ,h1,h2,h3,left,h4⟩:=h;have:=h4.length_eq;simp at this;omega
theorem auR{W W':World}(hb:Below W.heap.size W W')(hh:W'.heap=W.heap):W.grownBy W' ξ:=⟨hb.os,hb.tape,hb.output,hb.size,λk hk _=>hb.block k hk⟩
theorem Bc.range{P:Program}{W:World}{mb:Option Nat}{es:Array MapEntry}(h:Bc W mb es){t kt et:TypeId}(ht:P.underlying t=δ (.map kt et)):
  ∃o,(aCo t (.map mb)).run P W=.ok (.pointer (δ ⟨W.heap.size,0,ξ⟩)) (W.alloc o)/\qw (W.alloc o) mb W.heap.size es []:=by
 cases mb with
 |none=>exact⟨.mapIter ξ 0 #[] 0,by simp [aCo,run_underlying ht,newObj,Sp],h,rfl,_,_,_,VD W _⟩
 |some m=>
  obtain⟨aJ,h1,h2⟩:=h;have vM:(getObj m).run P W=.ok (.map es aJ) W:=by simp [getObj,Sp,show W.heap[m]? =_ from h2]
  exact⟨.mapIter (δ m) aJ #[] aJ,by simp [aCo,run_underlying ht,vM,newObj,Sp],aJ,h1,(Below.heap_alloc W _ m (lT.1 h2).1).trans h2,VD W _,es.toList,by simp⟩
theorem qw.ahj{W:World}{mb:Option Nat}{r:Nat}{es:Array MapEntry}{done:List MapEntry}{e:MapEntry}(h:qw W mb r es (done++[e])):∃m,mb=δ m:=by
 cases mb with
 |none=>obtain⟨_,h2,_⟩:=h;simp at h2
 |some m=>exact⟨m,rfl⟩
theorem qw.next{P:Program}{W:World}{mb:Option Nat}{r:Nat}{es:Array MapEntry}{done:List MapEntry}(h:qw W mb r es done)(hmr:mb≠δ r)(ty:TypeId):
  (done.Perm es.toList/\∃W',(Si (.pointer (δ ⟨r,0,ξ⟩)) ι ty).run P W=.ok (.tuple #[.bool ι]) W'/\W.grownBy W' ξ)\/
  (∃e W',e∈es.toList/\(Si (.pointer (δ ⟨r,0,ξ⟩)) ι ty).run P W=.ok (.tuple #[.bool η,e.key,e.val]) W'/\qw W' mb r es (done++[e])/\W.grownBy W' (δ r)):=by
 cases mb with
 |none=>
  obtain⟨h1,h2,a,b,c,h3⟩:=h;subst h1 h2;have jL:(getObj r).run P W=.ok (.mapIter ξ a b c) W:=by simp [getObj,Sp,show W.heap[r]? =_ from h3]
  exact .inl ⟨by simp,W,by simp [Si,jL],⟨rfl,rfl,rfl,bF _,λ_ _ _=>rfl⟩⟩
 |some m=>
  obtain⟨aJ,h7,h6,h3,left,hp⟩:=h;obtain⟨seen,FM⟩:∃seen,seen=(done.map (·.born)).toArray:=⟨_,rfl⟩
  have hsc:∀e,seen.contains e=(done.map (·.born)).contains e:=λe=>by rw[FM];simp
  rw[<-FM]at h3;have jL:(getObj r).run P W=.ok (.mapIter (δ m) aJ seen aJ) W:=by simp [getObj,Sp,show W.heap[r]? =_ from h3]
  have vM:(getObj m).run P W=.ok (.map es aJ) W:=by simp [getObj,Sp,show W.heap[m]? =_ from h6]
  obtain⟨L,hL⟩:∃L,L=es.filter (λe=>!seen.contains e.born):=⟨_,rfl⟩
  have C3:L.toList=es.toList.filter (λe=>!seen.contains e.born):=by rw[hL,aBK]
  have hnd:((done++left).map (·.born)).Nodup:=(hp.map _).nodup_iff.2 h7.2
  -- what is left, up to order
  have hLp:L.toList.Perm left:=by
   rw[C3];refine(hp.filter _).symm.trans ?_;rw[List.filter_append]
   have e1:done.filter (λe=>!seen.contains e.born)=[]:=by rw[List.filter_eq_nil_iff];intro e he;simp only[hsc,XX,Bool.not_eq_false];simp only[Yg,fL];simpa using⟨e,he,rfl⟩
   have e2:left.filter (λe=>!seen.contains e.born)=left:=by rw[List.filter_eq_self];intro e he;simp only[hsc,XX];rw[V8,List.nodup_append]at hnd;have:=hnd.2.2;rw[aB0];intro hc;have hc:=Yg.1 hc;exact this _ hc _ (fL.2 ⟨e,he,rfl⟩) rfl
   rw[e1,e2];exact List.Perm.refl _
  have hst:=h7.aAg seen.isEmpty;by_cases hl:L.size=0
  ·have hl0:es.filter (λe=>!seen.contains e.born)=#[]:=by rw[<-hL];exact aC7 hl
   obtain⟨j,w',hj,hch,hb,hw⟩:=choose_lt (P:=P) W (n:=1) (by omega);have hj0:j=0:=by omega
   subst hj0;refine .inl ⟨?_,w',?_,auR hb hw⟩
   ·have:left=[]:=by have:=hLp.length_eq;rw[YO,hl]at this;exact vQ this.symm
    subst this;simpa using hp
   ·simp only[Si,u9,jL,ir,vM,hst,hl0];simp [-Go.run_choose,-aCM,hch]
  ·have hlt':∀e∈L.toList,e.born<aJ:=λe he=>h7.1 e (by rw[C3]at he;exact(TR.1 he).1)
   obtain⟨f1,f2⟩:=filter_all hlt'
   have hne:L.isEmpty=ι:=by rw[Array.isEmpty_eq_false_iff];intro k;rw[k]at hl;simp at hl
   obtain⟨j,w',hj,hch,hb,hw⟩:=choose_lt (P:=P) W (n:=L.size) (by omega);obtain⟨e,MN⟩:∃e,L[j]? =δ e:=⟨_,uD hj⟩
   have n1:L.toList[j]? =δ e:=by rw[Ta];exact MN
   have azL:e∈L.toList:=cE n1;have h3':w'.heap[r]? =δ (.mapIter (δ m) aJ seen aJ):=by rw[hw];exact h3
   have hlt:r<w'.heap.size:=(lT.1 h3').1
   have sx:(setObj r (.mapIter (δ m) aJ (seen.push e.born) aJ)).run P w'=.ok () (w'.eW r (.mapIter (δ m) aJ (seen.push e.born) aJ)):=by simp [setObj,Sp,h3',World.eW]
   obtain⟨la,lb,awW⟩:=List.append_of_mem (hLp.mem_iff.1 azL);refine .inr ⟨e,w'.eW r (.mapIter (δ m) aJ (seen.push e.born) aJ),by rw[C3]at azL;exact(TR.1 azL).1,?_,⟨aJ,h7,?_,?_,la++lb,?_⟩,⟨hb.os,hb.tape,hb.output,?_,λk hk hkr=>?_⟩⟩
   ·simp only[Si,u9,jL,ir,vM,hst,<-hL,f1,f2,hne];simp [-Go.run_choose,-aCM,hch,MN,sx]
   ·have awX:r≠m:=λk=>hmr (by rw[k])
    rw[wI _ awX,hw];exact h6
   ·rw[vw _ hlt,FM];congr 2;simp
   ·refine List.Perm.trans ?_ hp;rw[kS,awW];exact List.Perm.append_left _ (show(e::(la++lb)).Perm (la++e::lb)from List.perm_middle.symm)
   ·rw[yj];exact hb.size
   ·rw[wI _ (λq=>hkr (by rw[q]))];exact hb.block k hk
theorem qw.entry{P:Program}{W:World}{m r:Nat}{es:Array MapEntry}{done:List MapEntry}{e:MapEntry}(h:qw W (δ m) r es (done++[e])):(Instr.entry (.pointer (δ ⟨r,0,ξ⟩))).run P W=.ok (.tuple #[e.key,e.val]) W:=by
 obtain⟨aJ,h7,h6,h3,left,hp⟩:=h;have jL:(getObj r).run P W=.ok (.mapIter (δ m) aJ ((done++[e]).map (·.born)).toArray aJ) W:=by simp [getObj,Sp,show W.heap[r]? =_ from h3]
 have vM:(getObj m).run P W=.ok (.map es aJ) W:=by simp [getObj,Sp,show W.heap[m]? =_ from h6]
 have hf:es.find? (λx=>x.born==e.born)=δ e:=by rw[<-Array.find?_toList];exact find_born (f:=(·.born)) h7.2 (hp.mem_iff.1 (by simp))
 simp [Instr.entry,jL,vM,hf]
section
variable {F : Fence} {n : Nat} {P : Program} (w : World) {ops : Array Oper} {rest : List Oper} {o : Oper} {a : Act} {Q : Exit -> Act -> World -> Prop}
theorem aq4(hg:o.guard=ξ)(m:Operand)(t:TypeId)(hop:o.op=Op.range t m)(k e:TypeId)(ht:P.underlying t=δ (.map k e))(mb:Option Nat)(es:Array MapEntry)
  (hm:a.eval m=.map mb) (hs:Bc w mb es)
  (hK:∀w',qw w' mb w.heap.size es []->w.grownBy w' ξ->w'.heap.size=w.heap.size+1->wpListIn F n P ops Q rest (a.put o.dst (.pointer (δ ⟨w.heap.size,0,ξ⟩))) w'):
  wpListIn F n P ops Q (o::rest) a w:=by
 refine wpListIn_plain hg λK' Rq=>?_
 obtain⟨o',hrun,r1⟩:=hs.range (P:=P) ht;unfold Oper.wpIn;refine⟨?_,?_⟩
 ·simp [Oper.about,hop]
 ·rw[Oper.semAt_plain F _ _ (by rw[hop];intro c qA;cases qA)];simp [execOp,hop,hm,hrun,Result.andThen];exact Rq _ _ (hK _ r1 (World.grownBy_alloc w o' ξ) (by simp))
theorem ata(hg:o.guard=ξ)(it:Operand)(hop:o.op=Op.next it ι)(mb:Option Nat)(r:Nat)(es:Array MapEntry)(done:List MapEntry)
  (hit:a.eval it=.pointer (δ ⟨r,0,ξ⟩)) (h:qw w mb r es done) (hmr:mb≠δ r)
  (hDone:∀w',done.Perm es.toList->w.grownBy w' ξ->wpListIn F n P ops Q rest (a.put o.dst (.tuple #[.bool ι])) w')
  (hMore:∀(e:MapEntry)(w':World),e∈es.toList->qw w' mb r es (done++[e])->w.grownBy w' (δ r)->(Instr.entry (.pointer (δ ⟨r,0,ξ⟩))).run P w'=.ok (.tuple #[e.key,e.val]) w'->wpListIn F n P ops Q rest (a.put o.dst (.tuple #[.bool η,e.key,e.val])) w'):
  wpListIn F n P ops Q (o::rest) a w:=by
 refine wpListIn_plain hg λK' Rq=>?_
 unfold Oper.wpIn;refine⟨by simp [Oper.about,hop],?_⟩;rw[Oper.semAt_plain F _ _ (by rw[hop];intro c qA;cases qA)];rcases h.next (P:=P) hmr o.type with⟨h0,W',hrun,hg'⟩|⟨e,W',he,hrun,h',hg'⟩
 ·simp [execOp,hop,hit,hrun,Result.andThen];exact Rq _ _ (hDone W' h0 hg')
 ·simp [execOp,hop,hit,hrun,Result.andThen];obtain⟨m,rfl⟩:=h'.ahj;exact Rq _ _ (hMore e W' he h' hg' h'.entry)
end
end
section
open Go.RowKit Go.Sort
def sj(k:aI):Value:=.agg #[.int θ k.unit,.string k.param]
def Md:Value->aI
 |.agg #[.int _ u,.string s]=>⟨u,s⟩
 |_=>⟨0,⟨#[]⟩⟩
theorem VO(l:List aI):(l.map sj).map Md=l:=by
 rw[Zc];conv=>rhs;rw[<-List.map_id l]
 exact TA λk _=>rfl
theorem apc{a b:List aI}(h:(a.map sj).Perm (b.map sj)):a.Perm b:=by have:=h.map Md;rwa[VO,VO]at this
def vD(es:List MapEntry)(ks:List aI):Prop:=es.map (·.key)=ks.map sj
theorem vD.mem{es:List MapEntry}{ks:List aI}(h:vD es ks){e:MapEntry}(he:e∈es):∃k,e.key=sj k:=by have:e.key∈es.map (·.key):=fL.2 ⟨e,he,rfl⟩;rw[h]at this;obtain⟨k,_,hk⟩:=fL.1 this;exact⟨k,hk.symm⟩
set_option maxHeartbeats 1000000 in
theorem aoQ(F:Fence)(n:Nat)(MJ:F.fn 52)(hro:F.round=ξ)(hn:1<=n)(l Bm off:Nat)(mb:Option Nat)(es:Array MapEntry)(ks:List aI)(hks:vD es.toList ks)(J:List aI->World->Prop)
  (hY:∀pre x W,J pre W->pre.length<es.size->YieldAt F (n-1) Tryz.prog l #[sj x] W λe W'=>e=.returned (.bool η)/\J (pre++[x]) W'/\KeepsWalks W W')
  (W:World) (hJ:AbidesFrom W.heap.size J) (hm:W.cell? ⟨Bm,off,ξ⟩=δ (.map mb)) (hs:Bc W mb es) (h0:J [] W):
  CallsIn F n Tryz.prog 52 #[.func (.yield l) #[] #[],.pointer (δ ⟨Bm,off,ξ⟩)] W λe W'=>(∃v,e=.returned v)/\∃ss:List aI,ss.Perm ks/\J ss W':=by
 have hsz:∀m,mb=δ m->m<W.heap.size:=λm e=>by subst e;obtain⟨_,_,h⟩:=hs;exact(lT.1 h).1
 refine callsIn_of_wp Tryz.func52 rfl MJ ?_ hro;simp only[Tryz.ntmps52,Y9,R7,TZ,Nat.reduceAdd,Nat.reduceSub,Array.replicate_succ,Array.replicate_zero,List.push_toArray,List.append_toArray,Tp,mq]
 gi_wp2_with (first
  |(gi_at_range;refine aq4 _ rfl _ 90 rfl _ _ Tryz.underlying90 mb es rfl hs ?_;intro w0 aw3 JH hs0)
  |gi_in)
 go_frame
 gi_loopw [3] (λ_ wr=>∃(done:List MapEntry)(ss:List aI),qw wr mb W.heap.size es done/\vD done ss/\J ss wr)
  (λ_ wr=>match wr.heap[W.heap.size]? with|some (.mapIter _ _ seen _)=>es.size-seen.size|_=>0)
 case atStart=>
  exact⟨[],[],aw3,rfl,hJ [] W w0 ξ h0 JH (λr e=>by cases e)⟩
 case round=>
  obtain⟨done,ss,hit,Q2,hJs⟩:=hrel;have hmr:mb≠δ W.heap.size:=λe=>aCp _ (hsz _ e)
  gi_wp2_with (first
   |(gi_at_next;refine ata _ rfl _ rfl mb W.heap.size es done rfl hit hmr ?_ ?_)
   |gi_in)
  ·intro w' hp hg
   gi_wp2
   go_end0
   refine⟨⟨_,rfl⟩,ss,?_,hJ ss wr w' ξ hJs hg (λr e=>by cases e)⟩;have h1:=hp.map (·.key);rw[Q2,hks]at h1;exact apc h1
  ·intro e w' he ahG hg EF;obtain⟨k,hk⟩:=hks.mem (by simpa using he);rw[hk]at EF ⊢;unfold sj at EF ⊢;obtain⟨W2,yY⟩:∃W2,w'.alloc (.cells #[.int θ k.unit,.string k.param] 97)=W2:=⟨_,rfl⟩
   have awV:vD (done++[e]) (ss++[k]):=by unfold vD at Q2 ⊢;rw[V8,V8,Q2,eo,Wf,eo,Wf,hk]
   have xK:done.length=ss.length:=by have:=congrArg VN Q2;simpa using this
   have pU:=ahG.len;rw[Ve,List.length_singleton]at pU;have hJ1:J ss w':=hJ ss wr w' (δ W.heap.size) hJs hg (λr q=>by cases q;exact⟨bF _,hit.iter⟩);have hg2:w'.grownBy W2 ξ:=by rw[<-yY];exact World.grownBy_alloc w' _ ξ
   have hJ2:J ss W2:=hJ ss w' W2 ξ hJ1 hg2 (λr q=>by cases q);have hk2:KeepsWalks w' W2:=by rw[<-yY];exact aCq _ _
   obtain⟨fn,tmps,assign,body,hy,hR⟩:=hY ss k W2 hJ2 (by omega);unfold sj at hy;subst yY;clear hg2 hJ2 hJ1
   gi_wp2
   refine hR.mono ?_;rintro e W3 ⟨rfl,hJ3,Zb⟩
   gi_wp2
   have aBA:=(ahG.walks hk2).walks Zb
   go_roundw
   case rel=>exact⟨_,ss++[k],aBA,awV,hJ3⟩
   case measure=>
    obtain⟨m,rfl⟩:=aBA.ahj;obtain⟨_,_,_,a1,_⟩:=aBA;obtain⟨_,_,_,a2,_⟩:=hit;rw[a1,a2];simp;omega
def azr:Code->Code×Code
 |.seq _ (.seq (.seq _ (.block _ (.rangeFunc _ _ a b))) _)=>(a,b)
 |_=>(.ret,.ret)
def Ju:Code×Code:=match Tryz.prog.funcs[80]? with
 |some f=>(match f.body with|some c=>azr c|none=>(.ret,.ret))
 |none=>(.ret,.ret)
def wP(x:aI):List Value:=[.int θ x.unit,.string x.param]
def yA (fn:FuncId) (sv:Value) (Bs D:Nat) (st:LoopState) (axm:Option Code):Loop:={state:=st,pending:=axm,fn,tmps:=#[.slice ξ 0 0,sv,.pointer (δ ⟨Bs,0,ξ⟩),undef,.slice ξ 0 0,undef,sv,undef,undef,undef,undef,undef,undef],params:=#[7],assign:=Ju.1,body:=Ju.2,defers:=D}
structure LO (w0 : World) (fn : FuncId) (sv : Value) (Bs l D : Nat) (ss : List aI) (W : World) : Prop where
 box:∃v,W.heap[Bs]? =δ (.cells #[v] 84 (0,0))/\W.ownsRow w0.heap.size 97 2 v ss.length (ss.flatMap wP)/\(v=.slice ξ 0 0↔ss=[])
 L:W.heap[l]? =δ (.loop (yA fn sv Bs D .ready ξ))
 K:W.heap[D]? =δ (.deferred (δ []))
 below:Below w0.heap.size w0 W
theorem aj8{W W':World}{row:Option Nat}{base:Nat}{e:TypeId}{size:Nat}{v:Value}{k:Nat}{xs:List Value}(h:W.ownsRow base e size v k xs)(hg:W.grownBy W' row)
  (hrow:∀r,row=δ r->∃o:Obj,W.heap[r]? =δ o/\o.isWalk=η):W'.ownsRow base e size v k xs:=by
 refine h.kept hg ?_;rcases h.2 with⟨rfl,_⟩|⟨g,cap,cur,rfl,_,xJ,_⟩
 ·exact .inl rfl
 ·refine .inr λe'=>?_
  obtain⟨o,ho,hw⟩:=hrow g (by simpa [aB1]using e'.symm);rw[xJ]at ho;cases ho;cases hw
theorem aoi(w0:World)(fn:FuncId)(sv:Value)(Bs l D B:Nat)(hB:w0.heap.size<=B):AbidesFrom B (LO w0 fn sv Bs l D):=λs W W' row h hg hrow=>by
 have Qy:∀r,row=δ r->∃o:Obj,W.heap[r]? =δ o/\o.isWalk=η:=λr e=>(hrow r e).2
 obtain⟨v,hv,hr,hn⟩:=h.box
 exact⟨⟨v,(grownBy_keeps hg Qy hv rfl).trans hv,aj8 hr hg Qy,hn⟩,(grownBy_keeps hg Qy h.L rfl).trans h.L,(grownBy_keeps hg Qy h.K rfl).trans h.K,
  h.below.grown hg h.below.size (λk e=>X8 hB (hrow k e).1)⟩
theorem HC(W:World)(l:Nat)(o:Obj):W.grownBy (W.putObj l o) (δ l):=
 ⟨rfl,rfl,rfl,by simp,λk _ hk=>U4 (λe=>hk (by rw[e]))⟩
theorem ajP(W:World)(b:Nat)(v:Value):W.grownBy (W.setCell ⟨b,0,ξ⟩ v) (δ b):=
 ⟨rfl,rfl,rfl,(KeepsWalks.setCell W _ v).size,λk _ hk=>Below.heap_setCell _ _ _ k (λe=>hk (by rw[e]))⟩
theorem HU{W:World}{base:Nat}{e:TypeId}{size:Nat}{v:Value}{k:Nat}{xs:List Value}(h:W.ownsRow base e size v k xs){j:Nat}{o:Obj}(hj:W.heap[j]? =δ o)(hno:∀cur,o≠.cells cur e (0,0)):
  v.ownBlock=ξ\/v.ownBlock≠δ j:=by
 rcases h.2 with⟨rfl,_⟩|⟨g,cap,cur,rfl,_,xJ,_⟩
 ·exact .inl rfl
 ·refine .inr λe'=>?_
  have:g=j:=by simpa [aB1]using e'
  subst this;rw[xJ]at hj;cases hj;exact hno cur rfl
theorem To{W:World}{B:Nat}{v:Value}{t:TypeId}(h:W.heap[B]? =δ (.cells #[v] t (0,0))):W.cell? ⟨B,0,ξ⟩=δ v/\W.frozen? ⟨B,0,ξ⟩=ι:=by constructor<;>simp [XV,World.frozen?,h]
theorem ajQ{W:World}{B:Nat}{v:Value}{t:TypeId}(v':Value)(h:W.heap[B]? =δ (.cells #[v] t (0,0))):(W.setCell ⟨B,0,ξ⟩ v').heap[B]? =δ (.cells #[v'] t (0,0)):=by obtain⟨hlt,hk⟩:=lT.1 h;show(W.heap.modify B _)[B]? =_;rw[uD (by rw[Array.size_modify];exact hlt),Array.getElem_modify_self,hk];rfl
theorem ajR{W:World}{base:Nat}{e:TypeId}{size:Nat}{v:Value}{k:Nat}{xs:List Value}(h:W.ownsRow base e size v k xs):∀(j:Nat)(o:Obj),v.ownBlock=δ j->W.heap[j]? =δ o->o.isWalk=ι:=by
 intro j o hj ho;rcases h.2 with⟨rfl,_⟩|⟨g,cap,cur,rfl,_,xJ,_⟩
 ·simp [aB1]at hj
 ·have:g=j:=by simpa [aB1]using hj
  subst this;rw[xJ]at ho;cases ho;rfl
set_option maxHeartbeats 2000000 in
theorem arf(F:Fence)(m:Nat)(w0:World)(fn:FuncId)(hfn:F.fn fn)(sv:Value)(Bs l D:Nat)(YW:Bs≠l)(hDl:D≠l)(hDB:D≠Bs)(h0B:w0.heap.size<=Bs)(h0l:w0.heap.size<=l)
  (N:Nat) (hN:N<=maxLen) (hNb:N*24<=140737488355328) (ss:List aI) (x:aI) (W:World) (h:LO w0 fn sv Bs l D ss W) (hlen:ss.length<N):
  YieldAt F m Tryz.prog l #[sj x] W λe W'=>e=.returned (.bool η)/\LO w0 fn sv Bs l D (ss++[x]) W'/\KeepsWalks W W':=by
 obtain⟨i0,hi,fV,hz1,GV⟩:∃i,Tryz.prog.info? 97=δ i/\i.zero=δ (.agg #[.int θ 0,.string ⟨#[]⟩])/\i.size=2/\i.bytes=24:=⟨_,rfl,rfl,rfl,rfl⟩
 obtain⟨v,hv,hrow,_⟩:=h.box;refine⟨fn,#[.slice ξ 0 0,sv,.pointer (δ ⟨Bs,0,ξ⟩),undef,.slice ξ 0 0,undef,sv,sj x,undef,undef,undef,undef,undef],Ju.1,Ju.2,by simpa [yA]using run_yield (P:=Tryz.prog) (args:=#[sj x]) h.L rfl,roundIn_of_wpIn hfn ?_⟩;have hl:l<W.heap.size:=(lT.1 h.L).1;have hB0:Bs<W.heap.size:=(lT.1 hv).1;have hD0:D<W.heap.size:=(lT.1 h.K).1;obtain⟨W1,uc⟩:∃W1,W1=W.alloc (.cells #[.int θ x.unit,.string x.param] 97):=⟨_,rfl⟩
 have hs1:W1.heap.size=W.heap.size+1:=by rw[uc];simp
 have hk1:KeepsWalks W W1:=by rw[uc];exact aCq _ _
 have Bx:∀k,k<W.heap.size->W1.heap[k]? =W.heap[k]? :=λk hk=>by rw[uc];exact Below.heap_alloc _ _ k hk
 have hn1:W1.heap[W.heap.size]? =δ (.cells #[.int θ x.unit,.string x.param] 97 (0,0)):=by rw[uc];exact VD W _
 have Rr:=(Bx l hl).trans h.L;have Wv:W1.ownsRow w0.heap.size 97 2 v ss.length (ss.flatMap wP):=by rw[uc];exact hrow.alloc _
 have Bv:Below w0.heap.size w0 W1:=by rw[uc];exact h.below.alloc h.below.size _
 have hbr:=run_beginRound (P:=Tryz.prog) Rr rfl;obtain⟨W2,yY⟩:∃W2,W1.putObj l (.loop {yA fn sv Bs D .ready ξ with state:=.busy})=W2:=⟨_,rfl⟩
 rw[yY]at hbr;have hg2:W1.grownBy W2 (δ l):=by rw[<-yY];exact HC _ _ _
 have hk2:KeepsWalks W1 W2:=by rw[<-yY];exact KeepsWalks.putObj _ Rr rfl
 have By:W2.heap[Bs]? =δ (.cells #[v] 84 (0,0)):=by rw[<-yY];exact(U4 YW).trans ((Bx Bs hB0).trans hv)
 have YZ:W2.heap[D]? =δ (.deferred (δ [])):=by rw[<-yY];exact(U4 hDl).trans ((Bx D hD0).trans h.K)
 have Y1:W2.heap[l]? =δ (.loop {yA fn sv Bs D .ready ξ with state:=.busy}):=by rw[<-yY];exact World.putObj_heap_same (by omega)
 have Qz:W2.ownsRow w0.heap.size 97 2 v ss.length (ss.flatMap wP):=Wv.kept hg2 (HU Wv Rr (λcur e=>by cases e));have xI:Below w0.heap.size w0 W2:=Bv.grown hg2 Bv.size (λk e=>by cases e;exact h0l);have hn2:W2.heap[W.heap.size]? =δ (.cells #[.int θ x.unit,.string x.param] 97 (0,0)):=by rw[<-yY];exact(U4 (by omega)).trans hn1
 have hx0:W2.cell? ⟨W.heap.size,0,ξ⟩=δ (.int θ x.unit):=by simp [XV,hn2]
 have hx1:W2.cell? ⟨W.heap.size,1,ξ⟩=δ (.string x.param):=by simp [XV,hn2]
 obtain⟨ud,rI⟩:=To By;have awD:Bs<W2.heap.size:=(lT.1 By).1;have pU:l<W2.heap.size:=(lT.1 Y1).1;have awE:D<W2.heap.size:=(lT.1 YZ).1;have awU:=hk1.trans hk2
 have WC:∀{j:Nat}{o:Obj},W2.heap[j]? =δ o->(∀cur,o≠.cells cur 97 (0,0))->δ j≠v.ownBlock:=λhj hno=>by
  rcases HU Qz hj hno with e|e
  ·rw[e];simp
  ·exact λe'=>e e'.symm
 clear yY Wv Bv hg2 hk1 hk2 Bx hn1 Rr;subst uc;simp only[Ju,Tryz.func80,Tryz.f80,azr];unfold sj
 gi_wp2_with (first
  | (
    gi_at_builtin;refine wpListIn_append_own _ rfl _ _ 84 rfl w0.heap.size 97 i0 _ 2 24 Tryz.underlying84 hi fV hz1 GV rfl (by decide) _ _ _ rfl (Qz.alloc _) ⟨W2.heap.size,0,ξ⟩ 1 1 [.int θ x.unit,.string x.param] rfl rfl (λj u hj=>?_) (by simp [Value.oneCell']) (by omega) (by omega) (by have:=xI.size;simp;omega) ?_
    ·rcases j with _|_|j
     ·simp at hj;subst hj;simp [Addr.add]
     ·simp at hj;subst hj;simp [Addr.add]
     ·simp at hj
    intro v' w3 aAX hg3 ayM;have M5:w3.heap[Bs]? =δ (.cells #[v] 84 (0,0)):=(hg3.block Bs (by simp;omega) (WC By (λcur e=>by cases e))).trans ((Below.heap_alloc _ _ Bs awD).trans By);obtain⟨C4,hf3⟩:=To M5
    obtain⟨g',cap',cur',rfl,ayC,ay6,iB,mg,uV,JL⟩:∃g' cap' cur',v'=.slice (δ ⟨g',0,ξ⟩) (ss.length+1) cap'/\w0.heap.size<=g'/\w3.heap[g']? =δ (.cells cur' 97 (0,0))/\ss.length+1<=cap'/\cap'<=maxLen/\cur'.size=cap'*2/\cur'.toList.take ((ss.length+1)*2)=ss.flatMap wP++[.int θ x.unit,.string x.param]:=by
     rcases aAX.2 with⟨_,h0⟩|h'
     ·exact absurd h0 (by omega)
     ·exact h'
    go_frame)
  |(rw[Oper.semAt_eq _ _ _ (λc h=>by cases h)];go_simp;try go_bits))
 have Q1:(W2.alloc (.cells #[.int θ x.unit,.string x.param] 97)).grownBy w3 v.ownBlock:=hg3;have hL3:w3.heap[l]? =δ (.loop {yA fn sv Bs D .ready ξ with state:=.busy}):=(Q1.block l (by simp;omega) (WC Y1 (λcur e=>by cases e))).trans ((Below.heap_alloc _ _ l pU).trans Y1);have MM:w3.heap[D]? =δ (.deferred (δ [])):=(Q1.block D (by simp;omega) (WC YZ (λcur e=>by cases e))).trans ((Below.heap_alloc _ _ D awE).trans YZ);obtain⟨w4,M6⟩:∃w4,w3.setCell ⟨Bs,0,ξ⟩ (.slice (δ ⟨g',0,ξ⟩) (ss.length+1) cap')=w4:=⟨_,rfl⟩
 rw[M6];have hg4:w3.grownBy w4 (δ Bs):=by rw[<-M6];exact ajP _ _ _
 have hv4:w4.heap[Bs]? =δ (.cells #[.slice (δ ⟨g',0,ξ⟩) (ss.length+1) cap'] 84 (0,0)):=by rw[<-M6];exact ajQ _ M5
 have Rs:w4.heap[l]? =δ (.loop {yA fn sv Bs D .ready ξ with state:=.busy}):=(hg4.block l (lT.1 hL3).1 (λe=>YW (by cases e;rfl))).trans hL3;have hK4:w4.heap[D]? =δ (.deferred (δ [])):=(hg4.block D (lT.1 MM).1 (λe=>hDB (by cases e;rfl))).trans MM;have ahc:=aAX.kept hg4 (HU aAX M5 (λcur e=>by cases e));have hl4:l<w4.heap.size:=(lT.1 Rs).1;have MR:Below w0.heap.size w0 w3:=(xI.alloc xI.size _).grown Q1 (by have:=xI.size;simp;omega) (λk e=>(Qz.lt k e).1);have hb4:Below w0.heap.size w0 w4:=MR.grown hg4 MR.size (λk e=>by cases e;exact h0B);have hk4:KeepsWalks W w4:=((awU.trans (aCq _ _)).trans (KeepsWalks.of_grownBy Q1 (ajR (Qz.alloc _)))).trans (by rw[<-M6];exact KeepsWalks.setCell _ _ _);clear M6;refine⟨_,_,run_endRound ξ Rs,rfl,⟨⟨_,(U4 YW).trans hv4,?_,by simp⟩,World.putObj_heap_same hl4,(U4 hDl).trans hK4,hb4.grown (HC _ _ _) hb4.size (λk e=>by cases e;exact h0l)⟩,hk4.trans (KeepsWalks.putObj _ Rs rfl)⟩;have:=ahc.kept (HC w4 l (.loop {{yA fn sv Bs D .ready ξ with state:=.busy}with state:=if(ξ:Option Code).isNone then .ready else .done,pending:=ξ})) (HU ahc Rs (λcur e=>by cases e));simpa [wP]using this
set_option maxHeartbeats 2000000 in
theorem akY(F:Fence)(n:Nat)(h11:F.fn 80)(hro:F.round=ξ)(hn:2<=n)(g:Nat)(lb:Array Value)(hFg:F.fn g)(eg:∀args w,(callFunc g args).run Tryz.prog w=.ok (.enter g args) w)
  (S:List aI->Prop) (N:Nat) (hN:N<=maxLen) (hNb:N*24<=140737488355328) (w:World) (XW:SeqGives F (n-1) Tryz.prog g lb sj S N w):
  CallsIn F n Tryz.prog 80 #[.slice ξ 0 0,.func (.func g) #[] lb] w λe w'=>∃(v:Value)(ss:List aI),e=.returned v/\S ss/\w'.ownsRow w.heap.size 97 2 v ss.length (ss.flatMap wP)/\(v=.slice ξ 0 0↔ss=[])/\Below w.heap.size w w':=by
 have h1:1<=n:=by omega
 refine callsIn_of_wp_marks Tryz.func80 rfl h11 ?_ hro;simp only[Tryz.ntmps80,Y9,R7,TZ,Nat.reduceAdd,Nat.reduceSub,Array.replicate_succ,Array.replicate_zero,List.push_toArray,List.append_toArray,Tp,mq]
 gi_wp2
 refine wpIn_rangeFunc ?_;intro fn hfn;rw[hro];obtain⟨W0,Az⟩:∃W0,w.alloc (.cells #[.slice ξ 0 0] 84)=W0:=⟨_,rfl⟩
 have hs0:W0.heap.size=w.heap.size+1:=by rw[<-Az];simp
 have RE:W0.heap[w.heap.size]? =δ (.cells #[.slice ξ 0 0] 84 (0,0)):=by rw[<-Az];exact VD w _
 have hb0:Below w.heap.size w W0:=by rw[<-Az];exact(Below.refl _ w).alloc (bF _) _
 rw[Az];obtain⟨W1,uc⟩:∃W1,(W0.alloc (.deferred (δ []))).alloc (.loop (yA fn (.func (.func g) #[] lb) w.heap.size W0.heap.size .ready ξ))=W1:=⟨_,rfl⟩
 have hold:∀k,k<W0.heap.size->W1.heap[k]? =W0.heap[k]? :=λk hk=>by rw[<-uc];exact(Below.heap_alloc _ _ k (by simp;omega)).trans (Below.heap_alloc _ _ k hk)
 have Bv:Below w.heap.size w W1:=by rw[<-uc];exact(hb0.alloc hb0.size _).alloc (by have:=hb0.size;simp;omega) _
 have hs1:W1.heap.size=W0.heap.size+2:=by rw[<-uc];simp
 have hM:LO w fn (.func (.func g) #[] lb) w.heap.size (W0.heap.size+1) W0.heap.size [] W1:=
  ⟨⟨_,(hold w.heap.size (by omega)).trans RE,⟨rfl,.inl ⟨rfl,rfl⟩⟩,by simp⟩,
   by rw[<-uc];have:=VD (W0.alloc (.deferred (δ []))) (.loop (yA fn (.func (.func g) #[] lb) w.heap.size W0.heap.size .ready ξ));rwa[World.size_alloc]at this,
   by rw[<-uc];exact(Below.heap_alloc _ _ _ (by simp)).trans (VD W0 _),Bv⟩
 refine⟨W0.heap.size+1,[{target:=.collected W0.heap.size,args:=#[]}],W1,{target:=.fn (.func g) lb,args:=#[.func (.yield (W0.heap.size+1)) #[] #[]]},W1,g,
  #[.func (.yield (W0.heap.size+1)) #[] #[]]++lb,W1,?_,?_,?_,?_,λ_=>h1,?_⟩
 ·rw[<-uc];unfold yA;simp only[Ju,Tryz.func80,Tryz.f80,azr];exact run_enterLoop_outer _ _ _ _ _
 ·simp [resolve,go_sem]
 ·intro f' hf';simp [Target.leads]at hf';subst hf';exact hFg
 ·simp [invoke,go_sem,eg]
 ·refine(XW (W0.heap.size+1) (LO w fn (.func (.func g) #[] lb) w.heap.size (W0.heap.size+1) W0.heap.size) W1 Bv (aoi _ _ _ _ _ _ _ Bv.size)
   (λpre x W hJ hl=>arf F (n-1-1) w fn hfn _ w.heap.size (W0.heap.size+1) W0.heap.size (by omega) (by omega) (by omega) (bF _) (by omega) N hN hNb pre x W hJ hl) hM).mono ?_
  rintro e W2 ⟨⟨v0,rfl⟩,ss,hS,h2⟩;obtain⟨v,hv,hrow,Cx⟩:=h2.box;have hend:=run_endLoop (P:=Tryz.prog) h2.L (by simp [yA]);obtain⟨W3,MQ⟩:∃W3,W2.putObj (W0.heap.size+1) (.loop {yA fn (.func (.func g) #[] lb) w.heap.size W0.heap.size .ready ξ with state:=.exhausted})=W3:=⟨_,rfl⟩
  rw[MQ]at hend;have hg3:W2.grownBy W3 (δ (W0.heap.size+1)):=by rw[<-MQ];exact HC _ _ _
  have M5:W3.heap[w.heap.size]? =δ (.cells #[v] 84 (0,0)):=by rw[<-MQ];exact(U4 (by omega)).trans hv
  have MM:W3.heap[W0.heap.size]? =δ (.deferred (δ [])):=by rw[<-MQ];exact(U4 (by omega)).trans h2.K
  have ahb:=hrow.kept hg3 (HU hrow h2.L (λcur e=>by cases e));have MR:Below w.heap.size w W3:=h2.below.grown hg3 h2.below.size (λk e=>by cases e;omega);obtain⟨C4,hf3⟩:=To M5;clear MQ;refine⟨ξ,W3,hend,?_⟩
  gi_wp2
  rw[<-hs0];refine⟨by simp,.inl ⟨_,_,rfl,run_takeDeferred MM,?_⟩⟩;exact⟨_,results_tmp rfl _ _ _,v,ss,rfl,hS,ahb.kept (HC _ _ _) (HU ahb MM (λcur e=>by cases e)),Cx,MR.grown (HC _ _ _) MR.size (λk e=>by cases e;omega)⟩
theorem alu(Bm off:Nat)(mb:Option Nat)(es:Array MapEntry)(ks:List aI)(hks:vD es.toList ks)(hlen:ks.length<=1000000)(w:World)(hm:w.cell? ⟨Bm,off,ξ⟩=δ (.map mb))(YX:Bm<w.heap.size)(hs:Bc w mb es):
  Calls Tryz.prog 50 #[.func (.func 52) #[] #[.pointer (δ ⟨Bm,off,ξ⟩)]] w λe w'=>∃(v:Value)(ss:List aI),e=.returned v/\ss.Perm ks/\w'.ownsRow w.heap.size 97 2 v ss.length (ss.flatMap wP)/\(v=.slice ξ 0 0↔ss=[])/\Below w.heap.size w w':=by
 have hl:es.size=ks.length:=by have:=congrArg VN hks;simpa using this
 have XW:∀W,Below w.heap.size w W->SeqGives Fence.wide 8 Tryz.prog 52 #[.pointer (δ ⟨Bm,off,ξ⟩)] sj (λss=>ss.Perm ks) es.size W:=λW hW l J W1 uc hJ hY h0=>by have hb:Below w.heap.size w W1:=hW.trans (uc.mono hW.size);exact aoQ Fence.wide 8 trivial rfl (by omega) l Bm off mb es ks hks J hY W1 hJ (by rw[cell_of_block (hb.block Bm YX)];exact hm) (hs.below hb) h0
 have hN0:es.size<=maxLen:=X8 (by omega) (show(1000000:Nat)<=maxLen by decide);have hA:=λW(hW:Below w.heap.size w W)=>callsIn_wide.1 (akY Fence.wide 9 trivial rfl (by omega) 52 #[.pointer (δ ⟨Bm,off,ξ⟩)] trivial Tryz.call52 (λss=>ss.Perm ks) es.size hN0 (by omega) W (XW W hW))
 have hA0:=hA w (Below.refl _ _)
 go_enter Tryz.func50,Tryz.ntmps50
 go_wp2_with (go_at_call 80;refine hA0.mono ?_;rintro e w' ⟨v,ss,rfl,hS,hrow,Cx,hb⟩)
 go_ret
 exact⟨v,ss,rfl,hS,hrow,Cx,hb⟩
end
section
theorem bq(s t:ByteArray):(s==t)=decide (s=t):=by obtain⟨a⟩:=s;obtain⟨b⟩:=t;show(a==b)=_;rw[qn];simp
section
variable {α β : Type}
theorem cT(t e:Option α):Γ (.bool η) t e=t:=rfl
theorem cF(t e:Option α):Γ (.bool ι) t e=e:=rfl
theorem gTT(e d:Option α):μ (.bool η) η e d=e:=rfl
theorem gTF(e d:Option α):μ (.bool η) ι e d=d:=rfl
theorem gFT(e d:Option α):μ (.bool ι) η e d=d:=rfl
theorem gFF(e d:Option α):μ (.bool ι) ι e d=e:=rfl
theorem pT(x y:AV):p9 (.bool η) x y=δ x:=rfl
theorem pF(x y:AV):p9 (.bool ι) x y=δ y:=rfl
theorem C2{p:Prop}[Decidable p]{w:Bool}{e d:Option α}{f:α->Option β}:(μ (.bool (decide p)) w e d).bind f=if p then(μ (.bool η) w e d).bind f else(μ (.bool ι) w e d).bind f:=by by_cases h:p<;>simp [h]
theorem C1{b w:Bool}{e d:Option α}{f:α->Option β}:(μ (.bool b) w e d).bind f=match b with|true=>(μ (.bool η) w e d).bind f|false=>(μ (.bool ι) w e d).bind f:=by cases b<;>rfl
theorem CX{p:Prop}[Decidable p]{t e:Option α}:Γ (.bool (decide p)) t e=if p then t else e:=by by_cases h:p<;>simp [h,Γ]
theorem Cq{p:Prop}[Decidable p]{t e:Option α}:Γ (.bool (!decide p)) t e=if p then e else t:=by by_cases h:p<;>simp [h,Γ]
theorem CW{b:Bool}{t e:Option α}:Γ (.bool (!b)) t e=match b with|true=>e|false=>t:=by cases b<;>rfl
theorem CV{b:Bool}{t e:Option α}:Γ (.bool b) t e=match b with|true=>t|false=>e:=by cases b<;>rfl
theorem gN(w:Bool)(e d:Option α):μ (.aM []) w e d=d:=rfl
theorem xN(a b:AX):(a==b)=decide (a=b):=by rw[qn];simp
end
section
variable (k : IntKind) (a b : Int) (p q : Prop) [Decidable p] [Decidable q] (s t : ByteArray) (x y : AV) (σ : Heap) (cs : an)
theorem lU:Z8 (.ah a) (.ah b)=δ (.ah (θ.wrap (a+b))):=rfl
theorem mV:T6 (.ah a) (.ah b)=δ (.ah (θ.wrap (a-b))):=rfl
theorem zX:WR (.ah a) (.ah b)=δ (.ah (θ.wrap (a*b))):=rfl
theorem ahx(h:b≠0):A.quo (.ah a) (.ah b)=δ (.ah (θ.wrap (a.tdiv b))):=by simp [A.quo,h]
theorem avq(h:b≠0):A.rem (.ah a) (.ah b)=δ (.ah (a.tmod b)):=by simp [A.rem,h]
theorem lp:Sq (.ah a) (.ah b)=δ (.bool (decide (a<b))):=rfl
theorem QT:Y0 (.ah a) (.ah b)=δ (.bool (decide (a<=b))):=rfl
theorem Cm:Tt (.ah a) (.ah b)=δ (.bool (decide (b<a))):=rfl
theorem qp:ZC (.ah a) (.ah b)=δ (.bool (decide (b<=a))):=rfl
theorem agW:Sq (.int .u8 a) (.int .u8 b)=δ (.bool (decide (a<b))):=rfl
theorem agV:Y0 (.int .u8 a) (.int .u8 b)=δ (.bool (decide (a<=b))):=rfl
theorem agT:Tt (.int .u8 a) (.int .u8 b)=δ (.bool (decide (b<a))):=rfl
theorem agS:ZC (.int .u8 a) (.int .u8 b)=δ (.bool (decide (b<=a))):=rfl
theorem gK:Wn .i (.int k a) (.int k b)=δ (.bool (decide (a=b))):=by simp only[Wn,Uj,A.pR,if_true,cq];congr 2
theorem fN:Uq .i (.int k a) (.int k b)=δ (.bool (decide (¬a=b))):=by simp only[Uq,Uj,A.pR,if_true,cq];congr 2;rw[qn];simp
theorem ahu:Wn .z (.str s) (.str t)=δ (.bool (decide (s=t))):=by simp only[Wn,Uj,A.sN,cq,bq]
theorem azj:Uq .z (.str s) (.str t)=δ (.bool (decide (¬s=t))):=by simp only[Uq,Uj,A.sN,cq,bq];simp
theorem ahw(b:Bool):Yr (.bool b)=δ (.bool (!b)):=rfl
theorem agX:Yr (.bool (decide p))=δ (.bool (decide (¬p))):=by simp [Yr]
theorem aLb:ZE (.lbx cs)=δ cs:=rfl
theorem agO(l:an):TH 0 (.aM (x::l))=δ x:=rfl
theorem agP(x0 x:AV)(l:an):TH 1 (.aM (x0::x::l))=δ x:=rfl
theorem agQ(x0 x1 x:AV)(l:an):TH 2 (.aM (x0::x1::x::l))=δ x:=rfl
theorem agR(x0 x1 x2 x:AV)(l:an):TH 3 (.aM (x0::x1::x2::x::l))=δ x:=rfl
theorem aDe:χ (.rp cs) σ=δ cs:=rfl
theorem aFa(o:Nat):p5 o (.rp cs)=δ (.rp (cs.drop o)):=rfl
theorem agU:A.Er (.str s)=δ (.ah s.size):=rfl
theorem aCI(n:Int):Θ (.int k n)=δ (.int k n):=rfl
theorem aCB(b:Bool):Θ (.bool b)=δ (.bool b):=rfl
theorem aCS:Θ (.str s)=δ (.str s):=rfl
theorem aht(sz:Nat)(es:List an):Θ (.sl sz es)=δ (.sl sz es):=rfl
theorem aBp(o k:Nat):φ o (cs.drop k)=φ (k+o) cs:=by simp [φ,YF]
end
theorem gd0(a d:AV)(l:an):(a::l).getD 0 d=a:=rfl
theorem gd1(a b d:AV)(l:an):(b::a::l).getD 1 d=a:=rfl
theorem gd2(a b c d:AV)(l:an):(b::c::a::l).getD 2 d=a:=rfl
theorem gd3(a b c e d:AV)(l:an):(b::c::e::a::l).getD 3 d=a:=rfl
theorem gd4(a b c e f d:AV)(l:an):(b::c::e::f::a::l).getD 4 d=a:=rfl
theorem gd5(a b c e f g d:AV)(l:an):(b::c::e::f::g::a::l).getD 5 d=a:=rfl
theorem gd6(a b c e f g h d:AV)(l:an):(b::c::e::f::g::h::a::l).getD 6 d=a:=rfl
theorem gd7(a b c e f g h i d:AV)(l:an):(b::c::e::f::g::h::i::a::l).getD 7 d=a:=rfl
theorem gd8(a b c e f g h i j d:AV)(l:an):(b::c::e::f::g::h::i::j::a::l).getD 8 d=a:=rfl
theorem cO{n:Int}(h:aU n):θ.wrap n=n:=IntWalk.i64_in n h
theorem wrap_eq{ro:Bool}{eX:List Sh}{fE:Sh}{r:an->Heap->aC}{args:an}{σ σ':Heap}{v v':AV}(h:args.any A.own=ι)(e:r (UZ eX args) σ=δ (v,σ'))(hv:Wo fE v=v'):Ω ro eX fE r args σ=δ (v',σ'):=by unfold Ω;rw[h,Tb,bK,e];simp [hv]
theorem Ug{v:AV}(n:Nat)(h:A.xk v=η):A.fresh v=η/\A.shift n v=v:=by cases v<;>first|exact⟨h,rfl⟩|cases h
theorem acJ{v:AV}(n:Nat)(h:A.Ey v=η):A.B3 v=η/\A.A7 n v=v:=by
 have key:(∀vs,v≠.aM vs)->A.B3 v=η/\A.A7 n v=v:=by intro k;have:=Ug (v:=v) n;cases v<;>first|exact absurd rfl (k _)|exact this h
 by_cases ht:∃vs,v=.aM vs
 ·obtain⟨vs,rfl⟩:=ht;simp only[A.Ey,vS]at h;refine⟨by simp only[A.B3,vS];exact λx hx=>(Ug n (h x hx)).1,?_⟩;simp only[A.A7];congr 1
  calc vs.map (A.shift n)=vs.map id:=TA λx hx=>(Ug n (h x hx)).2
   _=vs:=List.map_id vs
 ·exact key λvs e=>ht ⟨vs,e⟩
theorem VC{eX:List Sh}{fE:Sh}{r:an->Heap->aC}{args args':an}{σ:Heap}{v:AV}(h:args.any A.own=η)(hz:UC σ 0 8 args=δ args')(ho:args'.any A.own=ι)(e:Ω η eX fE r args' []=δ (v,[]))(hs:A.Ey v=η):Ω η eX fE r args σ=δ (v,σ):=by unfold Ω at e ⊢;rw[ho,Tb,bK]at e;obtain⟨⟨q1,q2⟩,e1,e2⟩:=eP.1 e;simp only[j0]at e2;obtain⟨rfl,rfl⟩:=e2;rw[h,Bool.and_self,cA,hz];simp [e1,(acJ σ.length hs).1,(acJ σ.length hs).2]
theorem bL(σ:Heap)(r:AV):l6 σ r σ=δ (r,σ):=by simp [l6]
theorem adb(σ:Heap)(n d:Nat){a:AV}(h:A.yE a=η):Wr σ n d a=δ a:=by
 cases a<;>simp only[A.yE]at h<;>first|(cases h;done)|skip
 case sl sz es=>cases es with
  |nil=>cases d<;>simp [Wr,A.ku]
  |cons _ _=>simp at h
 all_goals cases d<;>simp [Wr]
theorem ace(σ:Heap)(n d:Nat):∀{l:an},l.all A.yE=η->UC σ n d l=δ l
 |[],_=>by simp [UC]
 |a::l,h=>by simp only[aCh,je]at h;simp [UC,adb σ n d h.1,ace σ n d h.2]
theorem ade(σ:Heap)(n d:Nat){a:AV}(h:A.xk a=η):Wr σ n d a=δ a:=by
 unfold A.xk at h;split at h
 ·cases d<;>simp [Wr,ace σ n _ h]
 ·exact adb σ n d h
theorem acf(σ:Heap)(n d:Nat):∀{l:an},l.all A.xk=η->UC σ n d l=δ l
 |[],_=>by simp [UC]
 |a::l,h=>by simp only[aCh,je]at h;simp [UC,ade σ n d h.1,acf σ n d h.2]
theorem aqa(σ:Heap)(n d:Nat){a:AV}(h:A.Ey a=η):Wr σ n d a=δ a:=by
 unfold A.Ey at h;split at h
 ·cases d<;>simp [Wr,acf σ n _ h]
 ·exact ade σ n d h
theorem Pz(σ bs:Heap){r:AV}(h:A.Ey r=η):l6 σ r (σ++bs)=δ (r,σ):=by
 unfold l6;split
 ·rfl
 ·rw[aO (by simp),aqa _ _ _ h];rfl
theorem VQ(σ bs:Heap)(k:IntKind)(n:Int):l6 σ (.int k n) (σ++bs)=δ (.int k n,σ):=Pz σ bs rfl
theorem ad8(σ bs:Heap)(b:Bool):l6 σ (.bool b) (σ++bs)=δ (.bool b,σ):=Pz σ bs rfl
theorem ae2(σ bs:Heap)(s:ByteArray):l6 σ (.str s) (σ++bs)=δ (.str s,σ):=Pz σ bs rfl
theorem ad9(σ bs:Heap):l6 σ (.aM []) (σ++bs)=δ (.aM [],σ):=Pz σ bs rfl
theorem Rw(σ bs:Heap)(j:Nat):(σ++bs)[σ.length+j]? =bs[j]? :=by rw[iz (by omega)];congr 1;omega
theorem I8(σ bs:Heap):(σ++bs)[σ.length]? =bs[0]? :=by rw[iz (bF _),Wz]
theorem sx(σ bs:Heap)(j:Nat)(b:aT):(σ++bs).set (σ.length+j) b=σ++bs.set j b:=by rw[pJ _ _ (by omega)];congr 2;omega
theorem Ww(σ bs:Heap)(b:aT):(σ++bs).set σ.length b=σ++bs.set 0 b:=by rw[pJ _ _ (bF _),Wz]
section
variable {α : Type} (sz : Nat) (c : α -> an) (l : List α)
theorem fJ:UT (sl sz c l)=δ (.ah l.length):=by simp [sl,UT]
theorem mR{k:Nat}{x:α}(h:l[k]? =δ x):UM sz (sl sz c l) (.ah (k:Int))=δ (.rp (c x)):=by have hk:k<l.length:=(bD.1 h).1;have hx:l[k]=x:=(bD.1 h).2;simp [UM,sl,A.idx,hk,hx]
theorem aoL{i:Int}{x:α}(h0:0<=i)(h:l[i.toNat]? =δ x):UM sz (sl sz c l) (.ah i)=δ (.rp (c x)):=by have:=mR sz c l h;rwa[SN h0]at this
end
inductive Rd (S R : Type) where
 |go(s:S)
 |out(r:R)
def Rd.el{S R γ:Type}(x:Rd S R)(f:S->γ)(g:R->γ):γ:=match x with|.go s=>f s|.out r=>g r
theorem DX{S R γ:Type}(s:S)(f:S->γ)(g:R->γ):(Rd.go s:Rd S R).el f g=f s:=rfl
theorem DO{S R γ:Type}(r:R)(f:S->γ)(g:R->γ):(Rd.out r:Rd S R).el f g=g r:=rfl
theorem II{S R γ:Type}{p:Prop}[Decidable p](x y:Rd S R)(f:S->γ)(g:R->γ):(if p then x else y).el f g=if p then x.el f g else y.el f g:=by split<;>rfl
def lW{α S R:Type}(body:List α->α->S->Rd S R):List α->List α->S->Rd S R
 |_,[],s=>.go s
 |pre,x::l,s=>match body pre x s with|.go s'=>lW body (pre++[x]) l s'|.out r=>.out r
theorem aoO{f:an->Heap->Option (AX×an×Heap)}{v:an}{σ:Heap}:∀{n m:Nat}{r r':AX×an×Heap},U1 f n v σ=δ r->U1 f m v σ=δ r'->r=r':=by
 intro n;induction n generalizing v σ with
 |zero=>intro m r r' h;cases h
 |succ n ih=>
  intro m r r' h1 h2;cases m with
  |zero=>cases h2
  |succ m=>
   simp only[U1]at h1 h2;cases hf:f v σ with
   |none=>rw[hf]at h1;cases h1
   |some q=>
    rw[hf]at h1 h2;simp only[aP]at h1 h2;obtain⟨e,v',σ'⟩:=q;cases e with
    |normal=>exact ih h1 h2
    |exit i=>simp only at h1 h2;rw[h1]at h2;injection h2
    |ret=>simp only at h1 h2;rw[h1]at h2;injection h2
theorem Dr{f:an->Heap->Option (AX×an×Heap)}{v:an}{σ:Heap}{n:Nat}{r:AX×an×Heap}(h:U1 f n v σ=δ r):p7 f v σ=δ r:=by
 have hex:∃n r,U1 f n v σ=δ r:=⟨n,r,h⟩
 unfold p7;rw[dif_pos hex];exact congrArg δ (aoO (ZR (ZR hex)) h)
theorem Dx{f:an->Heap->Option (AX×an×Heap)}{v v':an}{σ σ':Heap}{r:AX×an×Heap}(h:f v σ=δ (.normal,v',σ'))(k:∃n,U1 f n v' σ'=δ r):∃n,U1 f n v σ=δ r:=by obtain⟨n,k⟩:=k;exact⟨n+1,by simp [U1,h,k]⟩
theorem vB{f:an->Heap->Option (AX×an×Heap)}{v:an}{σ:Heap}{r:AX×an×Heap}(h:f v σ=δ r)(hr:r.1≠.normal):∃n,U1 f n v σ=δ r:=by obtain⟨e,v',σ'⟩:=r;refine⟨1,?_⟩;cases e<;>first|(simp [U1,h];done)|exact absurd rfl hr
theorem qP{α S R γ:Type}{f:an->Heap->Option (AX×an×Heap)}(l:List α)(body:List α->α->S->Rd S R)(st:List α->S->an)(hp:List α->S->Heap)
  (fin:S->AX×an×Heap) (out:List α->S->R->AX×an×Heap) (P:List α->S->Prop) (s0:S) {k:AX×an×Heap->Option γ} (K1:S->Option γ) (K2:R->Option γ)
  (hstep:∀pre x rest s,l=pre++x::rest->P pre s->f (st pre s) (hp pre s)=δ ((body pre x s).el (λs'=>(.normal,st (pre++[x]) s',hp (pre++[x]) s')) (λr=>out pre s r)))
  (hend:∀s,P l s->f (st l s) (hp l s)=δ (fin s)) (h0:P [] s0)
  (hP:∀pre x rest s s',l=pre++x::rest->P pre s->body pre x s=.go s'->P (pre++[x]) s')
  (hk1:∀s,P l s->k (fin s)=K1 s) (hk2:∀pre x rest s r,l=pre++x::rest->P pre s->body pre x s=.out r->k (out pre s r)=K2 r)
  (Cw:∀s,(fin s).1≠.normal:=by intros;simp) (hout:∀pre s r,(out pre s r).1≠.normal:=by intros;simp) {v:an} {σ:Heap} (hv:v=st [] s0:=by rfl) (gW:σ=hp [] s0:=by rfl):
  (p7 f v σ).bind k=(lW body [] l s0).el K1 K2:=by
 have key:∀(rest pre:List α)(s:S),l=pre++rest->P pre s->∃q,(∃n,U1 f n (st pre s) (hp pre s)=δ q)/\k q=(lW body pre rest s).el K1 K2:=by
  intro rest;induction rest with
  |nil=>intro pre s hl hp';rw[TU]at hl;subst hl;exact⟨fin s,vB (hend s hp') (Cw s),by rw[lW,DX,hk1 s hp']⟩
  |cons x rest ih=>
   intro pre s hl hp';have h:=hstep pre x rest s hl hp';rw[lW];cases hb:body pre x s with
   |go s'=>rw[hb]at h;obtain⟨q,h1,h2⟩:=ih (pre++[x]) s' (by simpa using hl) (hP pre x rest s s' hl hp' hb);exact⟨q,Dx h h1,h2⟩
   |out r=>rw[hb]at h;exact⟨out pre s r,vB h (hout pre s r),by rw[DO,hk2 pre x rest s r hl hp' hb]⟩
 obtain⟨q,⟨n,h1⟩,h2⟩:=key l [] s0 rfl h0;rw[hv,gW,Dr h1,aP,h2]
theorem O4{α:Type}{body:List α->α->Unit->Rd Unit Int}{xG:List α->List α->Int}(h0:∀pre,xG pre []=0)(h:∀pre x rest,xG pre (x::rest)=(body pre x ()).el (λ_=>xG (pre++[x]) rest) (λr=>r)) {γ:Type} (K:Int->γ):
  ∀(l pre:List α),(lW body pre l ()).el (λ_=>K 0) K=K (xG pre l)
 |[],pre=>by rw[lW,h0];rfl
 |x::l,pre=>by
  rw[lW,h];cases body pre x ()with
  |go s=>exact O4 h0 h K l (pre++[x])
  |out r=>rfl
theorem qT{α:Type}{l pre rest:List α}{x:α}(h:l=pre++x::rest):l[pre.length]? =δ x:=by rw[h];simp
theorem tK{α:Type}{l pre rest:List α}{x:α}(h:l=pre++x::rest):pre.length<l.length:=by rw[h];simp
theorem aey{α:Type}{l pre rest:List α}{x:α}(h:l=pre++x::rest)(h0:0<pre.length):∃y,pre.getLast? =δ y/\l[pre.length-1]? =δ y:=by
 cases hp:pre.getLast? with
 |none=>rw[List.getLast?_eq_none_iff]at hp;subst hp;simp at h0
 |some y=>refine⟨y,rfl,?_⟩;rw[h,iG (by omega),<-hp,List.getLast?_eq_getElem?]
theorem adT{γ:Type}{p:UInt8->Bool}{f:an->Heap->Option (AX×an×Heap)}(s:ByteArray){σ:Heap}{k:AX×an×Heap->Option γ}(K2:Option γ)
  (hstep:∀(i:Nat)(c:UInt8),i<s.size->A.we (.str s) (.ah (i:Int))=δ (.int .u8 c.toNat)->f [.bool ι,.ah (i:Int)] σ=if p c=η then δ (.normal,[.bool ι,.ah ((i:Int)+1)],σ)else δ (.ret,[.bool ι,.ah (i:Int)],σ))
  (hend:f [.bool ι,.ah (s.size:Int)] σ=δ (.exit 0,[.bool ι,.ah (s.size:Int)],σ)) (hk2:∀i:Int,k (.ret,[.bool ι,.ah i],σ)=K2):
  (p7 f [.bool ι,.ah 0] σ).bind k=if s.data.toList.all p=η then k (.exit 0,[.bool ι,.ah (s.size:Int)],σ)else K2:=by
 have hsz:s.data.toList.length=s.size:=rfl
 refine(qP (S:=Unit) (R:=Unit) s.data.toList (λ_ c _=>if p c=η then .go ()else .out ()) (λpre _=>[.bool ι,.ah (pre.length:Int)]) (λ_ _=>σ) (λ_=>(.exit 0,[.bool ι,.ah (s.size:Int)],σ)) (λpre _ _=>(.ret,[.bool ι,.ah (pre.length:Int)],σ)) (λ_ _=>True) ()
  (λ_=>k (.exit 0,[.bool ι,.ah (s.size:Int)],σ)) (λ_=>K2) ?_ ?_ trivial (λ_ _ _ _ _ _ _ _=>trivial) (λ_ _=>rfl) (λ_ _ _ _ _ _ _ _=>hk2 _)).trans ?_
 ·intro pre c rest u hl _;have hlt:=tK hl;have hc:=qT hl;rw[hsz]at hlt
  have hsi:A.we (.str s) (.ah (pre.length:Int))=δ (.int .u8 c.toNat):=by have h2:s[pre.length]=c:=(bD.1 hc).2;simp [A.we,A.idx,hlt,h2]
  rw[hstep pre.length c hlt hsi];cases p c<;>simp [Rd.el]
 ·intro u _;rw[hsz];exact hend
 ·have key:∀(l pre:List UInt8),(lW (λ(_:List UInt8)c(_:Unit)=>if p c=η then(Rd.go ():Rd Unit Unit)else .out ()) pre l ()).el (λ_=>k (.exit 0,[.bool ι,.ah (s.size:Int)],σ)) (λ_=>K2)=if l.all p=η then k (.exit 0,[.bool ι,.ah (s.size:Int)],σ)else K2:=by
   intro l;induction l with
   |nil=>intro pre;simp [lW,Rd.el]
   |cons c l ih=>
    intro pre;rw[lW];cases hc:p c
    ·simp [hc,Rd.el]
    ·simp only[if_true];rw[ih];simp [hc]
  exact key s.data.toList []
section
variable {α : Type} (g : α -> ByteArray) (gi : α -> Int) (v : α -> AV)
theorem af6(k:ByteArray):∀(l:List α),XS .z (.str k) (l.map λx=>(AV.str (g x),v x))=δ ((l.find? λx=>decide (k=g x)).map v)
 |[]=>rfl
 |x::l=>by
  simp only[eo,XS,Uj,A.sN,aP,S4];by_cases h:k=g x
  ·rw[bq];simp [h]
  ·rw[bq];simp [h,af6 k l]
theorem af5(kk:IntKind)(k:Int):∀(l:List α),XS .i (.int kk k) (l.map λx=>(Z6 kk (gi x),v x))=δ ((l.find? λx=>decide (k=gi x)).map v)
 |[]=>rfl
 |x::l=>by
  simp only[eo,XS,Uj,A.pR,if_true,aP,S4];by_cases h:k=gi x
  ·have:(k==gi x)=η:=by simpa using h
   simp [this,h]
  ·have:(k==gi x)=ι:=by simpa using h
   simp [this,h,af5 kk k l]
theorem azE{k:ByteArray}{w:AV}:∀{l:List α},(∀x∈l,g x≠k)->A.upd .z (.str k) w (l.map λx=>(AV.str (g x),v x))=δ ((l.map λx=>(AV.str (g x),v x))++[(.str k,w)])
 |[],_=>rfl
 |x::l,h=>by
  have h1:(k==g x)=ι:=by rw[bq];exact cm λe:k=g x=>h x (by simp) e.symm
  simp only[eo,A.upd,Uj,A.sN,aP,h1,bK];rw[azE (λy hy=>h y (by simp [hy]))];rfl
theorem WJ{kk:IntKind}{k:Int}{w:AV}:∀{l:List α},(∀x∈l,gi x≠k)->A.upd .i (.int kk k) w (l.map λx=>(Z6 kk (gi x),v x))=δ ((l.map λx=>(Z6 kk (gi x),v x))++[(.int kk k,w)])
 |[],_=>rfl
 |x::l,h=>by
  have h1:(k==gi x)=ι:=by simpa using λe:k=gi x=>h x (by simp) e.symm
  simp only[eo,A.upd,Uj,A.pR,if_true,aP,h1,bK];rw[WJ (λy hy=>h y (by simp [hy]))];rfl
end
theorem DG(e:A.EK){k z:AV}{σ:Heap}{id:Nat}{es:List (AV×AV)}(hk:A.kK e k=η)(h:σ[id]? =δ (.map es)):WK e (.om id) k z σ=(XS e k es).map λr=>r.getD z:=by simp [WK,hk,Tn,h]
theorem BW(e:A.EK){k w:AV}{σ:Heap}{id:Nat}{es:List (AV×AV)}(hk:A.kK e k=η)(h:σ[id]? =δ (.map es)):A.iX e (.om id) k w σ=(A.upd e k w es).map λes=>σ.set id (.map es):=by simp [A.iX,hk,h]
theorem aem{α:Type}(l:List α)(x:α):(((l++[x]).length:Nat):Int)=(l.length:Int)+1:=by simp
theorem OX{α:Type}(sz:Nat)(c:α->an)(l:List α){k:Nat}{x:α}(h0:0<k)(h:l[k-1]? =δ x):UM sz (sl sz c l) (.ah ((k:Int) -1))=δ (.rp (c x)):=by have:=mR sz c l h;rwa[show((k-1:Nat):Int)=(k:Int) -1 by omega]at this
def nX{α:Type}(g:α->ByteArray)(l:List α):List (AV×AV):=l.map λx=>(AV.str (g x),i7 η)
def tU{α:Type}(g:α->Int)(l:List α):List (AV×AV):=l.map λx=>(ε (g x),i7 η)
theorem aBg{α:Type}(p:α->Bool):∀(l:List α),((l.find? p).map λ_=>i7 η).getD aY=i7 (l.any p)
 |[]=>rfl
 |x::l=>by
  simp only[S4,List.any_cons];cases h:p x
  ·simpa using aBg p l
  ·rfl
theorem adG{α:Type}(g:α->ByteArray)(k:ByteArray)(l:List α):(XS .z (.str k) (nX g l)).map (λr=>r.getD (.bool ι))=δ (.bool (kM k (l.map g))):=by unfold nX;rw[af6 g (λ_=>i7 η) k l,cq,aBg];refine congrArg δ (congrArg i7 ?_);rw[qn,aBw];simp only[Tg,decide_eq_true_eq,fL];exact⟨λ⟨x,h,e⟩=>⟨x,h,e.symm⟩,λ⟨x,h,e⟩=>⟨x,h,e.symm⟩⟩
theorem adC{α:Type}(g:α->Int)(k:Int)(l:List α):(XS .i (.ah k) (tU g l)).map (λr=>r.getD (.bool ι))=δ (.bool (kM k (l.map g))):=by unfold tU;rw[af5 g (λ_=>i7 η) θ k l,cq,aBg];refine congrArg δ (congrArg i7 ?_);rw[qn,aBw];simp only[Tg,decide_eq_true_eq,fL];exact⟨λ⟨x,h,e⟩=>⟨x,h,e.symm⟩,λ⟨x,h,e⟩=>⟨x,h,e.symm⟩⟩
section
variable {α : Type} (g : α -> ByteArray) (gi : α -> Int) (l : List α) (k : ByteArray) (n : Int) (σ bs : Heap) (b0 : aT)
theorem acM:WK .z (.om σ.length) (.str k) (.bool ι) (σ++YE (nX g l)::bs)=δ (.bool (kM k (l.map g))):=by rw[DG .z rfl (by rw[I8];rfl),adG]
theorem acK:WK .i (.om σ.length) (.ah n) (.bool ι) (σ++YE (tU gi l)::bs)=δ (.bool (kM n (l.map gi))):=by rw[DG .i rfl (by rw[I8];rfl),adC]
theorem acN:WK .z (.om (σ.length+1)) (.str k) (.bool ι) (σ++b0::YE (nX g l)::bs)=δ (.bool (kM k (l.map g))):=by rw[DG .z rfl (by rw[Rw];rfl),adG]
theorem acL:WK .i (.om (σ.length+1)) (.ah n) (.bool ι) (σ++b0::YE (tU gi l)::bs)=δ (.bool (kM n (l.map gi))):=by rw[DG .i rfl (by rw[Rw];rfl),adC]
theorem adI(h:kM k (l.map g)=ι):A.iX .z (.om σ.length) (.str k) (.bool η) (σ++YE (nX g l)::bs)=δ (σ++YE (nX g l++[(.str k,.bool η)])::bs):=by rw[BW .z rfl (by rw[I8];rfl),nX,azE g _ (λx hx e=>OY.1 h (by rw[<-e];exact Vb hx)),cq,Ww];rfl
theorem adE(h:kM n (l.map gi)=ι):A.iX .i (.om σ.length) (.ah n) (.bool η) (σ++YE (tU gi l)::bs)=δ (σ++YE (tU gi l++[(.ah n,.bool η)])::bs):=by rw[BW .i rfl (by rw[I8];rfl),tU,WJ gi _ (λx hx e=>OY.1 h (by rw[<-e];exact Vb hx)),cq,Ww];rfl
theorem adJ(h:kM k (l.map g)=ι):A.iX .z (.om (σ.length+1)) (.str k) (.bool η) (σ++b0::YE (nX g l)::bs)=δ (σ++b0::YE (nX g l++[(.str k,.bool η)])::bs):=by rw[BW .z rfl (by rw[Rw];rfl),nX,azE g _ (λx hx e=>OY.1 h (by rw[<-e];exact Vb hx)),cq,sx];rfl
theorem adF(h:kM n (l.map gi)=ι):A.iX .i (.om (σ.length+1)) (.ah n) (.bool η) (σ++b0::YE (tU gi l)::bs)=δ (σ++b0::YE (tU gi l++[(.ah n,.bool η)])::bs):=by rw[BW .i rfl (by rw[Rw];rfl),tU,WJ gi _ (λx hx e=>OY.1 h (by rw[<-e];exact Vb hx)),cq,sx];rfl
end
theorem adH{α:Type}(g:α->ByteArray)(l:List α)(x:α):nX g (l++[x])=nX g l++[(.str (g x),.bool η)]:=by simp [nX]
theorem azw(σ:Heap)(v:AV):wh (δ (v,σ)) σ=δ v:=by simp [wh]
def Fz(a:AV):Prop:=∀σ n d,Wr σ n d a=δ a
def iY(l:an):Prop:=∀σ n d,UC σ n d l=δ l
theorem cN(k:IntKind)(n:Int):Fz (.int k n):=λ_ _ d=>by cases d<;>simp [Wr]
theorem AZ(b:Bool):Fz (.bool b):=λ_ _ d=>by cases d<;>simp [Wr]
theorem zO(s:ByteArray):Fz (.str s):=λ_ _ d=>by cases d<;>simp [Wr]
theorem af8:Fz .aA:=λ_ _ d=>by cases d<;>simp [Wr]
theorem vF{l:an}(h:iY l):Fz (.agg l):=λσ n d=>by cases d<;>simp [Wr,h σ n]
theorem af9{l:an}(h:iY l):Fz (.aM l):=λσ n d=>by cases d<;>simp [Wr,h σ n]
theorem lg:iY []:=λ_ _ _=>by simp [UC]
theorem bO{a:AV}{l:an}(h:Fz a)(k:iY l):iY (a::l):=λσ n d=>by simp [UC,h σ n d,k σ n d]
theorem qZ{α:Type}{sz:Nat}{c:α->an}(h:∀x,iY (c x))(l:List α):Fz (sl sz c l):=by
 intro σ n d
 have:A.ku σ n d (l.map c)=δ (l.map c):=by
  induction l with
  |nil=>simp [A.ku]
  |cons x l ih=>simp [A.ku,h x σ n d,ih]
 cases d<;>simp [sl,Wr,this]
theorem QX{α:Type}{c:α->an}(h:∀x,iY (c x))(l:List α)(σ:Heap)(n d:Nat):A.ku σ n d (l.map c)=δ (l.map c):=by
 induction l with
 |nil=>simp [A.ku]
 |cons x l ih=>simp [A.ku,h x σ n d,ih]
def yJ{α:Type}(id sz:Nat)(l:List α):AV:=if l=[]then .aA else .os id l.length sz 0 l.length
def uJ{α:Type}(sz:Nat)(c:α->an)(l:List α):Heap:=if l=[]then[]else[.arr l.length sz (l.map c)]
theorem aqz{α:Type}(sz:Nat)(c:α->an):uJ sz c []=[]:=rfl
theorem ant{α:Type}{sz most:Nat}(c:α->an)(l:List α)(x:α)(σ:Heap)(h:l.length+1<=most):Uv sz most (yJ σ.length sz l) (.sl sz [c x]) (σ++uJ sz c l)=δ (yJ σ.length sz (l++[x]),σ++uJ sz c (l++[x])):=by
 unfold yJ uJ;cases l with
 |nil=>
  have h1:1<=most:=by simpa using h
  simp [Uv,A.pe,T9,h1]
 |cons y l=>
  have h1:l.length+1+1<=most:=by simpa using h
  simp [Uv,A.pe,T9,h1,I8,Ww,jI,vR]
theorem asG{α:Type}{sz:Nat}{c:α->an}(hc:∀x,iY (c x))(l:List α)(σ:Heap)(d:Nat):Wr (σ++uJ sz c l) σ.length (d+1) (yJ σ.length sz l)=δ (if l=[]then .aA else sl sz c l):=by
 unfold yJ uJ;split
 ·simp [Wr]
 ·rename_i hl;simp only[Wr,aCp,if_false,I8,List.getElem?_cons_zero];rw[aO (by simp)];have e:(List.take l.length (List.drop 0 (l.map c)))=l.map c:=by simp [vR]
  rw[e,Ft,QX hc];rfl
theorem ap5{α:Type}{sz:Nat}{c:α->an}(hc:∀x,iY (c x))(l:List α)(k:IntKind)(n:Int)(σ:Heap):l6 σ (.aM [yJ σ.length sz l,.int k n]) (σ++uJ sz c l)=δ (.aM [if l=[]then .aA else sl sz c l,.int k n],σ):=by
 unfold l6;split
 ·rename_i h;have:uJ sz c l=[]:=by simpa using h
  have hl:l=[]:=by
   unfold uJ at this;split at this
   ·assumption
   ·cases this
  subst hl;rfl
 ·rw[aO (by simp)]
  have:Wr (σ++uJ sz c l) σ.length 8 (.aM [yJ σ.length sz l,.int k n])=δ (.aM [if l=[]then .aA else sl sz c l,.int k n]):=by simp only[Wr,UC,asG hc,cN k n _ _ _,aP,cq]
  rw[this];rfl
theorem at3{α:Type}(sz:Nat)(c:α->an)(l:List α):Wo (.s sz) (if l=[]then .aA else sl sz c l)=sl sz c l:=by
 split
 ·rename_i h;subst h;rfl
 ·rfl
def jM{α:Type}(p:α->Bool)(l:List α):Int:=match l.findIdx? p with|some i=>i|none=>-1
theorem wL{α:Type}(p:α->Bool)(l:List α):(jM p l=-1/\(∀x∈l,p x=ι)/\l.find? p=ξ)\/∃(k:Nat)(x:α),l[k]? =δ x/\p x=η/\jM p l=k/\l.find? p=δ x/\∀(j:Nat)(y:α),j<k->l[j]? =δ y->p y=ι:=by
 induction l with
 |nil=>left;exact⟨rfl,by simp,rfl⟩
 |cons x l ih=>
  cases h:p x
  ·rcases ih with⟨h1,h2,h3⟩|⟨k,y,h1,h2,h3,h4,h5⟩
   ·left;refine⟨?_,?_,?_⟩
    ·unfold jM at h1 ⊢;rw[aCe,h];cases hf:l.findIdx? p with
     |none=>simp
     |some i=>rw[hf]at h1;simp at h1
    ·intro y hy;rcases iV.1 hy with rfl|hy
     ·exact h
     ·exact h2 y hy
    ·simp [S4,h,h3]
   ·right;refine⟨k+1,y,by simpa using h1,h2,?_,by simp [S4,h,h4],?_⟩
    ·unfold jM at h3 ⊢;rw[aCe,h];cases hf:l.findIdx? p with
     |none=>rw[hf]at h3;simp at h3
     |some i=>rw[hf]at h3;simp at h3 ⊢;omega
    ·intro j z hj hz;cases j with
     |zero=>simp at hz;subst hz;exact h
     |succ j=>exact h5 j z (by omega) (by simpa using hz)
  ·right;refine⟨0,x,rfl,h,?_,by simp [S4,h],by intro j y hj;omega⟩;unfold jM;rw[aCe,h];rfl
theorem DA{α:Type}{γ:Type}(p:α->Bool)(K1:Option γ)(K2:Int->Option γ):∀(l pre:List α),(∀x∈pre,p x=ι)->(lW (λpre x(_:Unit)=>if p x=η then(Rd.out (pre.length:Int):Rd Unit Int)else .go ()) pre l ()).el (λ_=>K1) K2=if jM p (pre++l)=-1 then K1 else K2 (jM p (pre++l))
 |[],pre,h=>by
  have:jM p (pre++[])=-1:=by
   rcases wL p (pre++[])with h1|⟨k,x,h1,h2,_⟩
   ·exact h1.1
   ·have:=h x (by have:=cE h1;simpa using this);rw[h2]at this;cases this
  rw[lW,DX,aO this]
 |x::l,pre,h=>by
  rw[lW];cases hx:p x
  ·simp only[UP,if_false]
   have:=DA p K1 K2 l (pre++[x]) (λy hy=>by
    rcases jJ.1 hy with hy|hy
    ·exact h y hy
    ·simp at hy;subst hy;exact hx)
   simpa using this
  ·simp only[if_true,DO]
   have:jM p (pre++x::l)=pre.length:=by
    rcases wL p (pre++x::l)with h1|⟨k,y,h1,h2,h3,_,h5⟩
    ·have:=h1.2.1 x (by simp);rw[hx]at this;cases this
    ·rw[h3];rcases Nat.lt_trichotomy k pre.length with hk|hk|hk
     ·rw[iG hk]at h1;have:=h y (cE h1);rw[h2]at this;cases this
     ·omega
     ·have:=h5 pre.length x hk (by simp);rw[hx]at this;cases this
   rw[this,aL (by omega)]
theorem aeF{α R γ:Type}(p:α->Bool)(r:R)(K1:Unit->γ)(K2:R->γ):∀(l pre:List α),(lW (λ_ x(_:Unit)=>if p x=η then(Rd.out r:Rd Unit R)else .go ()) pre l ()).el K1 K2=if l.any p=η then K2 r else K1 ()
 |[],pre=>by simp [lW,Rd.el]
 |x::l,pre=>by
  rw[lW];cases h:p x
  ·simp only[UP,if_false];rw[aeF p r K1 K2 l (pre++[x])];simp [h]
  ·simp [h,Rd.el]
theorem amH{α:Type}(sz:Nat)(c:α->an)(l:List α){k:Nat}(h:k<=l.length){σ:Heap}:A.qd sz (sl sz c l) ξ (δ (.ah (k:Int))) σ=δ (sl sz c (l.take k)):=by simp [A.qd,sl,Xn,h,List.map_take]
theorem adD(l:List Int)(n:Int):tU id l++[(.ah n,.bool η)]=tU id (l++[n]):=by simp [tU]
theorem ao1{κ:Type}[DecidableEq κ](k x:κ)(S:List κ):kM k (S++[x])=(kM k S||decide (x=k)):=by simp [kM]
theorem vW{α:Type}{sz:Nat}{c:α->an}{sh:List Sh}(h:∀x,UZ sh (c x)=c x)(l:List α):Wo (.e sz sh) (sl sz c l)=sl sz c l:=by simp only[sl,Wo,Zc];congr 1;exact TA λx _=>h x
theorem VY(sz:Nat)(sh:List Sh):Wo (.e sz sh) .aA=.sl sz []:=by simp [Wo]
theorem aep{α γ:Type}{f:an->Heap->Option (AX×an×Heap)}(l:List α)(p:α->Bool)(vs:Nat->an)(σ:Heap)(fin:AX×an×Heap)(ret:Nat->AX×an×Heap){k:AX×an×Heap->Option γ}(K1 K2:Option γ)
  (hstep:∀(i:Nat)(x:α),l[i]? =δ x->f (vs i) σ=if p x=η then δ (ret i)else δ (.normal,vs (i+1),σ)) (hend:f (vs l.length) σ=δ fin) (hk1:k fin=K1) (hk2:∀i,k (ret i)=K2)
  (Cw:fin.1≠.normal:=by simp) (Ml:∀i,(ret i).1≠.normal:=by intros;simp) {v:an} {σ':Heap} (hv:v=vs 0:=by rfl) (gW:σ'=σ:=by rfl):
  (p7 f v σ').bind k=if l.any p=η then K2 else K1:=by
 subst hv gW
 refine(qP (S:=Unit) (R:=Unit) l (λ_ x _=>if p x=η then .out ()else .go ()) (λpre _=>vs pre.length) (λ_ _=>σ') (λ_=>fin) (λpre _ _=>ret pre.length) (λ_ _=>True) () (λ_=>K1) (λ_=>K2)
  ?_ (λ_ _=>hend) trivial (λ_ _ _ _ _ _ _ _=>trivial) (λ_ _=>hk1) (λ_ _ _ _ _ _ _ _=>hk2 _) (λ_=>Cw) (λ_ _ _=>Ml _)).trans (aeF p () _ _ l [])
 intro pre x rest u hl _;rw[hstep pre.length x (qT hl)];cases p x<;>simp [Rd.el]
theorem aeh{α:Type}(sz:Nat)(c:α->an){l:List α}{k:Nat}{x:α}(h:l[k]? =δ x):UM sz (sl sz c l) (.ah (k:Int))=δ (.rp (c x))/\(k:Int)<(l.length:Int)/\(l.length<=aZ->θ.wrap ((k:Int)+1)=(k:Int)+1):=
 ⟨mR sz c l h,by have:=(bD.1 h).1;omega,λhl=>cO (by have:=(bD.1 h).1;unfold aU;unfold aZ at hl;omega)⟩
theorem aoX{α γ:Type}{f:an->Heap->Option (AX×an×Heap)}(l:List α)(p:α->Bool)(vs:Nat->an)(σ:Heap)(fin:AX×an×Heap)(ret:Nat->α->AX×an×Heap){k:AX×an×Heap->Option γ}(K1:Option γ)(K2:α->Option γ)
  (hstep:∀(i:Nat)(x:α),l[i]? =δ x->f (vs i) σ=if p x=η then δ (ret i x)else δ (.normal,vs (i+1),σ)) (hend:f (vs l.length) σ=δ fin) (hk1:k fin=K1) (hk2:∀i x,k (ret i x)=K2 x)
  (Cw:fin.1≠.normal:=by simp) (Ml:∀i x,(ret i x).1≠.normal:=by intros;simp) {v:an} {σ':Heap} (hv:v=vs 0:=by rfl) (gW:σ'=σ:=by rfl):
  (p7 f v σ').bind k=(l.find? p).elim K1 K2:=by
 subst hv gW
 have run:∀(l pre:List α),(lW (λ_ x(_:Unit)=>if p x=η then(Rd.out x:Rd Unit α)else .go ()) pre l ()).el (λ_=>K1) K2=(l.find? p).elim K1 K2:=by
  intro l;induction l with
  |nil=>intro pre;rfl
  |cons x l ih=>
   intro pre;rw[lW];cases h:p x
   ·simp only[UP,if_false];rw[ih,List.find?_cons,h]
   ·simp [h,Rd.el]
 refine(qP (S:=Unit) (R:=α) l (λ_ x _=>if p x=η then .out x else .go ()) (λpre _=>vs pre.length) (λ_ _=>σ') (λ_=>fin) (λpre _ x=>ret pre.length x) (λ_ _=>True) () (λ_=>K1) K2
  ?_ (λ_ _=>hend) trivial (λ_ _ _ _ _ _ _ _=>trivial) (λ_ _=>hk1) (λ_ _ _ _ _ _ _ _=>hk2 _ _) (λ_=>Cw) (λ_ _ _=>Ml _ _)).trans (run l [])
 intro pre x rest u hl _;rw[hstep pre.length x (qT hl)];cases p x<;>simp [Rd.el]
theorem Iq{α:Type}(n:Int)(B:AV->Option α)(s:Option α):((Sq (.ah n) (.ah n)).bind λx=>Γ x (B x) s)=s:=by simp only[lp,WG,aP,decide_false,cF]
section
variable {α β : Type}
theorem aou{c c':AV}(h:c=c')(t e:Option α):Γ c t e=Γ c' t e:=by rw[h]
theorem anj{c c':AV}(h:c=c')(w:Bool)(e d:Option α):μ c w e d=μ c' w e d:=by rw[h]
theorem aok{x y:Option α}(h:x=y)(f:α->Option β):x.bind f=y.bind f:=by rw[h]
attribute [congr] aou anj aok
end
theorem aW:type_of% @aP.{0,0}/\type_of% @cq.{0,0}/\type_of% @cT/\type_of% @cF/\type_of% @gTT/\type_of% @gTF/\type_of% @gFT/\type_of% @gFF/\type_of% @gN/\type_of% @pT/\type_of% @pF/\type_of% @cA.{1}/\type_of% @bK.{1}/\type_of% @xN/\type_of% @lU/\type_of% @mV/\type_of% @zX/\type_of% @lp/\type_of% @QT/\type_of% @Cm/\type_of% @qp/\type_of% @agW/\type_of% @agV/\type_of% @agT/\type_of% @agS/\type_of% @gK/\type_of% @fN/\type_of% @ahu/\type_of% @azj/\type_of% @ahw/\type_of% @agX/\type_of% @aLb/\type_of% @agO/\type_of% @agP/\type_of% @agQ/\type_of% @agR/\type_of% @aDe/\type_of% @aFa/\type_of% @agU/\type_of% @aCI/\type_of% @aCB/\type_of% @aCS/\type_of% @aht/\type_of% @aBp/\type_of% @gd0/\type_of% @gd1/\type_of% @gd2/\type_of% @gd3/\type_of% @gd4/\type_of% @gd5/\type_of% @gd6/\type_of% @gd7/\type_of% @gd8/\type_of% @bL/\type_of% @VQ/\type_of% @ad8/\type_of% @ae2/\type_of% @ad9/\type_of% @fJ/\type_of% @ite_true.{1}/\type_of% @ite_false.{1}/\type_of% @if_true.{1}/\type_of% @if_false.{1}/\type_of% @UP/\type_of% @not_true_eq_false/\type_of% @not_false_eq_true/\type_of% @decide_true/\type_of% @decide_false/\type_of% @Xk/\type_of% @U6/\type_of% @kS.{0}/\type_of% @mq.{0}/\type_of% @Tp.{0}/\type_of% @Tq.{0}/\type_of% @afq/\type_of% @afr/\type_of% @aem/\type_of% @Int.natCast_add/\type_of% @Int.cast_ofNat_Int/\type_of% @azw/\type_of% @DX/\type_of% @DO/\type_of% @II/\type_of% @acM/\type_of% @acK/\type_of% @acN/\type_of% @acL/\type_of% @adH/\type_of% @adI/\type_of% @adE/\type_of% @adJ/\type_of% @adF/\type_of% @true_and/\type_of% @and_true/\type_of% @false_and/\type_of% @and_false/\type_of% @true_or/\type_of% @or_true/\type_of% @false_or/\type_of% @or_false/\type_of% @SG.{0}/\type_of% @Va.{0}/\type_of% @Ve.{0}/\type_of% @R7.{0}/\type_of% @TZ.{0}/\type_of% @WW/\type_of% @Nat.add_zero:=
 ⟨@aP.{0,0},@cq.{0,0},@cT,@cF,@gTT,@gTF,@gFT,@gFF,@gN,@pT,@pF,@cA.{1},@bK.{1},@xN,@lU,@mV,@zX,@lp,@QT,@Cm,@qp,@agW,@agV,@agT,@agS,@gK,@fN,@ahu,@azj,@ahw,@agX,@aLb,@agO,@agP,@agQ,@agR,@aDe,@aFa,@agU,@aCI,@aCB,@aCS,@aht,@aBp,@gd0,@gd1,@gd2,@gd3,@gd4,@gd5,@gd6,@gd7,@gd8,@bL,@VQ,@ad8,@ae2,@ad9,@fJ,@ite_true.{1},@ite_false.{1},@if_true.{1},@if_false.{1},@UP,@not_true_eq_false,@not_false_eq_true,@decide_true,@decide_false,@Xk,@U6,@kS.{0},@mq.{0},@Tp.{0},@Tq.{0},@afq,@afr,@aem,@Int.natCast_add,@Int.cast_ofNat_Int,@azw,@DX,@DO,@II,@acM,@acK,@acN,@acL,@adH,@adI,@adE,@adJ,@adF,@true_and,@and_true,@false_and,@and_false,@true_or,@or_true,@false_or,@or_false,@SG.{0},@Va.{0},@Ve.{0},@R7.{0},@TZ.{0},@WW,@Nat.add_zero⟩
end
theorem KO(x:mS):iY (gY x):=(bO (cN _ _) (bO (cN _ _) lg))
theorem adh(x:qU):iY (ou x):=(bO (cN _ _) (bO (cN _ _) (bO (zO _) lg)))
theorem US(x:fO):iY (gm x):=(bO (zO _) (bO (cN _ _) (bO (cN _ _) (bO (cN _ _) (bO (cN _ _) (bO (AZ _) (bO (qZ adh _) lg)))))))
theorem al6(x:eA):iY (dF x):=(bO (zO _) (bO (cN _ _) (bO (qZ US _) lg)))
theorem Vl(x:jk):iY (dr x):=(bO (cN _ _) (bO (zO _) (bO (cN _ _) (bO (cN _ _) lg))))
theorem DE(x:aI):iY (aV x):=(bO (cN _ _) (bO (zO _) lg))
theorem abJ(x:zC):iY (tv x):=(bO (cN _ _) (bO (zO _) (bO (cN _ _) lg)))
theorem acg(x:lF):iY (fk x):=(bO (cN _ _) (bO (zO _) (bO (qZ abJ _) lg)))
theorem aee(x:gz):iY (gE x):=(bO (cN _ _) (bO (zO _) (bO (cN _ _) (bO (cN _ _) (bO (AZ _) (bO (AZ _) (bO (cN _ _) (bO (cN _ _) lg))))))))
theorem Lb(x:bl):iY (bn x):=(bO (cN _ _) (bO (zO _) (bO (cN _ _) (bO (cN _ _) (bO (cN _ _) (bO (cN _ _) (bO (cN _ _) (bO (qZ KO _) (bO (AZ _) (bO (cN _ _) (bO (qZ aee _) lg)))))))))))
theorem adf(x:bI):iY (dS x):=(bO (cN _ _) (bO (zO _) (bO (cN _ _) (bO (cN _ _) (bO (cN _ _) lg)))))
theorem aqb(x:jU):iY (eZ x):=(bO (cN _ _) (bO (qZ Lb _) lg))
theorem TB(x:iC):iY (cr x):=(bO (cN _ _) (bO (cN _ _) (bO (cN _ _) lg)))
theorem OW(x:cW):iY (bz x):=(bO (cN _ _) (bO (cN _ _) (bO (cN _ _) (bO (cN _ _) (bO (cN _ _) lg)))))
theorem adg(x:cV):iY (dW x):=(bO (cN _ _) (bO (cN _ _) (bO (cN _ _) (bO (cN _ _) (bO (cN _ _) (bO (cN _ _) lg))))))
theorem arU(x:Cl):iY (lH x):=(bO (cN _ _) (bO (zO _) (bO (cN _ _) (bO (cN _ _) (bO (cN _ _) (bO (cN _ _) (bO (cN _ _) (bO (cN _ _) (bO (qZ KO _) (bO (cN _ _) (bO (AZ _) lg)))))))))))
instance : Inhabited ByteArray := ⟨⟨#[]⟩⟩
instance : Inhabited mS := ⟨⟨0, 0⟩⟩
instance : Inhabited rR := ⟨⟨0, []⟩⟩
instance : Inhabited iF := ⟨⟨0, 0, 0, 0, 0, ⟨0, []⟩⟩⟩
instance : Inhabited aq8 := ⟨⟨0, 0⟩⟩
instance : Inhabited qU := ⟨⟨0, 0, ⟨#[]⟩⟩⟩
instance : Inhabited fO := ⟨⟨⟨#[]⟩, 0, 0, 0, 0, ι, []⟩⟩
instance : Inhabited eA := ⟨⟨⟨#[]⟩, 0, []⟩⟩
instance : Inhabited jk := ⟨⟨0, ⟨#[]⟩, 0, 0⟩⟩
instance : Inhabited iH := ⟨⟨[], []⟩⟩
instance : Inhabited aI := ⟨⟨0, ⟨#[]⟩⟩⟩
theorem tI(a b:aI):Uj (.s [0,2]) (.agg (aV a)) (.agg (aV b))=δ (decide (a=b)):=by obtain⟨x1,x2⟩:=a;obtain⟨x101,x102⟩:=b;simp only[Uj,aV,XN,A.oR,A.pR,A.Au,A.sN,if_true,aP,cq,bq];congr 1;rw[qn];simp [and_assoc]
theorem af2(a b:aI):Wn (.s [0,2]) (.agg (aV a)) (.agg (aV b))=δ (.bool (decide (a=b))):=by rw[Wn,tI];rfl
instance : Inhabited zC := ⟨⟨⟨0, ⟨#[]⟩⟩, 0⟩⟩
instance : Inhabited lF := ⟨⟨0, ⟨#[]⟩, []⟩⟩
instance : Inhabited avn := ⟨⟨[], 0, 0⟩⟩
instance : Inhabited nP := ⟨⟨0, 0⟩⟩
theorem aoB(a b:nP):Uj (.s [0,0]) (.agg (yt a)) (.agg (yt b))=δ (decide (a=b)):=by obtain⟨x1,x2⟩:=a;obtain⟨x101,x102⟩:=b;simp only[Uj,yt,XN,A.oR,A.pR,A.Au,A.sN,if_true,aP,cq,bq];congr 1;rw[qn];simp [and_assoc]
theorem aqw(a b:nP):Uq (.s [0,0]) (.agg (yt a)) (.agg (yt b))=δ (.bool (decide (¬(a=b)))):=by rw[Uq,aoB,cq,decide_not]
instance : Inhabited gz := ⟨⟨⟨0, ⟨#[]⟩⟩, ⟨0, 0⟩, ι, ι, 0, 0⟩⟩
instance : Inhabited bl := ⟨⟨0, ⟨#[]⟩, 0, 0, 0, 0, ⟨0, []⟩, ι, 0, []⟩⟩
instance : Inhabited bI := ⟨⟨⟨0, ⟨#[]⟩⟩, ⟨0, 0⟩, 0⟩⟩
instance : Inhabited auw := ⟨⟨0, 0, 0⟩⟩
instance : Inhabited jU := ⟨⟨0, []⟩⟩
instance : Inhabited iC := ⟨⟨0, 0, 0⟩⟩
instance : Inhabited ct := ⟨⟨⟨[], []⟩, [], [], []⟩⟩
instance : Inhabited cW := ⟨⟨0, 0, 0, 0, 0⟩⟩
instance : Inhabited cV := ⟨⟨0, ⟨0, 0, 0, 0, 0⟩⟩⟩
instance : Inhabited ati := ⟨⟨0, 0, 0, 0⟩⟩
instance : Inhabited Cl := ⟨⟨⟨0, ⟨#[]⟩⟩, ⟨0, 0, 0, 0, 0, ⟨0, []⟩⟩, 0, ι⟩⟩
instance : Inhabited zy := ⟨⟨0, 0, 0, ι, 0, []⟩⟩
instance : Inhabited abz := ⟨⟨0, 0, 0⟩⟩
instance : Inhabited aeO := ⟨⟨0, 0, 0, 0, 0, 0, ι, ι, []⟩⟩
instance : Inhabited agM := ⟨⟨0, 0⟩⟩
instance : Inhabited apB := ⟨⟨⟨0, 0, 0, 0, 0, 0, ι, ι, []⟩, [], 0, [], 0, 0, 0⟩⟩
section
def Rf{β τ:Type}(M:Option β)(T:Option τ)(Q:τ->β->Prop):Prop:=∀t,T=δ t->∃b,M=δ b/\Q t b
section
variable {α β ω τ ζ : Type}
theorem ay{M0:Option α}{K:α->Option β}{T:Option τ}{Q:τ->β->Prop}(a:α)(h:M0=δ a)(k:Rf (K a) T Q):Rf (M0.bind K) T Q:=by intro t ht;obtain⟨b,h1,h2⟩:=k t ht;exact⟨b,by rw[h];exact h1,h2⟩
theorem iJ{M0:Option α}{K:α->Option β}{o:Option ω}{K':ω->Option τ}{Q:τ->β->Prop}(e:ω->α)(h:∀t,o=δ t->M0=δ (e t))(k:∀t,o=δ t->Rf (K (e t)) (K' t) Q):Rf (M0.bind K) (o.bind K') Q:=by intro t ht;obtain⟨x,h1,h2⟩:=bX.1 ht;obtain⟨b,h3,h4⟩:=k x h1 t h2;exact⟨b,by rw[h x h1];exact h3,h4⟩
theorem Gg{M0:Option α}{K:α->Option β}{o:Option ω}{K':ω->Option τ}{Q:τ->β->Prop}(Q0:ω->α->Prop)(h:Rf M0 o Q0)(k:∀t a,Q0 t a->Rf (K a) (K' t) Q):Rf (M0.bind K) (o.bind K') Q:=by intro t ht;obtain⟨x,h1,h2⟩:=bX.1 ht;obtain⟨a,h3,h4⟩:=h x h1;obtain⟨b,h5,h6⟩:=k x a h4 t h2;exact⟨b,by rw[h3];exact h5,h6⟩
theorem cz{t:τ}{b:β}{Q:τ->β->Prop}(h:Q t b):Rf (δ b) (δ t) Q:=by intro u hu;cases hu;exact⟨b,rfl,h⟩
theorem eB{M:Option β}{t:τ}{Q:τ->β->Prop}(b:β)(e:M=δ b)(h:Q t b):Rf M (δ t) Q:=by rw[e];exact cz h
theorem asR{M:Option β}{Q:τ->β->Prop}:Rf M (ξ:Option τ) Q:=by intro u hu;cases hu
theorem ahh{M:Option β}{p:Prop}[Decidable p]{T:Option τ}{Q:τ->β->Prop}(h:p->Rf M T Q):Rf M (if p then T else ξ) Q:=by
 split
 ·exact h ‹_›
 ·exact asR
theorem kE{p:Prop}[Decidable p]{X Y:Option β}{X' Y':Option τ}{Q:τ->β->Prop}(h1:p->Rf X X' Q)(h2:¬p->Rf Y Y' Q):Rf (Γ (.bool (decide p)) X Y) (if p then X' else Y') Q:=by
 by_cases h:p
 ·simp only[h,decide_true,if_true];exact h1 h
 ·simp only[h,decide_false,if_false];exact h2 h
theorem jE{c:Bool}{X Y:Option β}{X' Y':Option τ}{Q:τ->β->Prop}(h1:c=η->Rf X X' Q)(h2:c=ι->Rf Y Y' Q):Rf (Γ (.bool c) X Y) (if c=η then X' else Y') Q:=by
 cases c
 ·exact h2 rfl
 ·exact h1 rfl
theorem oD{X Y:Option β}{T:Option τ}{Q:τ->β->Prop}(h:Rf X T Q):Rf (Γ (.bool η) X Y) T Q:=h
theorem oC{X Y:Option β}{T:Option τ}{Q:τ->β->Prop}(h:Rf Y T Q):Rf (Γ (.bool ι) X Y) T Q:=h
theorem jl{c:Bool}{X Y:Option β}{T:Option τ}{Q:τ->β->Prop}(e:c=η)(h:Rf X T Q):Rf (bif c then X else Y) T Q:=by rw[e];exact h
theorem tM{c:Bool}{X Y:Option β}{T:Option τ}{Q:τ->β->Prop}(e:c=ι)(h:Rf Y T Q):Rf (bif c then X else Y) T Q:=by rw[e];exact h
def gv{α:Type}(g:Bool)(e:α->AV)(t:α):AV:=bif g then e t else .aM []
end
inductive Lr (S B R : Type) where
 |go(s:S)
 |brk(b:B)
 |ret(r:R)
def mW{α S B R:Type}(body:Nat->α->S->Option (Lr S B R))(fin:S->Option B):List α->Nat->S->Option (B ⊕ R)
 |[],_,s=>(fin s).map .inl
 |x::l,i,s=>(body i x s).bind λq=>match q with|.go s'=>mW body fin l (i+1) s'|.brk b=>δ (.inl b)|.ret r=>δ (.inr r)
def kL{α S B R γ:Type}(l:List α)(body:Nat->α->S->Option (Lr S B R))(fin:S->Option B)(s:S)(K1:B->Option γ)(K2:R->Option γ):Option γ:=
 if l.length<=aZ then(mW body fin l 0 s).bind λq=>q.elim K1 K2 else ξ
section
variable {α S B R β τ : Type}
abbrev LS:=AX×an×Heap
def Rk(I:S->an->Heap->Prop)(QB:B->LS->Prop)(QR:R->LS->Prop)(t:Lr S B R)(q:LS):Prop:=match t with
 |.go s=>q.1=.normal/\I s q.2.1 q.2.2
 |.brk b=>q.1≠.normal/\QB b q
 |.ret r=>q.1≠.normal/\QR r q
theorem oA{I:S->an->Heap->Prop}{QB:B->LS->Prop}{QR:R->LS->Prop}{s:S}{v:an}{σ:Heap}(h:I s v σ):Rk I QB QR (.go s) (.normal,v,σ):=⟨rfl,h⟩
theorem asS{I:S->an->Heap->Prop}{QB:B->LS->Prop}{QR:R->LS->Prop}{b:B}{q:LS}(n:q.1≠.normal)(h:QB b q):Rk I QB QR (.brk b) q:=⟨n,h⟩
theorem iD{I:S->an->Heap->Prop}{QB:B->LS->Prop}{QR:R->LS->Prop}{r:R}{q:LS}(n:q.1≠.normal)(h:QR r q):Rk I QB QR (.ret r) q:=⟨n,h⟩
theorem oz{f:an->Heap->Option LS}{K:LS->Option β}{Q:τ->β->Prop}{l:List α}{body:Nat->α->S->Option (Lr S B R)}{fin:S->Option B}{s0:S}{K1:B->Option τ}{K2:R->Option τ}{v0:an}{aH:Heap}
  (I:Nat->S->an->Heap->Prop) (QB:B->LS->Prop) (QR:R->LS->Prop)
  (hstep:l.length<=aZ->∀i x s v σ,l[i]? =δ x->I i s v σ->Rf (f v σ) (body i x s) (Rk (I (i+1)) QB QR))
  (hend:l.length<=aZ->∀s v σ,I l.length s v σ->Rf (f v σ) (fin s) (λb q=>q.1≠.normal/\QB b q))
  (h0:I 0 s0 v0 aH) (k1:l.length<=aZ->∀b q,QB b q->Rf (K q) (K1 b) Q) (k2:l.length<=aZ->∀r q,QR r q->Rf (K q) (K2 r) Q):
  Rf ((p7 f v0 aH).bind K) (kL l body fin s0 K1 K2) Q:=by
 unfold kL;refine ahh λhl=>?_
 have hstep:=hstep hl;have hend:=hend hl
 have key:∀(rest pre:List α)(s:S)(v:an)(σ:Heap),l=pre++rest->I pre.length s v σ->∀t,mW body fin rest pre.length s=δ t->∃q,(∃n,U1 f n v σ=δ q)/\(match t with|.inl b=>QB b q|.inr r=>QR r q):=by
  intro rest;induction rest with
  |nil=>intro pre s v σ hl hI t ht;rw[TU]at hl;subst hl;simp only[mW]at ht;obtain⟨b,hb,rfl⟩:=eP.1 ht;obtain⟨q,h1,h2,h3⟩:=hend s v σ hI b hb;exact⟨q,vB h1 h2,h3⟩
  |cons x rest ih=>
   intro pre s v σ hl hI t ht;simp only[mW]at ht;obtain⟨y,hy,h2⟩:=bX.1 ht;obtain⟨q,h3,h4⟩:=hstep pre.length x s v σ (by rw[hl];simp) hI y hy;obtain⟨e,v',σ'⟩:=q;cases y with
   |go s'=>obtain⟨rfl,YY⟩:=h4;obtain⟨q,h5,h6⟩:=ih (pre++[x]) s' v' σ' (by simpa using hl) (by simpa using YY) t (by simpa using h2);exact⟨q,Dx h3 h5,h6⟩
   |brk b=>simp only[Δ]at h2;subst h2;exact⟨_,vB h3 h4.1,h4.2⟩
   |ret b=>simp only[Δ]at h2;subst h2;exact⟨_,vB h3 h4.1,h4.2⟩
 intro t ht;obtain⟨y,hy,h2⟩:=bX.1 ht;obtain⟨q,⟨n,hn⟩,h3⟩:=key l [] s0 v0 aH rfl h0 y hy;cases y with
 |inl b=>obtain⟨z,h4,h5⟩:=k1 hl b q h3 t h2;exact⟨z,by rw[Dr hn];exact h4,h5⟩
 |inr b=>obtain⟨z,h4,h5⟩:=k2 hl b q h3 t h2;exact⟨z,by rw[Dr hn];exact h4,h5⟩
theorem gZ{l:List α}{i:Nat}{x:α}(h:l[i]? =δ x):Sq (.ah (i:Int)) (.ah (l.length:Int))=δ (.bool η):=by have:=(bD.1 h).1;rw[lp];simp;omega
theorem iu(l:List α):Sq (.ah (l.length:Int)) (.ah (l.length:Int))=δ (.bool ι):=by rw[lp];simp
theorem fK{l:List α}{i:Nat}{x:α}(h:l[i]? =δ x)(hl:l.length<=aZ):Z8 (.ah (i:Int)) (.ah 1)=δ (.ah ((i+1:Nat):Int)):=by have:=(bD.1 h).1;rw[lU,cO (by unfold aU;unfold aZ at hl;omega)];simp
def xW(l:List α)(i:Int):Option α:=if 0<=i then l[i.toNat]? else ξ
theorem D3{sz:Nat}{c:α->an}{l:List α}{i:Int}{x:α}(h:xW l i=δ x):UM sz (sl sz c l) (.ah i)=δ (.rp (c x)):=by
 unfold xW at h;split at h
 ·exact aoL sz c l ‹_› h
 ·cases h
theorem gy{sz:Nat}{c:α->an}{l:List α}{i:Nat}{x:α}(h:l[i]? =δ x):UM sz (sl sz c l) (.ah (i:Int))=δ (.rp (c x)):=mR sz c l h
end
theorem dL{M:aC}{v:AV}{σ:Heap}(h:M=δ (v,σ)):wh M σ=δ v:=by rw[h,azw]
def Jn(a b:Int):Option Int:=if b=0 then ξ else δ (θ.wrap (a.tdiv b))
def Jo(a b:Int):Option Int:=if b=0 then ξ else δ (a.tmod b)
theorem aua{a b c:Int}(h:Jn a b=δ c):A.quo (.ah a) (.ah b)=δ (.ah c):=by
 unfold Jn at h;split at h
 ·cases h
 ·injection h with h;subst h;exact ahx a b ‹_›
theorem auc{a b c:Int}(h:Jo a b=δ c):A.rem (.ah a) (.ah b)=δ (.ah c):=by
 unfold Jo at h;split at h
 ·cases h
 ·injection h with h;subst h;exact avq a b ‹_›
def tq {α:Type} (p:Prop) (x:α):Option α:=open Classical in if p then δ x else ξ
theorem qg{α:Type}{p:Prop}{x:α}(h:p):tq p x=δ x:=aO h
theorem rY{α β:Type}{p:Prop}{x r:α}{M:Option β}{e:α->β}(h:p->M=δ (e x))(k:tq p x=δ r):M=δ (e r):=by
 unfold tq at k;split at k
 ·rename_i hp;injection k with k;subst k;exact h hp
 ·cases k
theorem ow(b t:Bool):p9 (.bool b) (bif b then .bool t else .aM []) (.bool ι)=δ (.bool (b&&t)):=by cases b<;>rfl
theorem rV(b t:Bool):p9 (.bool b) (.bool η) (bif !b then .bool t else .aM [])=δ (.bool (b||t)):=by cases b<;>rfl
section
variable {α β ω τ : Type} {G b : Bool} {M0 : Option AV} {K : AV -> Option β} {T : Option τ} {K' : ω -> Option τ} {o : Option ω} {Q : τ -> β -> Prop}
theorem cZ(a:AV)(h:b=η->M0=δ a)(k:Rf (K (bif b then a else .aM [])) T Q):Rf ((μ (.bool b) η M0 (δ (.aM []))).bind K) T Q:=by refine ay _ ?_ k;cases b<;>simp_all [μ]
theorem fT(a:AV)(h:(!b)=η->M0=δ a)(k:Rf (K (bif !b then a else .aM [])) T Q):Rf ((μ (.bool b) ι M0 (δ (.aM []))).bind K) T Q:=by refine ay _ ?_ k;cases b<;>simp_all [μ]
theorem IP(a:AV)(h:(G&&b)=η->M0=δ a)(k:Rf (K (bif G&&b then a else .aM [])) T Q):Rf ((μ (bif G then .bool b else .aM []) η M0 (δ (.aM []))).bind K) T Q:=by refine ay _ ?_ k;cases G<;>cases b<;>simp_all [μ]
theorem agx(a:AV)(h:(G&&!b)=η->M0=δ a)(k:Rf (K (bif G&&!b then a else .aM [])) T Q):Rf ((μ (bif G then .bool b else .aM []) ι M0 (δ (.aM []))).bind K) T Q:=by refine ay _ ?_ k;cases G<;>cases b<;>simp_all [μ]
theorem avi{g:Bool}{M:Option AV}{d:ω}(e:ω->AV)(hM:M=bif g then M0 else δ (.aM []))(h:g=η->∀t,o=δ t->M0=δ (e t))(k:∀t,(g=η->o=δ t)->Rf (K (bif g then e t else .aM [])) (K' t) Q):Rf (M.bind K) ((if g=η then o else δ d).bind K') Q:=by
 subst hM;cases g
 ·exact k d (by simp)
 ·intro t ht;simp only[if_true]at ht;obtain⟨x,h1,h2⟩:=bX.1 ht;obtain⟨y,h3,h4⟩:=k x (λ_=>h1) t h2;refine⟨y,?_,h4⟩;simp only[cA,h rfl x h1,aP];exact h3
theorem vH{d:ω}(e:ω->AV)(h:b=η->∀t,o=δ t->M0=δ (e t))(k:∀t,(b=η->o=δ t)->Rf (K (bif b then e t else .aM [])) (K' t) Q):Rf ((μ (.bool b) η M0 (δ (.aM []))).bind K) ((if b=η then o else δ d).bind K') Q:=avi e (by cases b<;>rfl) h k
theorem avp(b c:Bool):Uq .b (.bool b) (.bool c)=δ (.bool (decide (¬(b=c)))):=by cases b<;>cases c<;>rfl
end
theorem azs{ro:Bool}{eX:List Sh}{fE:Sh}{r:an->Heap->aC}{args args':an}{σ:Heap}(hn:UZ eX args=UZ eX args')(h1:args.any A.own=ι)(h2:args'.any A.own=ι):Ω ro eX fE r args σ=Ω ro eX fE r args' σ:=by unfold Ω;rw[h1,h2,hn,Tb,bK,bK]
theorem P8{τ:Type}{ro:Bool}{eX:List Sh}{fE:Sh}{r:an->Heap->aC}{args args':an}{σ:Heap}{T:Option τ}{enc:τ->AV}(hn:UZ eX args=args')(h:args.any A.own=ι)(e:Rf (r args' σ) T (λt b=>Wo fE b.1=enc t/\b.2=σ)):∀t,T=δ t->Ω ro eX fE r args σ=δ (enc t,σ):=by intro t ht;obtain⟨⟨v,σ'⟩,h1,h2,h3⟩:=e t ht;simp only at h2 h3;subst h3;exact wrap_eq h (by rw[hn];exact h1) h2
theorem ux{τ:Type}{ro:Bool}{eX:List Sh}{fE:Sh}{f:AV->Heap->aC}{x0 y0:AV}{σ:Heap}{T:Option τ}{enc:τ->AV}(hn:UZ eX [x0]=[y0])(h:([x0]:an).any A.own=ι)(e:Rf (f y0 σ) T (λt b=>Wo fE b.1=enc t/\b.2=σ)):∀t,T=δ t->Ω ro eX fE (ZY f) [x0] σ=δ (enc t,σ):=P8 hn h e
theorem uy{τ:Type}{ro:Bool}{eX:List Sh}{fE:Sh}{f:AV->AV->Heap->aC}{x0 x1 y0 y1:AV}{σ:Heap}{T:Option τ}{enc:τ->AV}(hn:UZ eX [x0,x1]=[y0,y1])(h:([x0,x1]:an).any A.own=ι)(e:Rf (f y0 y1 σ) T (λt b=>Wo fE b.1=enc t/\b.2=σ)):∀t,T=δ t->Ω ro eX fE (YS f) [x0,x1] σ=δ (enc t,σ):=P8 hn h e
theorem aAd{τ:Type}{ro:Bool}{eX:List Sh}{fE:Sh}{f:AV->AV->AV->Heap->aC}{x0 x1 x2 y0 y1 y2:AV}{σ:Heap}{T:Option τ}{enc:τ->AV}(hn:UZ eX [x0,x1,x2]=[y0,y1,y2])(h:([x0,x1,x2]:an).any A.own=ι)(e:Rf (f y0 y1 y2 σ) T (λt b=>Wo fE b.1=enc t/\b.2=σ)):∀t,T=δ t->Ω ro eX fE (A.lJ f) [x0,x1,x2] σ=δ (enc t,σ):=P8 hn h e
theorem aqJ{τ:Type}{ro:Bool}{eX:List Sh}{fE:Sh}{f:AV->AV->AV->AV->AV->Heap->aC}{x0 x1 x2 x3 x4 y0 y1 y2 y3 y4:AV}{σ:Heap}{T:Option τ}{enc:τ->AV}(hn:UZ eX [x0,x1,x2,x3,x4]=[y0,y1,y2,y3,y4])(h:([x0,x1,x2,x3,x4]:an).any A.own=ι)(e:Rf (f y0 y1 y2 y3 y4 σ) T (λt b=>Wo fE b.1=enc t/\b.2=σ)):∀t,T=δ t->Ω ro eX fE (A.wj f) [x0,x1,x2,x3,x4] σ=δ (enc t,σ):=P8 hn h e
end
section
inductive Ct where
 |s(sz:Nat)(es:List an)
 |m(es:List (AV×AV))
 |b(cs:an)
def vV:AV->Option Nat
 |.os id _ _ _ _=>δ id
 |.om id=>δ id
 |.op id _=>δ id
 |_=>ξ
def Own(n:Nat)(σ:Heap)(p:AV×Ct):Prop:=match p.2 with
 |.s sz es=>(p.1=.aA/\es=[])\/∃id g off a,p.1=.os id g sz off es.length/\n<=id/\σ[id]? =δ (.arr g sz a)/\off<=a.length/\a.drop off=es
 |.m es=>∃id,p.1=.om id/\n<=id/\σ[id]? =δ (.map es)
 |.b cs=>∃id,p.1=.op id 0/\n<=id/\σ[id]? =δ (.box cs)
structure Hp (aH σ : Heap) (L : List (AV × Ct)) : Prop where
 pre:∃bs,σ=aH++bs
 own:∀(i:Nat)p,L[i]? =δ p->Own aH.length σ p
 sep:∀(i j:Nat)p q a,L[i]? =δ p->L[j]? =δ q->vV p.1=δ a->vV q.1=δ a->i=j
section
variable {aH σ σ' : Heap} {L : List (AV × Ct)} {n : Nat}
theorem Ls(σ:Heap):Hp σ σ []:=⟨⟨[],by simp⟩,by simp,by simp⟩
theorem Lu{p:AV×Ct}{a:Nat}(h:Own n σ p)(e:vV p.1=δ a):n<=a/\a<σ.length:=by
 obtain⟨v,c⟩:=p;cases c with
 |s sz es=>
  rcases h with⟨h1,_⟩|⟨id,g,off,x,h1,h2,h3,_⟩
  ·simp only at h1;subst h1;cases e
  ·simp only at h1;subst h1;injection e with e;subst e;exact⟨h2,(bD.1 h3).1⟩
 |m es=>obtain⟨id,h1,h2,h3⟩:=h;simp only at h1;subst h1;injection e with e;subst e;exact⟨h2,(bD.1 h3).1⟩
 |b es=>obtain⟨id,h1,h2,h3⟩:=h;simp only at h1;subst h1;injection e with e;subst e;exact⟨h2,(bD.1 h3).1⟩
theorem azR{p:AV×Ct}(h:Own n σ p)(k:∀a,vV p.1=δ a->σ'[a]? =σ[a]?):Own n σ' p:=by
 obtain⟨v,c⟩:=p;cases c with
 |s sz es=>
  rcases h with h|⟨id,g,off,x,h1,h2,h3,h4⟩
  ·exact .inl h
  ·simp only at h1;subst h1;exact .inr ⟨id,g,off,x,rfl,h2,by rw[k id rfl];exact h3,h4⟩
 |m es=>obtain⟨id,h1,h2,h3⟩:=h;simp only at h1;subst h1;exact⟨id,rfl,h2,by rw[k id rfl];exact h3⟩
 |b es=>obtain⟨id,h1,h2,h3⟩:=h;simp only at h1;subst h1;exact⟨id,rfl,h2,by rw[k id rfl];exact h3⟩
theorem asN(h:∃bs,σ=aH++bs){id:Nat}(hn:aH.length<=id)(b:aT):∃bs,σ.set id b=aH++bs:=by obtain⟨bs,rfl⟩:=h;exact⟨bs.set (id-aH.length) b,by rw[pJ _ _ hn]⟩
theorem Ql(H:Hp aH σ L){k id:Nat}{h h':AV}{c c':Ct}{b:aT}(hk:L[k]? =δ (h,c))(hi:vV h=δ id)(hi':vV h'=δ id)(ho:Own aH.length (σ.set id b) (h',c')):Hp aH (σ.set id b) (L.set k (h',c')):=by
 have hid:=Lu (H.own k _ hk) hi;have wv:=(bD.1 hk).1;refine⟨asN H.pre hid.1 b,λi p hp=>?_,λi j p q a hp hq e1 e2=>?_⟩
 ·rw[jm]at hp;split at hp
  ·rename_i e;subst e;simp [wv]at hp;subst hp;exact ho
  ·rename_i e;refine azR (H.own i p hp) λa ha=>?_
   rw[jm];split
   ·rename_i e';subst e';exact absurd (H.sep k i _ _ id hk hp hi ha) e
   ·rfl
 ·have key:∀(i:Nat)(p:AV×Ct),(L.set k (h',c'))[i]? =δ p->vV p.1=δ a->∃p',L[i]? =δ p'/\vV p'.1=δ a:=by
   intro i p hp e;rw[jm]at hp;split at hp
   ·rename_i e';subst e';simp [wv]at hp;subst hp;exact⟨_,hk,by rw[hi];rw[hi']at e;exact e⟩
   ·exact⟨p,hp,e⟩
  obtain⟨p',hp',e1'⟩:=key i p hp e1;obtain⟨q',C6,MH⟩:=key j q hq e2;exact H.sep i j p' q' a hp' C6 e1' MH
theorem atN(H:Hp aH σ L){k:Nat}{h h':AV}{c c':Ct}{b:aT}(hk:L[k]? =δ (h,c))(hi:vV h=ξ)(hi':vV h'=δ σ.length)(ho:Own aH.length (σ++[b]) (h',c')):Hp aH (σ++[b]) (L.set k (h',c')):=by
 have wv:=(bD.1 hk).1;refine⟨?_,λi p hp=>?_,λi j p q a hp hq e1 e2=>?_⟩
 ·obtain⟨bs,rfl⟩:=H.pre;exact⟨bs++[b],by simp⟩
 ·rw[jm]at hp;split at hp
  ·rename_i e;subst e;simp [wv]at hp;subst hp;exact ho
  ·refine azR (H.own i p hp) λa ha=>?_
   have:=(Lu (H.own i p hp) ha).2;rw[iG this]
 ·have key:∀(i:Nat)(p:AV×Ct),(L.set k (h',c'))[i]? =δ p->vV p.1=δ a->(i=k/\a=σ.length)\/(L[i]? =δ p/\a<σ.length):=by
   intro i p hp e;rw[jm]at hp;split at hp
   ·rename_i e';subst e';simp [wv]at hp;subst hp;rw[hi']at e;injection e with e;exact .inl ⟨rfl,e.symm⟩
   ·exact .inr ⟨hp,(Lu (H.own i p hp) e).2⟩
  rcases key i p hp e1 with⟨a1,a2⟩|⟨a1,a2⟩<;>rcases key j q hq e2 with⟨b1,b2⟩|⟨b1,b2⟩
  ·omega
  ·omega
  ·omega
  ·exact H.sep i j p q a a1 b1 e1 e2
theorem ae8(H:Hp aH σ L){h':AV}{c':Ct}{b:aT}(hi':vV h'=δ σ.length)(ho:Own aH.length (σ++[b]) (h',c')):Hp aH (σ++[b]) (L++[(h',c')]):=by
 refine⟨?_,λi p hp=>?_,λi j p q a hp hq e1 e2=>?_⟩
 ·obtain⟨bs,rfl⟩:=H.pre;exact⟨bs++[b],by simp⟩
 ·rw[Ss]at hp;split at hp
  ·refine azR (H.own i p hp) λa ha=>?_
   have:=(Lu (H.own i p hp) ha).2;rw[iG this]
  ·have hp':=(bD.1 hp).2;simp at hp';subst hp';exact ho
 ·have key:∀(i:Nat)(p:AV×Ct),(L++[(h',c')])[i]? =δ p->vV p.1=δ a->(i=L.length/\a=σ.length)\/(L[i]? =δ p/\a<σ.length):=by
   intro i p hp e;rw[Ss]at hp;split at hp
   ·exact .inr ⟨hp,(Lu (H.own i p hp) e).2⟩
   ·obtain⟨h1,h2⟩:=bD.1 hp;simp at h1 h2;subst h2;rw[hi']at e;injection e with e;exact .inl ⟨by omega,e.symm⟩
  rcases key i p hp e1 with⟨a1,a2⟩|⟨a1,a2⟩<;>rcases key j q hq e2 with⟨b1,b2⟩|⟨b1,b2⟩
  ·omega
  ·omega
  ·omega
  ·exact H.sep i j p q a a1 b1 e1 e2
theorem atM(H:Hp aH σ L)(sz:Nat):Hp aH σ (L++[(.aA,.s sz [])]):=by
 refine⟨H.pre,λi p hp=>?_,λi j p q a hp hq e1 e2=>?_⟩
 ·rw[Ss]at hp;split at hp
  ·exact H.own i p hp
  ·have hp':=(bD.1 hp).2;simp at hp';subst hp';exact .inl ⟨rfl,rfl⟩
 ·have key:∀(i:Nat)(p:AV×Ct),(L++[((.aA:AV),Ct.s sz [])])[i]? =δ p->vV p.1=δ a->L[i]? =δ p:=by
   intro i p hp e;rw[Ss]at hp;split at hp
   ·exact hp
   ·have hp':=(bD.1 hp).2;simp at hp';subst hp';cases e
  exact H.sep i j p q a (key i p hp e1) (key j q hq e2) e1 e2
theorem azA(H:Hp aH σ L):Hp aH (σ++[.map []]) (L++[(.om σ.length,.m [])]):=by
 have hl:aH.length<=σ.length:=by obtain⟨bs,rfl⟩:=H.pre;simp
 exact ae8 H rfl ⟨σ.length,rfl,hl,by simp⟩
theorem au6(H:Hp aH σ L)(cs:an):Hp aH (σ++[.box cs]) (L++[(.op σ.length 0,.b cs)]):=by
 have hl:aH.length<=σ.length:=by obtain⟨bs,rfl⟩:=H.pre;simp
 exact ae8 H rfl ⟨σ.length,rfl,hl,by simp⟩
theorem asg(H:Hp aH σ L)(n:Nat):Hp aH σ (L.take n):=by
 have key:∀(i:Nat)(p:AV×Ct),(L.take n)[i]? =δ p->L[i]? =δ p:=by
  intro i p h;rw[aBQ]at h;split at h
  ·exact h
  ·cases h
 exact⟨H.pre,λi p hp=>H.own i p (key i p hp),λi j p q a hp hq=>H.sep i j p q a (key i p hp) (key j q hq)⟩
theorem Lc(H:Hp aH σ L):Hp aH σ []:=⟨H.pre,by simp,by simp⟩
theorem atL(H:Hp aH σ L){k sz most:Nat}{h:AV}{es ys:List an}(hk:L[k]? =δ (h,.s sz es))(hm:es.length+ys.length<=most):∃h' σ',Uv sz most h (.sl sz ys) σ=δ (h',σ')/\Hp aH σ' (L.set k (h',.s sz (es++ys))):=by
 have hl:aH.length<=σ.length:=by obtain⟨bs,rfl⟩:=H.pre;simp
 rcases H.own k _ hk with⟨h1,h2⟩|⟨id,g,off,a,h1,h2,h3,h4,h5⟩
 ·simp only at h1 h2;subst h1 h2;by_cases hy:ys=[]
  ·subst hy;refine⟨.aA,σ,by simp [Uv,A.pe,T9],?_⟩
   have:L.set k (.aA,.s sz ([]++[]))=L:=by
    apply List.ext_getElem?;intro i;rw[jm];split
    ·rename_i e;subst e;rw[hk];simp [(bD.1 hk).1]
    ·rfl
   rw[this];exact H
  ·refine⟨.os σ.length ys.length sz 0 ys.length,σ++[.arr ys.length sz ys],?_,?_⟩
   ·have:ys.length<=most:=by simpa using hm
    simp [Uv,A.pe,T9,hy,this]
   ·exact atN H hk rfl rfl (.inr ⟨σ.length,ys.length,0,ys,by simp,hl,by simp,by simp,by simp⟩)
 ·simp only at h1 h5;subst h1;have hid:=(bD.1 h3).1;have h6:off+es.length=a.length:=by rw[<-h5,List.length_drop];omega
  by_cases hy:ys=[]
  ·subst hy;refine⟨.os id g sz off es.length,σ,?_,?_⟩
   ·have:es.length<=most:=by simpa using hm
    simp [Uv,A.pe,T9,h3,h6,this]
   ·have:L.set k (.os id g sz off es.length,.s sz (es++[]))=L:=by
     apply List.ext_getElem?;intro i;rw[jm];split
     ·rename_i e;subst e;rw[hk];simp [(bD.1 hk).1]
     ·rfl
    rw[this];exact H
  ·refine⟨.os id (g+ys.length) sz 0 (es.length+ys.length),σ.set id (.arr (g+ys.length) sz (es++ys)),?_,?_⟩
   ·have ht:(a.drop off).take es.length=es:=by rw[h5];simp
    have hp:0<ys.length:=List.length_pos_iff.2 hy;simp [Uv,A.pe,T9,h3,h6,hm,hy,ht,hp]
   ·refine Ql H hk rfl rfl (.inr ⟨id,g+ys.length,0,es++ys,by simp,h2,by simp [hid],by simp,by simp [h5]⟩)
theorem asf(H:Hp aH σ L){k:Nat}{h key v:AV}{ek:A.EK}{es es':List (AV×AV)}(hk:L[k]? =δ (h,.m es))(hok:A.kK ek key=η)(he:A.upd ek key v es=δ es'):∃σ',A.iX ek h key v σ=δ σ'/\Hp aH σ' (L.set k (h,.m es')):=by obtain⟨id,h1,h2,h3⟩:=H.own k _ hk;simp only at h1 h3;subst h1;have hid:=(bD.1 h3).1;exact⟨σ.set id (.map es'),by simp [A.iX,hok,h3,he],Ql H hk rfl rfl ⟨id,rfl,h2,by simp [hid]⟩⟩
theorem ase(H:Hp aH σ L){k:Nat}{h key:AV}{ek:A.EK}{es es':List (AV×AV)}(hk:L[k]? =δ (h,.m es))(hok:A.kK ek key=η)(he:A.del ek key es=δ es'):∃σ',A.Gc ek h key σ=δ σ'/\Hp aH σ' (L.set k (h,.m es')):=by obtain⟨id,h1,h2,h3⟩:=H.own k _ hk;simp only at h1 h3;subst h1;have hid:=(bD.1 h3).1;exact⟨σ.set id (.map es'),by simp [A.Gc,hok,h3,he],Ql H hk rfl rfl ⟨id,rfl,h2,by simp [hid]⟩⟩
theorem asd(H:Hp aH σ L){k:Nat}{h key z:AV}{ek:A.EK}{es:List (AV×AV)}{r:Option AV}(hk:L[k]? =δ (h,.m es))(hok:A.kK ek key=η)(he:XS ek key es=δ r):WK ek h key z σ=δ (r.getD z):=by obtain⟨id,h1,h2,h3⟩:=H.own k _ hk;simp only at h1 h3;subst h1;rw[DG ek hok h3,he];rfl
theorem Lp(H:Hp aH σ L)(k:Nat){id:Nat}{cs:an}(hk:L[k]? =δ (.op id 0,.b cs))(off:Nat):χ (.op id off) σ=δ (cs.drop off):=by obtain⟨i,h1,h2,h3⟩:=H.own k _ hk;simp only[S7.injEq]at h1;obtain⟨rfl,_⟩:=h1;simp [χ,h3]
theorem aoK(H:Hp aH σ L)(k:Nat){id:Nat}{cs cs' new:an}(hk:L[k]? =δ (.op id 0,.b cs))(off:Nat)(hs:Φ off new cs=δ cs'):∃σ',l8 (.op id off) new σ=δ σ'/\Hp aH σ' (L.set k (.op id 0,.b cs')):=by obtain⟨i,h1,h2,h3⟩:=H.own k _ hk;simp only[S7.injEq]at h1;obtain⟨rfl,_⟩:=h1;have hid:=(bD.1 h3).1;exact⟨σ.set id (.box cs'),by simp [l8,h3,hs],Ql H hk rfl rfl ⟨id,rfl,h2,by simp [hid]⟩⟩
theorem arq(H:Hp aH σ L)(k:Nat){id:Nat}{cs:an}(hk:L[k]? =δ (.op id 0,.b cs))(hz:iY cs){eX:List Sh}{fE:Sh}{r:an->Heap->aC}{x v:AV}(hx:Fz x)(GU:A.own x=ι)(hs:A.Ey v=η)(e:Ω η eX fE r [x,.rp cs] []=δ (v,[])):Ω η eX fE r [x,.op id 0] σ=δ (v,σ):=by
 obtain⟨i,h1,h2,h3⟩:=H.own k _ hk;simp only[S7.injEq]at h1;obtain⟨rfl,_⟩:=h1;refine VC (args':=[x,.rp cs]) (by simp [A.own,A.Q7]) ?_ (by rw[List.any_cons,GU];rfl) e hs;have q:A.wZ σ 0 7 cs=δ cs:=by rw[Fw];exact hz σ 0 7
 simp [UC,hx σ 0 8,Wr,h3,q]
def Jt(aH σ:Heap)(r r':AV):Prop:=(∀d,Wr σ aH.length (d+1) r=δ r')/\(σ=aH->r'=r)
def QS(aH σ:Heap)(l l':an):Prop:=(∀d,UC σ aH.length (d+1) l=δ l')/\(σ=aH->l'=l)
theorem IK{r:AV}(h:Fz r):Jt aH σ r r:=⟨λd=>h σ _ (d+1),λ_=>rfl⟩
theorem aqc:QS aH σ [] []:=⟨λd=>by simp [UC],λ_=>rfl⟩
theorem adi{a a':AV}{l l':an}(h:Jt aH σ a a')(k:QS aH σ l l'):QS aH σ (a::l) (a'::l'):=⟨λd=>by simp [UC,h.1 d,k.1 d],λe=>by rw[h.2 e,k.2 e]⟩
theorem arX{l l':an}(h:QS aH σ l l'):Jt aH σ (.aM l) (.aM l'):=⟨λd=>by simp [Wr,h.1 d],λe=>by rw[h.2 e]⟩
theorem arW{α:Type}(H:Hp aH σ L){k sz:Nat}{h:AV}{c:α->an}{l:List α}(hk:L[k]? =δ (h,.s sz (l.map c)))(hc:∀x,iY (c x)):∃r',Jt aH σ h r'/\((r'=.aA/\l=[])\/r'=sl sz c l):=by
 rcases H.own k _ hk with⟨h1,h2⟩|⟨id,g,off,a,h1,h2,h3,h4,h5⟩
 ·simp only at h1 h2;have:l=[]:=by simpa using h2
  subst this;subst h1;exact⟨.aA,IK af8,.inl ⟨rfl,rfl⟩⟩
 ·simp only at h1 h5;subst h1;refine⟨sl sz c l,⟨λd=>?_,λe=>?_⟩,.inr rfl⟩
  ·have h6:off+(l.map c).length=a.length:=by rw[<-h5,List.length_drop];omega
   simp only[Wr,Nat.not_lt.2 h2,if_false,h3];rw[aO (by simp;simp at h6;omega),Ft,h5,vR (bF _),QX hc];rfl
  ·subst e;have:=(bD.1 h3).1;omega
theorem asA{α:Type}{sz:Nat}{c:α->an}{l:List α}{r:AV}(h:(r=.aA/\l=[])\/r=sl sz c l):Wo (.s sz) r=sl sz c l:=by rcases h with⟨rfl,rfl⟩|rfl<;>rfl
theorem jD{s1:Sh}{v1 w1:AV}{ss:List Sh}{vs ws:an}(h1:Wo s1 v1=w1)(h2:UZ ss vs=ws):UZ (s1::ss) (v1::vs)=w1::ws:=by simp only[UZ,h1,h2]
theorem D5:UZ [] []=[]:=by simp [UZ]
theorem uH{ss:List Sh}{vs ws:an}(h:UZ ss vs=ws):Wo (.a ss) (.agg vs)=.agg ws:=by simp only[Wo,h]
theorem Q6{ss:List Sh}{vs ws:an}(h:UZ ss vs=ws):Wo (.t ss) (.aM vs)=.aM ws:=by simp only[Wo,h]
theorem PW(d:Nat):∀{es:List (AV×AV)},(∀p∈es,Fz p.1/\Fz p.2)->A.DZ σ n d es=δ es
 |[],_=>by simp [A.DZ]
 |(k,v)::es,h=>by have h1:=h (k,v) (by simp);simp only[A.DZ,h1.1 σ n d,h1.2 σ n d,aP,PW d (es:=es) (λp hp=>h p (by simp [hp])),cq]
theorem aga(H:Hp aH σ L){k:Nat}{h:AV}{es:List (AV×AV)}(hk:L[k]? =δ (h,.m es))(hc:∀p∈es,Fz p.1/\Fz p.2):Jt aH σ h (.fm es):=by
 obtain⟨id,h1,h2,h3⟩:=H.own k _ hk;simp only at h1 h3;subst h1;refine⟨λd=>?_,λe=>?_⟩
 ·simp only[Wr,Nat.not_lt.2 h2,if_false,h3,PW d hc,cq]
 ·subst e;have:=(bD.1 h3).1;omega
theorem FF(H:Hp aH σ L){r r':AV}(h:Jt aH σ r r'):l6 aH r σ=δ (r',aH):=by
 obtain⟨bs,hb⟩:=H.pre;subst hb;by_cases uU:bs=[]
 ·subst uU;rw[TU]at h ⊢;rw[bL,h.2 rfl]
 ·unfold l6;rw[aL (by simpa using uU),aO (by simp),h.1 7];rfl
end
section
variable {κ ν : Type} [DecidableEq κ]
def dO(k:κ):List (κ×ν)->Option ν
 |[]=>ξ
 |(k',v)::r=>if k=k' then δ v else dO k r
def eT(k:κ)(v:ν):List (κ×ν)->List (κ×ν)
 |[]=>[(k,v)]
 |(k',v')::r=>if k=k' then(k,v)::r else(k',v')::eT k v r
def sC(k:κ):List (κ×ν)->List (κ×ν)
 |[]=>[]
 |(k',v')::r=>if k=k' then r else(k',v')::sC k r
variable {ek : A.EK} {eK : κ -> AV} {eV : ν -> AV} (hq : ∀ a b, Uj ek (eK a) (eK b) = δ (decide (a = b)))
include hq
theorem DP(k:κ):∀l:List (κ×ν),XS ek (eK k) (l.map λp=>(eK p.1,eV p.2))=δ ((dO k l).map eV)
 |[]=>rfl
 |(k',v)::r=>by
  simp only[eo,XS,hq,aP,dO];by_cases h:k=k'
  ·simp [h]
  ·simp [h,DP k r]
theorem FO(k:κ)(v:ν):∀l:List (κ×ν),A.upd ek (eK k) (eV v) (l.map λp=>(eK p.1,eV p.2))=δ ((eT k v l).map λp=>(eK p.1,eV p.2))
 |[]=>rfl
 |(k',v')::r=>by
  simp only[eo,A.upd,hq,aP,eT];by_cases h:k=k'
  ·simp [h]
  ·simp [h,FO k v r]
theorem ag2(k:κ):∀l:List (κ×ν),A.del ek (eK k) (l.map λp=>(eK p.1,eV p.2))=δ ((sC k l).map λp=>(eK p.1,eV p.2))
 |[]=>rfl
 |(k',v')::r=>by
  simp only[eo,A.del,hq,aP,sC];by_cases h:k=k'
  ·simp [h]
  ·simp [h,ag2 k r]
end
theorem aeZ(a b:ByteArray):Uj .z (.str a) (.str b)=δ (decide (a=b)):=by simp only[Uj,A.sN,bq]
theorem getD_map{α:Type}(o:Option α)(f:α->AV)(d:α):(o.map f).getD (f d)=f (o.getD d):=by cases o<;>rfl
theorem isSome_map{α:Type}(o:Option α)(f:α->AV):(o.map f).isSome=o.isSome:=by cases o<;>rfl
def xH{κ ν:Type}(eK:κ->AV)(eV:ν->AV)(l:List (κ×ν)):AV:=.fm (l.map λp=>(eK p.1,eV p.2))
section
variable {κ ν : Type} [DecidableEq κ] {ek : A.EK} {eK : κ -> AV} {eV : ν -> AV} {aH σ : Heap} {L : List (AV × Ct)} {h : AV} {l : List (κ × ν)}
theorem aA7(H:Hp aH σ L)(k:Nat)(hk:L[k]? =δ (h,.m (l.map λp=>(eK p.1,eV p.2)))) (hq:∀a b,Uj ek (eK a) (eK b)=δ (decide (a=b))) (x:κ) (v:ν) (hok:A.kK ek (eK x)=η):∃σ',A.iX ek h (eK x) (eV v) σ=δ σ'/\Hp aH σ' (L.set k (h,.m ((eT x v l).map λp=>(eK p.1,eV p.2)))):=asf H hk hok (FO hq x v l)
theorem asc(H:Hp aH σ L)(k:Nat)(hk:L[k]? =δ (h,.m (l.map λp=>(eK p.1,eV p.2)))) (hq:∀a b,Uj ek (eK a) (eK b)=δ (decide (a=b))) (x:κ) (hok:A.kK ek (eK x)=η):∃σ',A.Gc ek h (eK x) σ=δ σ'/\Hp aH σ' (L.set k (h,.m ((sC x l).map λp=>(eK p.1,eV p.2)))):=ase H hk hok (ag2 hq x l)
theorem aqd(H:Hp aH σ L)(k:Nat)(hk:L[k]? =δ (h,.m (l.map λp=>(eK p.1,eV p.2)))) (hq:∀a b,Uj ek (eK a) (eK b)=δ (decide (a=b))) (x:κ) (z:ν) (hok:A.kK ek (eK x)=η):WK ek h (eK x) (eV z) σ=δ (eV ((dO x l).getD z)):=by rw[asd H hk hok (DP hq x l),getD_map]
theorem ap8(hq:∀a b,Uj ek (eK a) (eK b)=δ (decide (a=b)))(x:κ)(z:ν)(hok:A.kK ek (eK x)=η):WK ek (xH eK eV l) (eK x) (eV z) σ=δ (eV ((dO x l).getD z)):=by simp only[WK,xH,hok,cA,Tn,aP,DP hq,cq,getD_map]
end
section
variable {α : Type} {c : α -> an} {l ys : List α} {aH σ : Heap} {L : List (AV × Ct)} {h : AV} {sz : Nat}
theorem asb(H:Hp aH σ L)(k:Nat){most:Nat}(hk:L[k]? =δ (h,.s sz (l.map c)))(hm:l.length+ys.length<=most):∃h' σ',Uv sz most h (sl sz c ys) σ=δ (h',σ')/\Hp aH σ' (L.set k (h',.s sz ((l++ys).map c))):=by rw[V8];exact atL H hk (by simpa using hm)
end
end
section
def iW{α:Type}(f:Nat->α->Int):List α->Nat->Int
 |[],_=>0
 |x::l,i=>if f i x=0 then iW f l (i+1)else f i x
section
variable {α β γ S B R : Type}
theorem wM{f:Nat->α->Int}:∀(l:List α)(i:Nat),iW f l i=0↔∀j x,l[j]? =δ x->f (i+j) x=0
 |[],i=>by simp [iW]
 |y::l,i=>by
  rw[iW];by_cases h:f i y=0
  ·rw[aO h,wM l (i+1)];constructor
   ·intro k j x hx;cases j with
    |zero=>simp at hx;subst hx;exact h
    |succ j=>have:=k j x (by simpa using hx);rwa[show i+1+j=i+(j+1) by omega]at this
   ·intro k j x hx;have:=k (j+1) x (by simpa using hx);rwa[show i+(j+1)=i+1+j by omega]at this
  ·rw[aL h];exact⟨λe=>absurd e h,λk=>absurd (k 0 y rfl) h⟩
theorem Iy{l:List α}{body:Nat->α->S->Option (Lr S B R)}{fin:S->Option B}{s:S}{K1:B->Option γ}{K2:R->Option γ}(hl:l.length<=aZ):kL l body fin s K1 K2=(mW body fin l 0 s).bind λq=>q.elim K1 K2:=aO hl
theorem BP{f:Nat->α->Int}{l:List α}{body:Nat->α->Unit->Option (Lr Unit Unit Int)}{fin:Unit->Option Unit}{s:Unit}{K1:Unit->Option γ}{K2:Int->Option γ}(hl:l.length<=aZ)(hb:∀i x,l[i]? =δ x->body i x ()=δ (if f i x=0 then .go ()else .ret (f i x)))(hf:fin ()=δ ():=by rfl):kL l body fin s K1 K2=if iW f l 0=0 then K1 ()else K2 (iW f l 0):=by
 rw[Iy hl]
 have key:∀(rest pre:List α),l=pre++rest->mW body fin rest pre.length ()=δ (if iW f rest pre.length=0 then .inl ()else .inr (iW f rest pre.length)):=by
  intro rest;induction rest with
  |nil=>intro pre _;simp [mW,hf,iW]
  |cons x rest ih=>
   intro pre hp;rw[mW,hb pre.length x (by rw[hp];simp),aP,iW];by_cases h:f pre.length x=0
   ·simp only[h,if_true];have:=ih (pre++[x]) (by simpa using hp);simpa using this
   ·simp only[h,if_false]
 have k:=key l [] rfl;rw[TZ]at k;rw[show s=()from rfl,k,aP];split<;>rfl
theorem IB{p:Prop}[Decidable p]{k f:Int}{Y:Option (Lr Unit Unit Int)}(hk:k≠0)(h:Y=δ (if f=0 then .go ()else .ret f)):(if p then δ (.ret k)else Y)=δ (if(if p then k else f)=0 then .go ()else .ret (if p then k else f)):=by
 by_cases hp:p
 ·simp [hp,hk]
 ·simp [hp,h]
theorem go_ret:(δ (.go ()):Option (Lr Unit Unit Int))=δ (if(0:Int)=0 then .go ()else .ret 0):=rfl
theorem ad3(k:Int):(if k=0 then δ (.go ())else δ (.ret k):Option (Lr Unit Unit Int))=δ (if k=0 then .go ()else .ret k):=by split<;>rfl
theorem aBy{p:α->Bool}{l:List α}{body:Nat->α->Unit->Option (Lr Unit Unit R)}{r:α->R}{fin:Unit->Option Unit}{s:Unit}{K1:Unit->Option γ}{K2:R->Option γ}(hl:l.length<=aZ)(hb:∀i x,l[i]? =δ x->body i x ()=δ (if p x=η then .ret (r x)else .go ()))(hf:fin ()=δ ():=by rfl):kL l body fin s K1 K2=match l.find? p with|some x=>K2 (r x)|none=>K1 ():=by
 rw[Iy hl]
 have key:∀(rest pre:List α),l=pre++rest->mW body fin rest pre.length ()=δ (match rest.find? p with|some x=>.inr (r x)|none=>.inl ()):=by
  intro rest;induction rest with
  |nil=>intro pre _;simp [mW,hf]
  |cons x rest ih=>
   intro pre hp;rw[mW,hb pre.length x (by rw[hp];simp),aP,List.find?_cons];cases h:p x
   ·simp only[UP,if_false];have:=ih (pre++[x]) (by simpa using hp);simpa using this
   ·simp only[if_true]
 have k:=key l [] rfl;rw[TZ]at k;rw[show s=()from rfl,k,aP];cases l.find? p<;>rfl
theorem KM{l:List α}{body:Nat->α->S->Option (Lr S B R)}{fin:S->Option B}{s:S}{K1:B->Option γ}{K2:R->Option γ}(g:S->α->S)(P:Nat->S->Prop)(hl:l.length<=aZ)(h0:P 0 s)(hP:∀i x s,l[i]? =δ x->P i s->P (i+1) (g s x))(hb:∀i x s,l[i]? =δ x->P i s->body i x s=δ (.go (g s x))):kL l body fin s K1 K2=(fin (l.foldl g s)).bind K1:=by
 rw[Iy hl]
 have key:∀(rest pre:List α)(s:S),l=pre++rest->P pre.length s->mW body fin rest pre.length s=(fin (rest.foldl g s)).map .inl:=by
  intro rest;induction rest with
  |nil=>intro pre s _ _;simp [mW]
  |cons x rest ih=>
   intro pre s hp hq;have hx:l[pre.length]? =δ x:=by rw[hp];simp
   rw[mW,hb pre.length x s hx hq,aP,List.foldl_cons];have:=ih (pre++[x]) (g s x) (by simpa using hp) (by simpa using hP _ _ _ hx hq);simpa using this
 have k:=key l [] s rfl h0;rw[TZ]at k;rw[k];cases fin (l.foldl g s)<;>rfl
def pv [Inhabited α](l:List α)(i:Nat):α:=if 0<i then l.getD (i-1) default else default
theorem afG{l:List α}{i:Int}{x:α}(h0:0<=i)(h:l[i.toNat]? =δ x):xW l i=δ x:=by rw[xW,aO h0,h]
theorem Fy [Inhabited α]{l:List α}{i:Nat}{x:α}(h:l[i]? =δ x)(hl:l.length<=aZ):(if decide (0<(i:Int))=η then xW l (θ.wrap ((i:Int) -1))else δ default)=δ (pv l i):=by
 have hi:=(bD.1 h).1;unfold pv;by_cases h0:0<i
 ·rw[aO (by simpa using h0),aO h0,cO (by unfold aU;unfold aZ at hl;omega)];refine afG (by omega) ?_;have:((i:Int) -1).toNat=i-1:=by omega
  rw[this,YA,bU (by omega)];rfl
 ·rw[aL (by simpa using h0),aL h0]
theorem Qv{a b:Int}:(([a,b]:List Int).find? λn=>decide (¬n=0)).getD 0=if ¬(a=0)then a else b:=by
 by_cases ha:a=0
 ·by_cases hb:b=0<;>simp [ha,hb,S4]
 ·simp [ha,S4]
end
theorem PL(s:ByteArray):s.toList=s.data.toList:=ByteArray.toList_eq s
theorem VM:∀(a b:List UInt8),Ux a b<0↔Vj a b=η
 |[],[]=>by simp [Ux,Vj]
 |[],_::_=>by simp [Ux,Vj]
 |_::_,[]=>by simp [Ux,Vj]
 |a::x,b::y=>by
  rw[Ux,Vj];by_cases h1:a<b
  ·simp [h1]
  ·by_cases h2:b<a
   ·have:a≠b:=by rintro rfl;exact h1 h2
    simp [h1,h2,this]
   ·have:a=b:=aCj (VX.1 h2) (VX.1 h1);subst this;simp [Xa,VM x y]
theorem VL:∀(a b:List UInt8),Ux a b=0↔a=b
 |[],[]=>by simp [Ux]
 |[],_::_=>by simp [Ux]
 |_::_,[]=>by simp [Ux]
 |a::x,b::y=>by
  rw[Ux];by_cases h1:a<b
  ·have:a≠b:=by rintro rfl;exact Xa _ h1
   simp [h1,this]
  ·by_cases h2:b<a
   ·have:a≠b:=by rintro rfl;exact Xa _ h2
    simp [h1,h2,this]
   ·have:a=b:=aCj (VX.1 h2) (VX.1 h1);subst this;simp [Xa,VL x y]
def gr(a b:aI):Bool:=decide (a.unit<b.unit)||(decide (a.unit=b.unit)&&Vj a.param.toList b.param.toList)
def yH(a b:aI):Int:=if ¬(a.unit=b.unit)then(if a.unit<b.unit then -1 else 1)else Ux a.param.data.toList b.param.data.toList
theorem aAJ(a b:aI):yH a b<0↔gr a b=η:=by
 unfold yH gr;by_cases h:a.unit=b.unit
 ·simp [h,PL,VM]
 ·by_cases h2:a.unit<b.unit<;>simp [h,h2]
theorem aru(a b:aI):decide (0<=yH a b)=!gr a b:=by
 have:=aAJ a b;cases h:gr a b
 ·rw[h]at this;simp at this;simp [this]
 ·rw[h]at this;simp at this;simp [this]
theorem art(a b:aI):yH a b=0↔a=b:=by
 obtain⟨u,p⟩:=a;obtain⟨v,q⟩:=b;unfold yH;by_cases h:u=v
 ·subst h;simp only[not_true_eq_false,if_false,VL,aI.mk.injEq,true_and];exact⟨λe=>by obtain⟨⟨p⟩⟩:=p;obtain⟨⟨q⟩⟩:=q;simp at e;subst e;rfl,λe=>by rw[e]⟩
 ·by_cases h2:u<v<;>simp [h,h2]
end
section
open Go.Sort
theorem afT:∀a:List UInt8,Vj a a=ι
 |[]=>rfl
 |x::l=>by simp [Vj,Xa,afT l]
theorem adW:∀a b c:List UInt8,Vj a b=η->Vj b c=η->Vj a c=η
 |[],[],c,h,_=>by simp [Vj]at h
 |[],_::_,[],_,k=>by simp [Vj]at k
 |[],_::_,_::_,_,_=>rfl
 |_::_,[],c,h,_=>by simp [Vj]at h
 |_::_,_::_,[],_,k=>by simp [Vj]at k
 |x::a,y::b,z::c,h,k=>by
  rw[Vj]at h k ⊢;simp only[Bool.or_eq_true,je,decide_eq_true_eq,beq_iff_eq]at h k ⊢;rcases h with h|⟨rfl,h⟩<;>rcases k with k|⟨rfl,k⟩
  ·exact .inl (UInt8.lt_trans h k)
  ·exact .inl h
  ·exact .inl k
  ·exact .inr ⟨rfl,adW a b c h k⟩
theorem BV(a:aI):gr a a=ι:=by simp [gr,afT]
theorem Fj{a b c:aI}(h:gr a b=η)(k:gr b c=η):gr a c=η:=by
 simp only[gr,Bool.or_eq_true,je,decide_eq_true_eq]at h k ⊢;rcases h with h|⟨h1,h2⟩<;>rcases k with k|⟨k1,k2⟩
 ·left;omega
 ·left;omega
 ·left;omega
 ·right;exact⟨by omega,adW _ _ _ h2 k2⟩
theorem VU{a b:aI}(h:gr a b=ι)(k:gr b a=ι):a=b:=by
 rw[<-art];have h1:¬yH a b<0:=λe=>by rw[(aAJ a b).1 e]at h;cases h
 have hba:yH b a=-yH a b\/True:=.inr trivial
 -- what is neither smaller nor greater is the same
 unfold yH at h1 ⊢;simp only[gr,oG,Bool.and_eq_false_iff,decide_eq_false_iff_not]at h k;have hu:a.unit=b.unit:=by omega
 simp only[hu,not_true_eq_false,if_false]at h1 ⊢
 have e1:Vj a.param.data.toList b.param.data.toList=ι:=by
  rcases h.2 with q|q
  ·exact absurd hu q
  ·simpa [PL]using q
 have e2:Vj b.param.data.toList a.param.data.toList=ι:=by
  rcases k.2 with q|q
  ·exact absurd hu.symm q
  ·simpa [PL]using q
 rw[VL]
 have tri:∀x y:List UInt8,Vj x y=ι->Vj y x=ι->x=y:=by
  intro x;induction x with
  |nil=>intro y p q;cases y with|nil=>rfl|cons y l=>simp [Vj]at p
  |cons x xs ih=>
   intro y p q;cases y with
   |nil=>simp [Vj]at q
   |cons y ys=>
    rw[Vj]at p q;by_cases h1:x<y
    ·simp [h1]at p
    ·by_cases h2:y<x
     ·simp [h2]at q
     ·have:x=y:=aCj (VX.1 h2) (VX.1 h1);subst this;simp [h1]at p q;rw[ih ys p q]
 exact tri _ _ e1 e2
theorem Dw(a b:aI):mj a b<0↔gr a b=η:=aAJ a b
theorem zM{α:Type}(f:α->aI):SWO (λx y=>decide (mj (f x) (f y)<0)):=by
 refine⟨λx=>?_,λx y z h k=>?_,λx y z h k=>?_⟩
 ·exact cm λh=>by rw[Dw,BV]at h;cases h
 ·have h:=(Dw _ _).1 (of_decide_eq_true h);have k:=(Dw _ _).1 (of_decide_eq_true k);exact cB ((Dw _ _).2 (Fj h k))
 ·have h:gr (f x) (f y)=ι:=by
   cases q:gr (f x) (f y)
   ·rfl
   ·exact absurd ((Dw _ _).2 q) (of_decide_eq_false h)
  have k:gr (f y) (f z)=ι:=by
   cases q:gr (f y) (f z)
   ·rfl
   ·exact absurd ((Dw _ _).2 q) (of_decide_eq_false k)
  refine cm λq=>?_
  have q:=(Dw _ _).1 q;cases e:gr (f y) (f x)
  ·have:=VU h e;rw[this,k]at q;cases q
  ·have:=Fj e q;rw[k]at this;cases this
theorem ab6(x y:bI)(h:dS x=dS y):x=y:=by obtain⟨⟨a,b⟩,⟨p,q⟩,r⟩:=x;obtain⟨⟨a',b'⟩,⟨p',q'⟩,r'⟩:=y;simp [dS]at h;obtain⟨rfl,rfl,rfl,rfl,rfl⟩:=h;rfl
end
section
open Go.RowKit Go.Sort
theorem abx{α:Type}[Inhabited α]{enc:α->List Value}{k:Nat}(hk:∀x,(enc x).length=k){w:World}{b off n:Nat}{d d':Array α}{os:Array Obj}{arr:Array Value}{bt:TypeId}(hs:d'.size=d.size)
  (hb:w.heap[b]? =δ (.cells arr bt (0,0))) (hfit:off+d.size*k<=arr.size):
  Below w.heap.size (w.eW b (.cells (gI arr off (d'.toList.flatMap enc)) bt (0,0))) (sortWorldK enc k w b off n d' os):=by
 have hlt:b<w.heap.size:=(lT.1 hb).1
 have hfl:(d'.toList.flatMap enc).length=d'.size*k:=by
  have:∀l:List α,(l.flatMap enc).length=l.length*k:=by
   intro l;induction l with
   |nil=>simp
   |cons x l ih=>simp [hk,ih,gu];omega
  rw[this,YO]
 have jL:∀(l:List α)(t:Nat),t<l.length*k->(l.flatMap enc)[t]? =δ ((enc l.toArray[t / k]!)[t % k]!):=by
  intro l;induction l with
  |nil=>intro t ht;simp at ht
  |cons x l ih=>
   intro t ht;have hk0:0<k:=Nat.pos_of_ne_zero λe=>by subst e;simp at ht
   rw[Vi];by_cases h:t<k
   ·rw[iG (by rw[hk];exact h),Nat.div_eq_of_lt h,Nat.mod_eq_of_lt h];simp [hk,h]
   ·rw[iz (by rw[hk];omega),hk,ih (t-k) (by simp [gu]at ht;omega)];have e1:t / k=(t-k) / k+1:=by rw[Nat.div_eq_sub_div hk0 (by omega)]
    have e2:t % k=(t-k) % k:=by rw[Nat.mod_eq_sub_mod (by omega)]
    rw[e1,e2];simp
 have hcells:putCells id off (flatK enc k d') arr=gI arr off (d'.toList.flatMap enc):=by
  apply Array.ext_getElem?;intro j;rw[DL _ _ _ (by rw[hfl,hs];omega)];simp only[putCells,Array.getElem?_mapIdx,size_flatK];by_cases hj:off<=j/\j<off+d'.size*k
  ·rw[aO (by rw[hfl];exact hj)];have hja:j<arr.size:=by rw[hs]at hj;omega
   rw[uD hja,cq,aO hj];have:=jL d'.toList (j-off) (by rw[YO];omega);rw[this];simp only[id];rw[get_flatK _ _ _ _ (by omega)]
  ·rw[aL (by rw[hfl];exact hj)];by_cases hja:j<arr.size
   ·rw[uD hja,cq,aL hj]
   ·rw[Array.getElem?_eq_none (by omega),SX]
 refine⟨rfl,rfl,rfl,?_,λi hi=>?_⟩
 ·rw[yj];simp [sortWorldK,grow,putRowK,putRow,mapBlock,aCf]
 ·have hi':i<(putRowK enc k (aCf w n) b off d').heap.size:=by simp [putRowK,putRow,mapBlock,aCf];exact hi
  show(grow (putRowK enc k (aCf w n) b off d') os).heap[i]? =_;unfold grow;simp only;rw[Array.getElem?_append_left hi'];simp only[putRowK,putRow,mapBlock,aCf];rw[Array.getElem?_modify];by_cases h:b=i
  ·subst h;rw[aO rfl,vw _ hlt,hb];simp only[cq,onCells,hcells]
  ·rw[aL h,wI _ h]
theorem an5{P:Program}{nm:List Nat}{f g:FuncId}{α:Type}[Inhabited α]{sz:Nat}{c:α->an}{enc:α->List Value}{cf:α->α->Int}(hsz:0<sz)(hinj:∀x y,c x=c y->x=y)(gV:∀x,(c x).length=sz)
  (Ai:∀cc x,aR cc (c x) (enc x)) (avb:∀cc x vs,aR cc (c x) vs->vs=enc x) (hone:∀x,∀v∈enc x,fc v=η)
  (hf:∀us w,(callFunc f us).run P w=.ok (.enter f us) w) (hnone:∀w,Calls P f #[.slice ξ 0 0,.func (.func g) #[] #[]] w λe w'=>e=.returned (.tuple #[])/\Below w.heap.size w w')
  (au3:∀(blk off cap:Nat)(d:Array α)(w:World),HoldsK enc sz w blk off d->blk<w.heap.size->d.size<4611686018427387904->Calls P f #[.slice (δ ⟨blk,off,ξ⟩) d.size cap,.func (.func g) #[] #[]] w λe w'=>
   e=.returned (.tuple #[])/\∃n os,w'=sortWorldK enc sz w blk off n (pdq (λx y=>decide (cf x y<0)) d 0 d.size (XK d.size) η η) os)
  (hsize:∀d:Array α,(pdq (λx y=>decide (cf x y<0)) d 0 d.size (XK d.size) η η).size=d.size)
  {x:AV} {σ:Heap} {r:AV} {σ':Heap} (hm:A.LK sz c cf x σ=δ (r,σ')) {n:Nat} (hn:∀f,nm.getD f 0=n->f=g):pG P nm f [x,.fn n []] σ r σ':=by
 refine .inl ⟨f,hf,λz vs e1 e2 hh ha=>?_⟩;obtain⟨v,u,rfl,r1,r2⟩:=QI ha;simp only[aq]at r2;obtain⟨f',us,rfl,k1,k2⟩:=r2;have hf':f'=g:=hn f' (by rw[<-e1];exact k1);have Zn:us=#[]:=by simp only[aR]at k2;exact mU.1 k2
 subst hf' Zn;have hout:Out z z.w z.E:=⟨rfl,rfl,rfl,bF _,λ_ _ _=>rfl,λi p hp=>.inr ⟨p,hp,rfl⟩,λi p hp=>⟨p,hp,.inl rfl⟩,e2,λp hp=>hh.lt hp⟩
 unfold A.LK at hm;cases x<;>simp only at hm<;>first|(cases hm;done)|skip
 case aA=>
  simp only[Δ,j0]at hm;obtain⟨rfl,rfl⟩:=hm;simp only[aq]at r1;subst r1;refine(hnone z.w).mono ?_;rintro e w' ⟨rfl,hb⟩;exact⟨_,z.E,rfl,hout.grow hb,hh.mono (yl hb) rfl (λp hp=>hb.block _ (hh.lt hp)),by simp [aq,aR]⟩
 case os=>
  rename_i id gg gM off len;simp only[aq]at r1;obtain⟨hg,p,k3,k4,qa,cap,rfl,hcap,rx⟩:=r1;split at hm
  ·rename_i g' sz' es hs;split at hm
   ·rename_i hc;obtain⟨⟨c1,c2,c3,c4,c5,c6⟩,c7⟩:=hc;subst c1;subst c2;subst c3;simp only[Δ,j0]at hm;obtain⟨rfl,rfl⟩:=hm;have hl:=ZR c7;generalize V7 c7=l at hl ⊢;obtain⟨j1,j2,j3,j4,⟨arr,bt,j5,j6⟩,j7,j8,j9⟩:=hh.blk id p _ k3 hs;obtain⟨q1,q2,q3⟩:=rx j1.symm;have AD:qa=⟨p.b,p.base+off*p.sz,ξ⟩:=q2.resolve_left (by omega)
    have wz:l.length=len:=by have:=congrArg VN hl;simp at this;omega
    have hmul:(off+len)*gM<=es.length*gM:=rz _ c4;rw[gu]at hmul;have Bz:z.w.heap[p.b]? =δ (.cells arr bt (0,0)):=j5;have hlt:p.b<z.w.heap.size:=(lT.1 Bz).1;have aw2:p.sz=gM:=q1
    have atJ:HoldsK enc gM z.w p.b (p.base+off*gM) l.toArray:=by
     intro t ht;simp only[size_flatK,Y9]at ht;rw[get_flatK _ _ _ _ (by simpa using ht)];have uf:t / gM<l.length:=by rw[Nat.div_lt_iff_lt_mul hsz];exact ht
     have AB:es[off+t / gM]? =δ (c l[t / gM]):=by
      have h1:((es.drop off).take len)[t / gM]? =(l.map c)[t / gM]? :=by rw[hl]
      rw[Vh (by omega),YF,qo,bU uf]at h1;exact h1
     obtain⟨_,m2⟩:=bY.nth j8 AB;obtain⟨vs,m3,m4,m5⟩:=m2.Np;have m6:=avb _ _ _ m3;subst m6;have hmod:t % gM<(enc l[t / gM]).length:=by rw[<-(Ai (ctx z z.w z.E dV) _).length,gV];exact Nat.mod_lt _ hsz
     have m7:=m5 (t % gM) _ (bU hmod)
     have e:p.base+(off+t / gM)*gM+t % gM=p.base+off*gM+t:=by have:=Nat.div_add_mod t gM;rw[gu,Wx (t / gM)];omega
     rw[e]at m7;refine⟨?_,by simp [World.frozen?,Bz]⟩;rw[show z.w.cell? ⟨p.b,p.base+off*gM+t,ξ⟩=_ from m7];simp [uf,hmod]
    have Cv:=au3 p.b (p.base+off*gM) cap l.toArray z.w atJ hlt (by simpa [wz]using c6);rw[AD,aw2];simp only[Y9,wz]at Cv;refine Cv.mono ?_;rintro e w' ⟨rfl,nn,os,rfl⟩;have hd':=hsize l.toArray;simp only[Y9,wz]at hd';generalize sP:pdq (λx y=>decide (cf x y<0)) l.toArray 0 len (XK len) η η=d' at hd' ⊢;have hsw:=abx (enc:=enc) (k:=gM) (λx=>by rw[<-(Ai (ctx z z.w z.E dV) x).length,gV]) (w:=z.w) (b:=p.b) (off:=p.base+off*gM) (n:=nn) (d:=l.toArray) (d':=d') (os:=os) (by rw[hd'];simp [wz]) Bz (by simp [wz];rw[j6];omega)
    have aw8:St ⟨P,nm,λ_ _ _=>ξ,λ_ _ _=>ξ,[],[],0,[]⟩ z ⟨[],λ_=>ξ,σ⟩ {tmps:=#[],defers:=[]} z.w z.E dV:=
     ⟨rfl,rfl,λi av hi=>by simp at hi,λi cs hi=>by simp at hi,λt p hp=>(by cases hp),λi b hb=>(by cases hb),λi j b hb=>(by cases hb),hh,rfl,hout,e1.symm⟩
    have hnl:(d'.toList.map c).length=len:=by rw[Z7,YO,hd']
    obtain⟨_,hst⟩:=Pp aw8 (i:=off) (ys:=d'.toList.map c) (news:=d'.toList.flatMap enc) k3 hs j5 (by rw[hnl];exact c4) (by
      generalize d'.toList=l';induction l' with
      |nil=>simp [aR]
      |cons x l' ih=>simp only[eo,VG,Vi];exact(Ai _ x).append ih)
     (λx hx=>by obtain⟨y,_,hy⟩:=List.mem_flatMap.1 hx;exact hone y x hy) (λy hy=>by obtain⟨x,_,rfl⟩:=fL.1 hy;exact gV x)
     (by
      have:∀l:List α,(l.flatMap enc).length=l.length*gM:=by
       intro l;induction l with
       |nil=>simp
       |cons x l ih=>simp only[Vi,Ve,ih,<-(Ai (ctx z z.w z.E dV) x).length,gV,R7,gu];omega
      rw[this,Z7])
    have Aj:=hst.grow (w':=sortWorldK enc gM z.w p.b (p.base+off*gM) nn d' os) (by rw[yj];exact hsw);refine⟨_,z.E,rfl,Aj.out,?_,by simp [aq,aR]⟩;have RD:oK cf l=d'.toList:=by unfold oK;rw[wz,sP]
    rw[hnl]at Aj;rw[RD];exact Aj.heap
   ·cases hm
  ·cases hm
def zH(x:bI):List Value:=[.int θ x.key.unit,.string x.key.param,.int θ x.value.level,.int θ x.value.iw,.int θ x.bw]
theorem KS{W:World}{o1 o2:Obj}:∃q os',(W.alloc o1).alloc o2=grow (W.drewN q) os':=⟨0,_,by rw[alloc_eq_grow,alloc_eq_grow,grow_grow];rfl⟩
theorem aoI{W:World}{o1 o2:Obj}{q:Nat}{os:Array Obj}:∃q' os',grow (((W.alloc o1).alloc o2).drewN q) os=grow (W.drewN q') os':=⟨q,_,by rw[alloc_eq_grow,alloc_eq_grow,grow_grow];show grow (grow (W.drewN q) _) os=_;rw[grow_grow]⟩
theorem alv(a b:aI)(W:World):Calls Tryz.prog 120 #[.agg #[.int θ a.unit,.string a.param],.agg #[.int θ b.unit,.string b.param]] W λe w'=>e=.returned (.int θ (mj a b))/\∃q os',w'=grow (W.drewN q) os':=by
 have Cv:=λ(x y:ByteArray)W'=>Tryz.strings_Compare x y W'
 go_enter Tryz.func120,Tryz.ntmps120
 go_wp2_with (go_at_call 29;refine(Cv _ _ _).mono ?_;rintro e w' ⟨rfl,rfl⟩)
 ·go_ret
  have h1:a.unit≠b.unit:=by omega
  exact⟨by rw[mj,aO h1,aO (by omega)];rfl,KS⟩
 ·go_ret
  have h1:a.unit≠b.unit:=by simpa using ‹(a.unit !=b.unit)=η›
  exact⟨by rw[mj,aO h1,aL (by omega)];rfl,KS⟩
 ·go_ret
  have h1:a.unit=b.unit:=by first|simpa using ‹(a.unit !=b.unit)=ι›|simpa using ‹¬(a.unit !=b.unit)=η›|omega
  exact⟨by rw[mj,aL (by simpa using h1)];rfl,KS⟩
theorem apk(cc:RC)(x:bI):aR cc (dS x) (zH x):=by obtain⟨⟨a,b⟩,⟨p,q⟩,r⟩:=x;simp [dS,zH,aR,aq]
theorem aoa(cc:RC)(x:bI)(vs:List Value)(e:aR cc (dS x) vs):vs=zH x:=by obtain⟨⟨a,b⟩,⟨p,q⟩,r⟩:=x;simpa [dS,zH,aR,aq]using e
theorem ads(x:bI)(v:Value)(h:v∈zH x):fc v=η/\v.oneCell'=η:=by simp [zH]at h;rcases h with rfl|rfl|rfl|rfl|rfl<;>exact⟨rfl,rfl⟩
theorem aev{α:Type}[Inhabited α]{cf:α->α->Int}(hS:SWO (λx y=>decide (cf x y<0))) (d:Array α):(pdq (λx y=>decide (cf x y<0)) d 0 d.size (XK d.size) η η).size=d.size:=
 (pdq_sorts (λx y=>decide (cf x y<0)) hS d 0 d.size (XK d.size) η η (kD _) (bF _) (Or.inl rfl)).1.1
theorem alj(a b:bI)(W:World):Calls Tryz.prog 119 #[.agg (zH a).toArray,.agg (zH b).toArray] W λe w'=>e=.returned (.int θ (mj a.key b.key))/\∃q os',w'=grow (W.drewN q) os':=by
 have Cv:=λW'=>alv a.key b.key W'
 unfold zH;generalize mj a.key b.key=r at Cv ⊢
 go_enter Tryz.func119,Tryz.ntmps119
 go_wp2_with (go_at_call 120;refine(Cv _).mono ?_;rintro e w' ⟨rfl,q,os',rfl⟩)
 go_ret
 exact⟨rfl,aoI⟩
theorem aii:Sound Tryz.prog aK 118 JW:=by
 intro args σ r σ' h;unfold JW YS at h;split at h
 ·rename_i x f aH;simp only at h;split at h
  ·have eg:∀args w,(callFunc 119 args).run Tryz.prog w=.ok (.enter 119 args) w:=Tryz.call119;refine @an5 Tryz.prog aK 118 119 bI ⟨⟨⟨0,⟨#[]⟩⟩,⟨0,0⟩,0⟩⟩ 5 dS zH (λa b=>mj a.key b.key) (by decide) (λx y e=>?_) (λ_=>rfl) (λcc x=>?_) (λcc x vs e=>?_) (λx v hv=>?_) Tryz.call118 (λw=>?_) (λblk off cap d w hH hb hd=>?_) (λd=>?_) _ _ _ _ h _ (λf hf=>Qo (by kernel_rfl) rfl hf)
   ·exact ab6 x y e
   ·exact apk cc x
   ·exact aoa cc x vs e
   ·exact(ads x v hv).1
   ·exact(AnyF.slices_SortFunc_none (P:=Tryz.prog) {Tryz.sort118 with} ξ 0 _ w).mono λe w'⟨h1,h2⟩=>⟨h1,h2▸Below.refl _ _⟩
   ·exact AnyQ.slices_SortFunc_eq Tryz.sort118 5 Tryz.isAgg203 Tryz.sizeOf203 zH (λ_=>rfl) (λx v hv=>(ads x v hv).2) (λa b=>mj a.key b.key) (zM λe:bI=>e.key) 119 #[] blk off cap d w eg (λ_ _ _ _ x y=>alj x y _) hH hb hd
   ·exact aev (zM λe:bI=>e.key) d
  ·cases h
 ·cases h
end
section
def HP:=(Nat->Option aT)->Prop
namespace HP
def emp:HP:=λh=>∀i,h i=ξ
def blk(id:Nat)(b:aT):HP:=λh=>∀i,h i=if i=id then δ b else ξ
def star(P Q:HP):HP:=λh=>∃f g,P f/\Q g/\(∀i,f i=ξ\/g i=ξ)/\∀i,h i=(f i).or (g i)
def pr(p:Prop):HP:=λh=>p/\∀i,h i=ξ
def ex{α:Type}(P:α->HP):HP:=λh=>∃x,P x h
instance : Mul HP := ⟨star⟩
theorem adN(P Q:HP):P*Q=Q*P:=by
 have key:∀P Q:HP,∀h,(P*Q) h->(Q*P) h:=by rintro P Q h ⟨f,g,hf,hg,hd,hh⟩;refine⟨g,f,hg,hf,λi=>(hd i).symm,λi=>?_⟩;rw[hh i];rcases hd i with e|e<;>rw[e]<;>simp
 funext h;exact propext ⟨key P Q h,key Q P h⟩
theorem vA(P Q R:HP):P*Q*R=P*(Q*R):=by
 funext h;apply propext;constructor
 ·rintro⟨f,g,⟨f1,f2,h1,h2,MU,hf⟩,hg,hd,hh⟩;refine⟨f1,λi=>(f2 i).or (g i),h1,⟨f2,g,h2,hg,λi=>?_,λi=>rfl⟩,λi=>?_,λi=>?_⟩
  ·have:=hd i;rw[hf i]at this;rcases this with e|e
   ·cases h:f1 i<;>simp [h]at e<;>exact .inl e
   ·exact .inr e
  ·have a:=hd i;have b:=MU i;rw[hf i]at a;rcases b with b|b
   ·exact .inl b
   ·rcases a with a|a
    ·cases h:f1 i<;>simp [h]at a;exact .inl rfl
    ·exact .inr (show(f2 i).or (g i)=ξ by rw[b,a];rfl)
  ·rw[hh i,hf i];cases f1 i<;>simp
 ·rintro⟨f,g,hf,⟨g1,g2,h1,h2,MU,hg⟩,hd,hh⟩;refine⟨λi=>(f i).or (g1 i),g2,⟨f,g1,hf,h1,λi=>?_,λi=>rfl⟩,h2,λi=>?_,λi=>?_⟩
  ·have:=hd i;rw[hg i]at this;rcases this with e|e
   ·exact .inl e
   ·cases h:g1 i<;>simp [h]at e;exact .inr rfl
  ·have a:=hd i;have b:=MU i;rw[hg i]at a;rcases b with b|b
   ·rcases a with a|a
    ·exact .inl (show(f i).or (g1 i)=ξ by rw[a,b];rfl)
    ·rw[b]at a;exact .inr (by simpa using a)
   ·exact .inr b
  ·show h i=((f i).or (g1 i)).or (g2 i);rw[hh i,hg i];cases f i<;>simp
theorem zG(P:HP):emp*P=P:=by
 funext h;apply propext;constructor
 ·rintro⟨f,g,hf,hg,hd,hh⟩;have:h=g:=by funext i;rw[hh i,hf i];rfl
  rw[this];exact hg
 ·intro hp;exact⟨λ_=>ξ,h,λ_=>rfl,hp,λ_=>.inl rfl,λi=>by simp⟩
theorem aqY(P:HP):P*emp=P:=by rw[adN,zG]
instance : Std.Associative (α := HP) (· * ·) := ⟨vA⟩
instance : Std.Commutative (α := HP) (· * ·) := ⟨adN⟩
end HP
open HP
structure Hs (B : aT -> Prop) (aH σ : Heap) (P : HP) : Prop where
 pre:∃bs,σ=aH++bs/\∀b∈bs,B b
 own:∃h,P h/\∀i b,h i=δ b->aH.length<=i/\σ[i]? =δ b
def bN:aT->Prop:=λ_=>True
section
variable {B : aT -> Prop} {aH σ : Heap} {P Q R : HP} {id : Nat} {b b' : aT}
theorem dN(e:P=Q)(H:Hs B aH σ P):Hs B aH σ Q:=e▸H
theorem ae9(k:∀h,P h->Q h)(H:Hs B aH σ (P*R)):Hs B aH σ (Q*R):=by obtain⟨h1,h,⟨f,g,hf,hg,hd,hh⟩,h2⟩:=H;exact⟨h1,h,⟨f,g,k f hf,hg,hd,hh⟩,h2⟩
theorem wQ(H:Hs B aH σ (P*R)):Hs B aH σ R:=by
 obtain⟨h1,h,⟨f,g,hf,hg,hd,hh⟩,h2⟩:=H;refine⟨h1,g,hg,λi b hb=>h2 i b ?_⟩;rw[hh i];rcases hd i with e|e
 ·rw[e,hb];rfl
 ·rw[e]at hb;cases hb
theorem oB{p:Prop}:Hs B aH σ (pr p*R)↔p/\Hs B aH σ R:=by
 constructor
 ·intro H;refine⟨?_,wQ H⟩;obtain⟨h1,h,⟨f,g,hf,hg,hd,hh⟩,h2⟩:=H;exact hf.1
 ·rintro⟨hp,h1,h,hr,h2⟩;exact⟨h1,h,⟨λ_=>ξ,h,⟨hp,λ_=>rfl⟩,hr,λ_=>.inl rfl,λi=>by simp⟩,h2⟩
theorem QA{α:Type}{P:α->HP}:Hs B aH σ (ex P*R)↔∃x,Hs B aH σ (P x*R):=by
 constructor
 ·rintro⟨h1,h,⟨f,g,⟨x,hf⟩,hg,hd,hh⟩,h2⟩;exact⟨x,h1,h,⟨f,g,hf,hg,hd,hh⟩,h2⟩
 ·rintro⟨x,h1,h,⟨f,g,hf,hg,hd,hh⟩,h2⟩;exact⟨h1,h,⟨f,g,⟨x,hf⟩,hg,hd,hh⟩,h2⟩
theorem IL(σ:Heap):Hs B σ σ emp:=⟨⟨[],by simp,by simp⟩,λ_=>ξ,λ_=>rfl,λ_ _ h=>by cases h⟩
theorem agf(H:Hs B aH σ P):aH.length<=σ.length:=by obtain⟨⟨bs,rfl,_⟩,_⟩:=H;simp
theorem jj(H:Hs B aH σ (blk id b*R)):aH.length<=id/\σ[id]? =δ b:=by obtain⟨h1,h,⟨f,g,hf,hg,hd,hh⟩,h2⟩:=H;exact h2 id b (by rw[hh id,hf id];simp)
theorem aw5(H:Hs B aH σ (blk id b*R)):B b:=by obtain⟨h1,h2⟩:=jj H;obtain⟨⟨bs,rfl,hb⟩,_⟩:=H;rw[iz h1]at h2;exact hb b (cE h2)
theorem B4(H:Hs B aH σ (blk id b*R))(hb:B b'):Hs B aH (σ.set id b') (blk id b'*R):=by
 obtain⟨hid,jL⟩:=jj H;have hlt:=(bD.1 jL).1;obtain⟨⟨bs,rfl,hB⟩,h,⟨f,g,hf,hg,hd,hh⟩,h2⟩:=H;refine⟨⟨bs.set (id-aH.length) b',by rw[pJ _ _ hid],λx hx=>?_⟩,λi=>if i=id then δ b' else g i,⟨λi=>if i=id then δ b' else ξ,g,λi=>rfl,hg,λi=>?_,λi=>?_⟩,λi x hx=>?_⟩
 ·rcases List.mem_or_eq_of_mem_set hx with hx|hx
  ·exact hB x hx
  ·subst hx;exact hb
 ·have:=hd i;rw[hf i]at this;by_cases e:i=id
  ·simp only[e,if_true]at this ⊢;rcases this with h|h
   ·cases h
   ·exact .inr h
  ·simp [e]
 ·by_cases e:i=id<;>simp [e]
 ·by_cases e:i=id
  ·subst e;simp only[if_true,Δ]at hx;subst hx;exact⟨hid,by rw[oF hlt]⟩
  ·simp only[e,if_false]at hx;rw[ZN (λe'=>e e'.symm)];have:=h2 i x (by rw[hh i,hf i];simp [e,hx]);exact this
theorem FG(H:Hs B aH σ R)(hb:B b):Hs B aH (σ++[b]) (blk σ.length b*R):=by
 have hl:=agf H;obtain⟨⟨bs,rfl,hB⟩,h,hr,h2⟩:=H;have hn:∀i x,h i=δ x->i<(aH++bs).length:=λi x hx=>(bD.1 (h2 i x hx).2).1
 refine⟨⟨bs++[b],by simp,λx hx=>?_⟩,λi=>if i=(aH++bs).length then δ b else h i,⟨λi=>if i=(aH++bs).length then δ b else ξ,h,λi=>rfl,hr,λi=>?_,λi=>?_⟩,λi x hx=>?_⟩
 ·rcases jJ.1 hx with hx|hx
  ·exact hB x hx
  ·simp at hx;subst hx;exact hb
 ·by_cases e:i=(aH++bs).length
  ·right;cases hi:h i with
   |none=>rfl
   |some x=>have:=hn i x hi;omega
  ·simp only[e,if_false,true_or]
 ·by_cases e:i=(aH++bs).length<;>simp only[e,if_true,if_false,Option.or_some,Option.none_or,Option.some_or]
 ·by_cases e:i=(aH++bs).length
  ·subst e;simp only[if_true,Δ]at hx;subst hx;exact⟨hl,by simp⟩
  ·simp only[e,if_false]at hx;obtain⟨k1,k2⟩:=h2 i x hx;exact⟨k1,by rw[iG (hn i x hx)];exact k2⟩
end
section
variable {α : Type} {E : an -> α -> HP} {B : aT -> Prop} {aH σ : Heap} {R : HP}
def els(E:an->α->HP):List an->List α->HP
 |[],[]=>emp
 |e::es,x::l=>E e x*els E es l
 |_,_=>pr False
theorem PV:∀{es:List an}{l:List α}{R:HP},Hs B aH σ (els E es l*R)->es.length=l.length
 |[],[],_,_=>rfl
 |[],_::_,_,H=>(oB.1 H).1.elim
 |_::_,[],_,H=>(oB.1 H).1.elim
 |e::es,x::l,R,H=>by have:=PV (es:=es) (l:=l) (R:=E e x*R) (dN (by rw[els];ac_rfl) H);simp [this]
theorem aeY:∀{Aw Jx:List an}{l1 l2:List α},Aw.length=l1.length->els E (Aw++Jx) (l1++l2)=els E Aw l1*els E Jx l2
 |[],Jx,[],l2,_=>by rw[els,zG];rfl
 |e::Aw,Jx,x::l1,l2,h=>by simp only[mq,els];rw[aeY (by simpa using h)];ac_rfl
theorem arG(e:an)(x:α):els E [e] [x]=E e x:=by rw[els,els,aqY]
def fl(c:α->an):an->α->HP:=λe x=>pr (e=c x)
theorem Qg{c:α->an}:∀{es:List an}{l:List α}{R:HP},Hs B aH σ (els (fl c) es l*R)↔es=l.map c/\Hs B aH σ R
 |[],[],R=>by rw[els,zG];simp
 |[],x::l,R=>by show Hs B aH σ (pr False*R)↔_;rw[oB];simp
 |e::es,[],R=>by show Hs B aH σ (pr False*R)↔_;rw[oB];simp
 |e::es,x::l,R=>by rw[els,fl,vA,oB,Qg,eo,List.cons.injEq,and_assoc]
def Sl(E:an->α->HP)(sz:Nat)(v:AV)(l:List α):HP:=λh=>(l=[]/\(v=.aA\/v=.ez)/\emp h)\/∃id g seg,v=.os id g sz 0 l.length/\(blk id (.arr g sz seg)*els E seg l) h
variable {sz : Nat} {v : AV} {l : List α}
theorem AR(H:Hs B aH σ (Sl E sz v l*R)):(l=[]/\(v=.aA\/v=.ez)/\Hs B aH σ R)\/∃id g seg,v=.os id g sz 0 l.length/\seg.length=l.length/\Hs B aH σ (blk id (.arr g sz seg)*(els E seg l*R)):=by
 have H2:=wQ H;obtain⟨h1,h,⟨f,g,hf,hg,hd,hh⟩,h2⟩:=H;rcases hf with⟨k1,k2,k3⟩|⟨id,gg,seg,k1,k2⟩
 ·exact .inl ⟨k1,k2,H2⟩
 ·have K:Hs B aH σ (blk id (.arr gg sz seg)*(els E seg l*R)):=dN (vA _ _ _) ⟨h1,h,⟨f,g,k2,hg,hd,hh⟩,h2⟩;exact .inr ⟨id,gg,seg,k1,PV (R:=blk id (.arr gg sz seg)*R) (dN (by ac_rfl) K),K⟩
theorem vk(H:Hs B aH σ R)(hv:v=.aA\/v=.ez):Hs B aH σ (Sl E sz v []*R):=
 ae9 (P:=emp) (λh k=>.inl ⟨rfl,hv,k⟩) (dN (zG R).symm H)
theorem QL{id g:Nat}{seg:List an}{n:Nat}(H:Hs B aH σ (blk id (.arr g sz seg)*(els E seg l*R)))(hn:n=l.length:=by rfl):Hs B aH σ (Sl E sz (.os id g sz 0 n) l*R):=
 ae9 (P:=blk id (.arr g sz seg)*els E seg l) (λh k=>.inr ⟨id,g,seg,by rw[hn],k⟩) (dN (vA _ _ _).symm H)
theorem auj(H:Hs B aH σ (Sl E sz v l*R)):UT v=δ (.ah l.length):=by rcases AR H with⟨rfl,rfl|rfl,_⟩|⟨id,g,seg,rfl,_⟩<;>rfl
theorem IS{ys:List an}{xs:List α}{most:Nat}(H:Hs B aH σ (Sl E sz v l*(els E ys xs*R)))(hm:l.length+xs.length<=most)(hB:∀g g' seg,(seg=[]\/B (.arr g sz seg))->B (.arr g' sz (seg++ys))):
  ∃v' σ',Uv sz most v (.sl sz ys) σ=δ (v',σ')/\Hs B aH σ' (Sl E sz v' (l++xs)*R):=by
 rcases AR H with⟨rfl,hv,H⟩|⟨id,g,seg,rfl,hl,H⟩
 ·have hxl:=PV H;by_cases hy:ys=[]
  ·subst hy;have:xs=[]:=vQ (by simpa using hxl.symm);subst this;refine⟨v,σ,?_,vk (wQ H) hv⟩;rcases hv with rfl|rfl<;>simp [Uv,T9,A.pe]
  ·refine⟨.os σ.length ys.length sz 0 ys.length,σ++[.arr ys.length sz ys],?_,?_⟩
   ·have:ys.length<=most:=by simp at hm;omega
    rcases hv with rfl|rfl<;>simp [Uv,T9,A.pe,hy,this]
   ·have H2:=FG H (by simpa using hB 0 ys.length [] (.inl rfl):B (.arr ys.length sz ys));exact QL H2 (by simpa using hxl)
 ·have hxl:=PV (dN (show _=els E ys xs*(blk id (.arr g sz seg)*(els E seg l*R)) by ac_rfl) H);obtain⟨h1,h2⟩:=jj H;by_cases hy:ys=[]
  ·subst hy;have:xs=[]:=vQ (by simpa using hxl.symm);subst this;refine⟨.os id g sz 0 l.length,σ,?_,?_⟩
   ·have:l.length<=most:=by simpa using hm
    simp [Uv,T9,A.pe,h2,hl,this]
   ·rw[TU];exact QL (dN (by rw[els,zG]) H)
  ·have hp:0<ys.length:=List.length_pos_iff.2 hy;refine⟨.os id (g+ys.length) sz 0 (l.length+ys.length),σ.set id (.arr (g+ys.length) sz (seg++ys)),?_,?_⟩
   ·have e1:l.length+ys.length<=most:=by omega
    have e2:seg.take l.length=seg:=vR (by omega);simp [Uv,T9,A.pe,h2,hl,e1,hy,e2,hp]
   ·have H2:=B4 (b':=.arr (g+ys.length) sz (seg++ys)) H (hB g _ seg (.inr (aw5 H)));exact QL (id:=id) (g:=g+ys.length) (seg:=seg++ys) (dN (by rw[aeY hl];ac_rfl) H2) (by simp;omega)
end
end
section
open HP
section
variable {σ : Heap} {id g sz off len : Nat} {es : List an}
theorem cK{α:Type}{X Y:Option α}:Γ (.bool η) X Y=X:=rfl
theorem cD{α:Type}{X Y:Option α}:Γ (.bool ι) X Y=Y:=rfl
theorem auC{y d k:Nat}(h:k<=y):Xn y d (δ (.ah (k:Int)))=δ k:=by
 have:(k:Int)<=y:=by omega
 simp [Xn,this]
theorem auB{y d:Nat}:Xn y d ξ=δ d:=rfl
theorem aqK(h:σ[id]? =δ (.arr g sz es))(hl:off+len<=es.length):A.room σ id g sz off len=es.length-off:=by simp [A.room,h,hl]
theorem slo{lo hi:Option AV}{r h l:Nat}(hr:A.room σ id g sz off len=r)(hh:Xn r len hi=δ h)(hl:Xn h 0 lo=δ l):A.qd sz (.os id g sz off len) lo hi σ=δ (.os id g sz (off+l) (h-l)):=by simp [A.qd,hr,hh,hl]
theorem atl{R:Type}{p:Nat->Prop}{k:Nat->Option R}{r:R}(n:Nat)(hn:p n)(h:∀n,p n->k n=δ r):A.all p k=δ r:=by
 have hx:∃r,∀n,p n->k n=δ r:=⟨r,h⟩
 unfold A.all;rw[dif_pos hx];have:=ZR hx n hn;rw[h n hn]at this;injection this with this
 rw[<-this]
end
section
variable {α : Type} {E : an -> α -> HP} {aH σ : Heap} {R : HP} {sz most : Nat} {zs : an} {rot : an -> Heap -> aC} {v : AV} {l : List α} {y : α} {ye : an} {i : Nat}
end
end
def aX(n lo hi:Int):Bool:=decide (lo<=n/\n<=hi)
def uh(c:UInt8):Bool:=decide (97<=c.toNat/\c.toNat<=122)||decide (48<=c.toNat/\c.toNat<=57)||decide (c.toNat=45)
def Jl(s:ByteArray):Bool:=s.data.toList.all uh&&decide (0<s.size)
def xg(s:ByteArray):Bool:=Jl s&&decide (s.size<=20)&&decide (97<=(s.data.toList.getD 0 0).toNat)&&decide ((s.data.toList.getD 0 0).toNat<=122)
def pc(c:UInt8):Bool:=decide (32<=c.toNat/\c.toNat<=126)
def Qu(s:ByteArray):Bool:=decide (0<s.size)&&decide (s.size<=60)&&(decide ((s.data.toList.getD 0 0).toNat≠32)&&decide ((s.data.toList.getD (s.size-1) 0).toNat≠32))
def Lv(s:ByteArray):Bool:=s.data.toList.all pc&&Qu s
theorem aoH(s:ByteArray)(i:Nat)(h:i<s.size):s.data.toList.getD i 0=s[i]:=by rw[aCN,bU (by simpa using h)];rfl
def QV(pre:List qU):List qU->Int
 |[]=>0
 |r::rest=>
  if aX r.low 0 65535=ι\/aX r.high 0 65535=ι\/r.high<r.low then 1
  else if 0<pre.length/\r.low<=(pre.getLast?.map (·.high)).getD 0 then 7
  else if xg r.name=ι then 5
  else if kM r.name (pre.map (·.name))=η then 6
  else QV (pre++[r]) rest
def BY(l:List qU):Int:=if 30<l.length then 2 else QV [] l
def slotsOf(l:List fO):List Int:=l.flatMap λx=>if 0<x.nV then[x.ep,x.nV]else[x.ep]
theorem abw(l:List fO)(x:fO):slotsOf (l++[x])=slotsOf l++(if 0<x.nV then[x.ep,x.nV]else[x.ep]):=by simp [slotsOf]
def Eg(size:Int)(pre:List fO):List fO->Int
 |[]=>0
 |x::rest=>
  if xg x.name=ι then 5
  else if kM x.name (pre.map (·.name))=η then 6
  else if aX x.group 1 4=ι then 4
  else if aX x.ep 1 size=ι\/aX x.nV 0 size=ι\/aX x.default 0 65535=ι then 1
  else if x.ep=x.nV\/kM x.ep (slotsOf pre)=η\/(0<x.nV/\kM x.nV (slotsOf pre)=η)then 12
  else if BY x.ranges=0 then Eg size (pre++[x]) rest else BY x.ranges
def tF(p:eA):Int:=
 if xg p.name=ι then 5 else if aX p.size 1 512=ι then 1 else if p.params.length=0 then 8 else if 40<p.params.length then 2 else Eg p.size [] p.params
def Mc(size:Int)(pre:List fO)(x:fO):Int:=
 if xg x.name=ι then 5
 else if kM x.name (pre.map (·.name))=η then 6
 else if aX x.group 1 4=ι then 4
 else if aX x.ep 1 size=ι\/aX x.nV 0 size=ι\/aX x.default 0 65535=ι then 1
 else if x.ep=x.nV\/kM x.ep (slotsOf pre)=η\/(0<x.nV/\kM x.nV (slotsOf pre)=η)then 12
 else BY x.ranges
theorem aos(size:Int)(pre:List fO)(x:fO)(rest:List fO):Eg size pre (x::rest)=if Mc size pre x=0 then Eg size (pre++[x]) rest else Mc size pre x:=by
 rw[Eg,Mc];split<;>first|(simp;done)|skip
 split<;>first|(simp;done)|skip
 split<;>first|(simp;done)|skip
 split<;>first|(simp;done)|skip
 split<;>first|(simp;done)|skip
def Ef(pre:List eA):List eA->Int
 |[]=>0
 |p::rest=>if tF p=0 then(if kM p.name (pre.map (·.name))=η then 6 else Ef (pre++[p]) rest)else tF p
def Ak(l:List eA):Int:=if 60<l.length then 2 else Ef [] l
def lG(nm:ByteArray):List eA->eA×Bool
 |[]=>(⟨⟨#[]⟩,0,[]⟩,ι)
 |p::rest=>if p.name=nm then(p,η)else lG nm rest
def yB(f:Nat->Bool):Nat->Nat->Bool
 |0,_=>η
 |n+1,a=>if 512<a\/f a=η then ι else yB f n (a+1)
def qj(f:Int->Nat->Bool)(u:Int)(a s:Nat):Int->Nat->Bool:=λv k=>if v=u/\a<=k/\k<a+s then η else f v k
def Ge(pre:List Int)(n:Int):Bool:=match pre.getLast? with|some m=>decide (n<=m)|none=>ι
def rU(jd:List eA)(u:jk):Int:=u.address+(lG u.jX jd).1.size-1
def IG(jd:List eA)(u:jk)(pre:List jk):Bool:=pre.any λx=>decide (x.univ=u.univ/\x.address<=rU jd u/\u.address<=rU jd x)
def I5(jd:List eA)(pre:List jk):List jk->Int
 |[]=>0
 |u::rest=>
  if aX u.au 1 9999=ι then 1
  else if Ge (pre.map (·.au)) u.au=η then 7
  else if(lG u.jX jd).2=ι then 5
  else if aX u.univ 1 64=ι\/aX u.address 1 512=ι\/512<rU jd u then 1
  else if IG jd u pre=η then 12
  else I5 jd (pre++[u]) rest
def lI(r:iH):Int:=if Ak r.bA=0 then(if 400<r.dK.length then 2 else I5 r.bA [] r.dK)else Ak r.bA
def KZ(jd:List eA)(pre:List jk):Prop:=∀x∈pre,1<=x.address/\x.address<=rU jd x/\rU jd x<=512
def DM(jd:List eA)(pre:List jk)(f:Int->Nat->Bool):Prop:=∀v k,f v k=η↔∃x∈pre,x.univ=v/\x.address<=(k:Int)/\(k:Int)<=rU jd x
theorem DM.nil(jd:List eA):DM jd [] (λ_ _=>ι):=λv k=>by simp
theorem DM.snoc{jd:List eA}{pre:List jk}{f:Int->Nat->Bool}(h:DM jd pre f)(u:jk)(a s:Nat)(ha:u.address=a)(hs:rU jd u=(a:Int)+s-1):DM jd (pre++[u]) (qj f u.univ a s):=by
 intro v k;unfold qj;by_cases e:v=u.univ/\a<=k/\k<a+s
 ·rw[aO e];refine⟨λ_=>⟨u,by simp,e.1.symm,by omega,by omega⟩,λ_=>rfl⟩
 ·rw[aL e,h v k];constructor
  ·rintro⟨x,hx,h1⟩;exact⟨x,by simp [hx],h1⟩
  ·rintro⟨x,hx,h1,h2,h3⟩;simp only[jJ,Un]at hx;rcases hx with hx|rfl
   ·exact⟨x,hx,h1,h2,h3⟩
   ·exact absurd ⟨h1.symm,by omega,by omega⟩ e
theorem UR(f:Nat->Bool):∀(s a:Nat),yB f s a=η↔∀k,a<=k->k<a+s->k<=512/\f k=ι
 |0,a=>by simp [yB];intro k h1 h2;omega
 |s+1,a=>by
  rw[yB];by_cases e:512<a\/f a=η
  ·rw[aO e];simp only[UP,false_iff];intro h;have:=h a (bF _) (by omega);rcases e with e|e
   ·omega
   ·rw[e]at this;simp at this
  ·rw[aL e,UR f s (a+1)];constructor
   ·intro h k h1 h2;by_cases hk:k=a
    ·subst hk;refine⟨by omega,?_⟩;cases hf:f k
     ·rfl
     ·exact absurd (.inr hf) e
    ·exact h k (by omega) (by omega)
   ·intro h k h1 h2;exact h k (by omega) (by omega)
theorem ang{jd:List eA}{pre:List jk}{f:Int->Nat->Bool}(h:DM jd pre f)(hok:KZ jd pre)(u:jk)(a s:Nat)(ha:u.address=a)(h1:1<=s)(hs:rU jd u=(a:Int)+s-1)(h2:rU jd u<=512):yB (f u.univ) s a=!IG jd u pre:=by
 rw[qn,UR];simp only[XX,IG,List.any_eq_false,decide_eq_true_eq,not_and];constructor
 ·intro hf x hx e1 e2 e3;have hx':=hok x hx;obtain⟨k,hk⟩:∃k:Nat,(k:Int)=max x.address a:=⟨(max x.address (a:Int)).toNat,by omega⟩
  have hf':=(hf k (by omega) (by omega)).2;have:f u.univ k=η:=(h u.univ k).2 ⟨x,hx,e1,by omega,by omega⟩;rw[this]at hf';simp at hf'
 ·intro hf k h3 h4;refine⟨by omega,?_⟩;cases hfk:f u.univ k
  ·rfl
  ·obtain⟨x,hx,e1,e2,e3⟩:=(h u.univ k).1 hfk;exact absurd (show u.address<=rU jd x by omega) (hf x hx e1 (by omega))
theorem ak6{p:eA}(h:tF p=0):1<=p.size/\p.size<=512:=by
 unfold tF at h;by_cases h1:xg p.name=ι
 ·rw[aO h1]at h;simp at h
 ·rw[aL h1]at h;by_cases h2:aX p.size 1 512=ι
  ·rw[aO h2]at h;simp at h
  ·simpa [aX]using h2
theorem ab8:∀(l pre:List eA),Ef pre l=0->∀p∈l,1<=p.size/\p.size<=512
 |[],pre,h,p,hp=>by simp at hp
 |q::rest,pre,h,p,hp=>by
  rw[Ef]at h;by_cases e:tF q=0
  ·rw[aO e]at h;by_cases e2:kM q.name (pre.map (·.name))=η
   ·rw[aO e2]at h;simp at h
   ·rw[aL e2]at h;simp only[iV]at hp;rcases hp with rfl|hp
    ·exact ak6 e
    ·exact ab8 rest _ h p hp
  ·rw[aL e]at h;exact absurd h e
theorem anm{l:List eA}(h:Ak l=0):∀p∈l,1<=p.size/\p.size<=512:=by
 unfold Ak at h;by_cases e:60<l.length
 ·rw[aO e]at h;simp at h
 ·rw[aL e]at h;exact ab8 l [] h
theorem aBj(nm:ByteArray):∀(l:List eA),(lG nm l).2=η->(lG nm l).1∈l
 |[],h=>by simp [lG]at h
 |p::r,h=>by
  rw[lG]at h ⊢;by_cases e:p.name=nm
  ·rw[aO e];simp
  ·rw[aL e]at h ⊢;exact rA _ (aBj nm r h)
theorem KZ.snoc{jd:List eA}{pre:List jk}(h:KZ jd pre){u:jk}(h1:1<=u.address/\u.address<=rU jd u/\rU jd u<=512):KZ jd (pre++[u]):=λx hx=>by
 simp only[jJ,Un]at hx;rcases hx with hx|rfl
 ·exact h x hx
 ·exact h1
theorem kJ(n lo hi:Int)(σ:Heap):jS [.ah n,.ah lo,.ah hi] σ=δ (.bool (aX n lo hi),σ):=by refine wrap_eq rfl ?_ rfl;show Ty _ _ _ σ=_;unfold Ty aX;by_cases h:lo<=n<;>simp only[aW,reduceCtorEq,h,true_and,false_and]
theorem oZ(b:Bool)(n:Int)(σ:Heap):mG [.bool b,.ah n] σ=δ (.ah (if b=η then n else 0),σ):=by refine wrap_eq rfl ?_ rfl;show Ub _ _ σ=_;unfold Ub;cases b<;>simp [aW,reduceCtorEq]
theorem aAz(s:ByteArray){i:Nat}(h:i<s.size):A.we (.str s) (.ah (i:Int))=δ (.int .u8 (s.data.toList.getD i 0).toNat):=by
 have h1:s[i]? =δ s[i]:=by simp [h]
 simp [A.we,A.idx,h,aoH s i h];rfl
theorem aci(s:ByteArray):(decide (¬s=⟨#[]⟩))=decide (0<s.size):=by
 rw[decide_eq_decide];constructor
 ·intro h;rcases Nat.eq_zero_or_pos s.size with e|e
  ·exact absurd (ByteArray.ext (aC7 e)) h
  ·exact e
 ·rintro h rfl;exact absurd h (by decide)
theorem atg(s:ByteArray)(hs:kj s)(σ:Heap):Us [.str s] σ=δ (.bool (Jl s),σ):=by
 refine wrap_eq rfl ?_ rfl;show azv _ σ=_;unfold azv;simp only[aW,reduceCtorEq];refine(adT (p:=uh) s (δ (.bool ι,σ)) ?_ ?_ ?_).trans ?_
 ·intro i c hi hc;have h1:aU ((i:Int)+1):=by unfold kj aZ at hs;unfold aU;omega
  have h2:(i:Int)<s.size:=by omega
  simp only[aW,reduceCtorEq,h2,hc,cO h1,uh];clear hc h1
  repeat' ((first|rw[C2]|rw[C1]|rw[CX]|rw[Cq]|rw[CW]|rw[CV]);split<;>try simp only[aW,reduceCtorEq, *])
  all_goals first|rfl|(refine(aO ?_).symm;simp;omega)|(refine(aL ?_).symm;simp;omega)|(refine congrArg δ (congrArg (λb=>(i7 b,σ)) ?_);rw[qn];simp;omega)
 ·simp only[aW,reduceCtorEq,WG]
 ·intro i;simp only[aW,reduceCtorEq]
 ·simp only[aW,reduceCtorEq,aci,Jl];cases s.data.toList.all uh<;>simp
theorem aqL{s:ByteArray}(h:Jl s=η):0<s.size:=by simp only[Jl,je,decide_eq_true_eq]at h;exact h.2
theorem PN(s:ByteArray)(hs:kj s)(σ:Heap):H7 [.str s] σ=δ (.bool (xg s),σ):=by
 refine wrap_eq rfl ?_ rfl;show Ua _ σ=_;unfold Ua;simp only[aW,reduceCtorEq,atg s hs];cases h:Jl s
 ·simp [aW,reduceCtorEq,xg,h]
 ·have h0:=aqL h;have:=aAz s h0;simp only[aCO]at this;simp only[aW,reduceCtorEq,this];simp only[xg,h,Bool.true_and];generalize s.data.toList.getD 0 0=c0 at *
  repeat' ((first|rw[C2]|rw[C1]|rw[CX]|rw[Cq]|rw[CW]|rw[CV]);split<;>try simp only[aW,reduceCtorEq, *])
  all_goals first|rfl|(refine(aO ?_).symm;simp;omega)|(refine(aL ?_).symm;simp;omega)|(refine congrArg δ (congrArg (λb=>(i7 b,σ)) ?_);rw[qn];simp;omega)
theorem adS(s:ByteArray)(hs:kj s)(σ:Heap):OH [.str s] σ=δ (.bool (Lv s),σ):=by
 refine wrap_eq rfl ?_ rfl;show TN _ σ=_;unfold TN;simp only[aW,reduceCtorEq];refine(adT (p:=pc) s (δ (.bool ι,σ)) ?_ ?_ ?_).trans ?_
 ·intro i c hi hc;have h1:aU ((i:Int)+1):=by unfold kj aZ at hs;unfold aU;omega
  have h2:(i:Int)<s.size:=by omega
  simp only[aW,reduceCtorEq,h2,hc,cO h1,pc];clear h1
  repeat' ((first|rw[C2]|rw[C1]|rw[CX]|rw[Cq]|rw[CW]|rw[CV]);split<;>try simp only[aW,reduceCtorEq, *])
  all_goals first|rfl|(refine(aO ?_).symm;simp;omega)|(refine(aL ?_).symm;simp;omega)|(refine congrArg δ (congrArg (λb=>(i7 b,σ)) ?_);rw[qn];simp;omega)
 ·simp only[aW,reduceCtorEq,WG]
 ·intro i;simp only[aW,reduceCtorEq]
 ·simp only[aW,reduceCtorEq,aci,Lv];cases s.data.toList.all pc
  ·simp
  ·simp only[if_true,Bool.true_and];by_cases h0:0<s.size
   ·by_cases JB:s.size<=60
    ·have e0:=aAz s h0;have e1:=aAz s (i:=s.size-1) (by omega);simp only[aCO]at e0;rw[show((s.size-1:Nat):Int)=(s.size:Int) -1 by omega]at e1;have h1:aU ((s.size:Int) -1):=by unfold kj aZ at hs;unfold aU;omega
     have Ej:(s.size:Int)<=60:=by omega
     have hw:=cO h1;simp only[Qu,h0,JB];generalize s.data.toList.getD 0 0=c0 at *
     generalize s.data.toList.getD (s.size-1) 0=c1 at *
     simp only[aW,reduceCtorEq,h0,Ej,e0,e1,hw]
     repeat' ((first|rw[C2]|rw[C1]|rw[CX]|rw[Cq]|rw[CW]|rw[CV]);split<;>try simp only[aW,reduceCtorEq, *])
     all_goals first|rfl|(refine(aO ?_).symm;simp;omega)|(refine(aL ?_).symm;simp;omega)|(refine congrArg δ (congrArg (λb=>(i7 b,σ)) ?_);rw[qn];simp;omega)
    ·have Ej:¬(s.size:Int)<=60:=by omega
     simp [aW,reduceCtorEq,h0,Ej,Qu,JB]
   ·simp [aW,reduceCtorEq,h0,Qu]
theorem ama(n:Int)(σ:Heap):aBk [.ah n] σ=δ (.bool (aX n 0 65535),σ):=by refine wrap_eq rfl ?_ rfl;show aAw (.ah n) σ=_;unfold aAw;simp only[aW,reduceCtorEq,kJ]
theorem aoW{γ:Type}{f:an->Heap->Option (AX×an×Heap)}(a n:Nat)(p:Nat->Bool)(vs:Nat->an)(σ:Heap)(fin:AX×an×Heap)(ret:Nat->AX×an×Heap){k:AX×an×Heap->Option γ}(K1 K2:Option γ)
  (hstep:∀(i:Nat),a<=i->i<a+n->f (vs i) σ=if p i=η then δ (ret i)else δ (.normal,vs (i+1),σ)) (hend:f (vs (a+n)) σ=δ fin) (hk1:k fin=K1) (hk2:∀i,k (ret i)=K2)
  (Cw:fin.1≠.normal:=by simp) (Ml:∀i,(ret i).1≠.normal:=by intros;simp) {v:an} {σ':Heap} (hv:v=vs a:=by rfl) (gW:σ'=σ:=by rfl):
  (p7 f v σ').bind k=if(Tz a n).any p=η then K2 else K1:=by
 refine aep (Tz a n) p (λi=>vs (a+i)) σ fin (λi=>ret (a+i)) K1 K2 ?_ (by rw[ZS];exact hend) hk1 (λi=>hk2 _) Cw (λi=>Ml _) hv gW;intro i x hx;obtain⟨h1,h2⟩:=bD.1 hx;rw[ZS]at h1;obtain rfl:a+i=x:=by simpa [List.getElem_range']using h2
 exact hstep (a+i) (by omega) (by omega)
def fu:mS:=⟨0,0⟩
def FV(p:mS):Bool:=!(aX p.time 0 1000)||!(aX p.way 0 1000)
def Gf(l:List mS)(i:Nat):Bool:=decide ((l.getD i fu).time<=(l.getD (i-1) fu).time\/(l.getD i fu).way<(l.getD (i-1) fu).way)
def X1(l:List mS):Int:=
 if l.any FV=η then 1
 else if ¬((l.getD 0 fu).time=0/\(l.getD 0 fu).way=0)then 3
 else if ¬((l.getD (l.length-1) fu).time=1000/\(l.getD (l.length-1) fu).way=1000)then 3
 else if(Tz 1 (l.length-1)).any (Gf l)=η then 7 else 0
def qV(c:rR):Int:=
 if aX c.kind 1 6=ι then 4
 else if c.kind=6 then(if c.bV.length<2 then 8 else if 20<c.bV.length then 2 else X1 c.bV)
 else if 0<c.bV.length then 3 else 0
theorem Vp(x:mS)(a b:Int):Uq (.s [0,0]) (.agg (gY x)) (.agg [.ah a,.ah b])=δ (.bool (decide (¬(x.time=a/\x.way=b)))):=by simp only[Uq,Uj,gY,XN,A.oR,A.pR,if_true,aP,cq];congr 2;rw[qn];simp
theorem ahl(a b c:AV):Φ 0 [a] [b,c]=δ [a,c]:=rfl
theorem ahm(a b c:AV):Φ 1 [a] [b,c]=δ [b,a]:=rfl
theorem DF{l:List mS}{i:Nat}(h:i<l.length):l[i]? =δ (l.getD i fu):=by simp [h]
theorem aa4(c:rR)(σ:Heap):Oa [.agg (nv c)] σ=δ (.ah (qV c),σ):=by
 refine wrap_eq rfl ?_ rfl;show az5 (.agg (nv c)) σ=_;unfold az5 qV;simp only[aW,reduceCtorEq,zw,zx,zA,zz,zB,kJ];cases hk:aX c.kind 1 6
 ·simp only[aW,reduceCtorEq]
 by_cases h6:c.kind=6
 case neg=>
  by_cases h0:0<c.bV.length
  ·simp only[aW,reduceCtorEq,zw,zx,zA,zz,zB,h6,h0,oZ,show(0:Int)<c.bV.length by omega]
  ·simp only[aW,reduceCtorEq,zw,zx,zA,zz,zB,h6,h0,oZ,show ¬(0:Int)<c.bV.length by omega]
 by_cases h2:c.bV.length<2
 ·simp only[aW,reduceCtorEq,zw,zx,zA,zz,zB,h6,h2,show(c.bV.length:Int)<2 by omega]
 by_cases MK:20<c.bV.length
 ·simp only[aW,reduceCtorEq,zw,zx,zA,zz,zB,h6,h2,MK,show ¬(c.bV.length:Int)<2 by omega,show(20:Int)<c.bV.length by omega]
 simp only[aW,reduceCtorEq,zw,zx,zA,zz,zB,h6,h2,MK,show ¬(c.bV.length:Int)<2 by omega,show ¬(20:Int)<c.bV.length by omega];have MW:c.bV.length<=aZ:=by unfold aZ;omega
 refine(aep c.bV FV (λi=>[.ah 0,.ah (i:Int)]) σ (.exit 0,[.ah 0,.ah (c.bV.length:Int)],σ) (λi=>(.ret,[.ah 1,.ah (i:Int)],σ))
  (δ (.ah (if ¬((c.bV.getD 0 fu).time=0/\(c.bV.getD 0 fu).way=0)then 3
 else if ¬((c.bV.getD (c.bV.length-1) fu).time=1000/\(c.bV.getD (c.bV.length-1) fu).way=1000)then 3
 else if(Tz 1 (c.bV.length-1)).any (Gf c.bV)=η then 7 else 0),σ)) (δ (.ah 1,σ)) ?_ ?_ ?_ ?_).trans ?_
 ·intro i x hx;obtain⟨g1,g2,g3⟩:=aeh 2 gY hx;have g3:=g3 MW;simp only[aW,reduceCtorEq,KB,KC,Fl,Fi,Fo,g1,g2,g3,kJ,FV];rcases aC1 (aX x.time 0 1000)with e|e
  ·rcases aC1 (aX x.way 0 1000)with e'|e'<;>simp only[aW,reduceCtorEq,kJ,e,e',Bool.false_or,Bool.or_false]
  ·simp only[aW,reduceCtorEq,e,Bool.true_or]
 ·exact Iq _ _ _
 ·have g0:=mR 2 gY c.bV (DF (l:=c.bV) (i:=0) (by omega));have gl:=OX 2 gY c.bV (k:=c.bV.length) (by omega) (DF (by omega));have hw:θ.wrap ((c.bV.length:Int) -1)=(c.bV.length:Int) -1:=cO (by unfold aU;omega);simp only[aCO,Int.natCast_zero]at g0;simp only[aW,reduceCtorEq,zw,zx,zA,zz,zB,KB,KC,Fl,Fi,Fo,g0,Vp];by_cases e1:(c.bV.getD 0 fu).time=0/\(c.bV.getD 0 fu).way=0;case neg=>simp only[aW,reduceCtorEq,e1]
  simp only[aW,reduceCtorEq,zw,zx,zA,zz,zB,e1,hw,gl,KB,KC,Fl,Fi,Fo];by_cases e2:(c.bV.getD (c.bV.length-1) fu).time=1000/\(c.bV.getD (c.bV.length-1) fu).way=1000
  case neg=>
   simp only[ahl,ahm,aW,reduceCtorEq,Vp,e2]
  simp only[ahl,ahm,aW,reduceCtorEq,Vp,e2];refine(aoW 1 (c.bV.length-1) (Gf c.bV) (λi=>[.ah 0,.ah (i:Int)]) σ (.exit 2,[.ah 0,.ah (c.bV.length:Int)],σ) (λi=>(.ret,[.ah 7,.ah (i:Int)],σ)) (δ (ε 0,σ)) (δ (ε 7,σ)) ?_ ?_ ?_ ?_).trans ?_
  ·intro i hi1 hi2;have k1:=mR 2 gY c.bV (DF (l:=c.bV) (i:=i) (by omega));have k2:=OX 2 gY c.bV (k:=i) (by omega) (DF (by omega));have k3:θ.wrap ((i:Int) -1)=(i:Int) -1:=cO (by unfold aU;omega);have k4:θ.wrap ((i:Int)+1)=((i+1:Nat):Int):=by rw[cO (by unfold aU;omega)];omega
   have k5:(i:Int)<c.bV.length:=by omega
   simp only[aW,reduceCtorEq,zw,zx,zA,zz,zB,KB,KC,Fl,Fi,Fo,k1,k2,k3,k5,Gf];by_cases q1:(c.bV.getD i fu).time<=(c.bV.getD (i-1) fu).time
   ·simp only[aW,reduceCtorEq,q1]
   ·by_cases q2:(c.bV.getD i fu).way<(c.bV.getD (i-1) fu).way<;>simp only[aW,reduceCtorEq,zw,zx,zA,zz,zB,KB,KC,Fl,Fi,Fo,k1,k2,k3,k4,q1,q2]
  ·rw[show 1+(c.bV.length-1)=c.bV.length by omega];simp only[aW,reduceCtorEq,zw,zx,zA,zz,zB,WG]
  ·simp only[aW,reduceCtorEq]
  ·intro i;simp only[aW,reduceCtorEq]
  ·cases(Tz 1 (c.bV.length-1)).any (Gf c.bV)<;>rfl
 ·intro i;simp only[aW,reduceCtorEq]
 ·unfold X1;cases c.bV.any FV<;>rfl
theorem wO(l:List Int)(hl:l.length<=aZ)(σ:Heap):qM [sl 1 nT l] σ=δ (.ah ((l.find? λn=>decide (¬n=0)).getD 0),σ):=by
 refine wrap_eq rfl ?_ rfl;show TK (sl 1 nT l) σ=_;unfold TK;simp only[aW,reduceCtorEq];refine(aoX l (λn=>decide (¬n=0)) (λi=>[.ah 0,.ah (i:Int)]) σ (.exit 0,[.ah 0,.ah (l.length:Int)],σ) (λi n=>(.ret,[.ah n,.ah (i:Int)],σ)) (δ (ε 0,σ)) (λn=>δ (ε n,σ)) ?_ ?_ ?_ ?_).trans ?_
 ·intro i x hx;obtain⟨g1,g2,g3⟩:=aeh 1 nT hx;have g3:=g3 hl;simp only[aW,reduceCtorEq,g1,g2,g3]
  repeat' ((first|rw[C2]|rw[C1]|rw[CX]|rw[Cq]|rw[CW]|rw[CV]);split<;>try simp only[aW,reduceCtorEq, *])
  all_goals first|with_reducible rfl|(simp [*];done)|(simp_all;done)|(simp_all;omega)|rfl
 ·exact Iq _ _ _
 ·simp only[aW,reduceCtorEq]
 ·intro i n;simp only[aW,reduceCtorEq]
 ·cases l.find? (λn=>decide (¬n=0))<;>rfl
end
end Go.Proofs.YtmjgmpmhipenjaaGreat
