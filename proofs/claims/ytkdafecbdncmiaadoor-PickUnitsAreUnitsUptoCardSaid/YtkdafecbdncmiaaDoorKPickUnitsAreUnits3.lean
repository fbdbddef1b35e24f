/- Parts of the proof of PickUnitsAreUnits, in order. -/
import Derived.Test.YtkdafecbdncmiaaDoorShelf
import Derived.IntWalk
import Derived.Sort.Statements
import Derived.Test.YtkdafecbdncmiaaDoorKPickUnitsAreUnits2
namespace Go.Proofs.YtkdafecbdncmiaaDoor
set_option linter.unusedVariables false
set_option linter.unusedSimpArgs false
set_option linter.unusedSectionVars false
set_option maxRecDepth 1000000
noncomputable section
open A renaming tab->U8,look->Z8,deref->ψ,sub->Yd,loop->s9,cL->Z9,eD->XQ,ay->Θ,storeAt->u7,add->o7,guard->μ,neq->XP,bp->Ze,not->Wc,quiet->Wd,nn->XM,lss->p9,entries->W9,own->Z2,cell->l5,dH->YB,cQ->WN,elems->WZ,pick->l6,gtr->W7,lb->l9,aX->EY,bk->WJ,ef->Yu,eql->z7,ext->WG,cond->χ,append->wh,find->ZD,aU->y9,fin->e9,br->Ya,bound->Wf,iter->XX,cells->i7,bZ->XJ,wrap->Φ,cU->XT,dg->Z3
open Nat renaming zero_add->Gs,sub_self->ama
open Option renaming some->δ,isNone_none->alU,none->η,getD_some->Y6,getD_none->Xn
open List renaming range'->al0,length_map->p7,map_congr_left->Wk,length_cons->b9,getElem?_drop->WI,getElem?_cons_succ->XC,find?->XB,map_map->Y3,length_nil->Zk,nodup_nil->ZX,all_cons->amm,mem_of_find?_eq_some->al2,any_eq_true->alW,getElem?_cons_zero->Xw,getLast?_eq_none_iff->amS,append_nil->X0,getElem?_set_ne->u9,drop_zero->Xm,eraseIdx_eq_take_drop_succ->am4,range->ami,take_add_one->u6,length_replicate->ZM,length->Xg,mem_map_of_mem->al6,set_cons_zero->amk,nil_append->Xk,take_length->VZ,take_append_of_le_length->am6,map_take->al4,take_append_drop->WD,length_append->Λ,findIdx?_cons->amj,flatMap_cons->Yw,getD_eq_getElem?_getD->XR,any_cons->amZ,length_range'->Zf,mem_singleton->X3,getD->Yn,foldl_cons->Zc,range'_succ->amB,map_append->Tm,getElem?_take_of_lt->Wo,replicate->e8,flatten_append->amy,map->alX,sum_cons->X2
open Option.some renaming injEq->ξ
open Sound renaming sx->XL,tK->alV,wrap->p6,none->VY
open Go.Sem renaming run->Yt
open eR renaming cons->YC,nil->YS
open Bool renaming true->ι,false_eq_true->X6,and_self->amY,false_and->Wt,and_false->Zg,not_true->Wq,false->θ
open aM renaming map->j0,box->WE
open AV renaming str->u5,lbx->Z4,agg->l8,sl->WV,aH->Ju,om->Wu,op->YI,aN->YM,np->amo,int->amf,rp->Zh,bool->φ,ah->ε
open aR renaming nil->w9,cons->i6
open Int renaming lt_irrefl->YK,toNat_natCast->amV
open AX renaming exit->Γ,normal->ir,ret->l7
open Eq renaming refl->amH
open Go.IntKind renaming i64->Ξ
open Prod.mk renaming injEq->Δ
open Go.Result renaming andThen_ok->Ψ
open Go.Lib renaming compareBytes->Xr
open IntKind renaming i64->Ξ
open ct renaming of->Zl
open Go.Op renaming bytesLess->alK
open Classical renaming choose_spec->Yl
section
def I1 (a0:AV) (σ:Heap):aG:=(i7 2 a0).bind λc1=>(Ze 0 2 c1).bind λx2=>(Ic [x2] σ).bind λr3=>(WG 0 r3.1).bind λx4=>(WG 1 r3.1).bind λx5=>(WJ x4).bind λx6=>(s9 (λv7 s8=>(p9 (aj v7 0) x6).bind λbE=>χ bE ((EY 2 x4 (aj v7 0)).bind λdI=>((ψ dI s8).bind λdG=>Ze 0 2 dG).bind λcg=>(i7 2 cg).bind λiu=>(y9 0 iu [(ε 0),gz]).bind λgA=>(Ze 0 2 gA).bind λcu=>(Z9 (.s [0,2]) (Wu r3.2.length) cu bF s8).bind λh17=>(o7 (aj v7 0) (ε 1)).bind λdW=>δ (ir,[dW],h17)) (δ (Γ 0,[(aj v7 0)],s8))) [(ε 0)] (r3.2++[j0 []])).bind λwQ=>bif wQ.1==Γ 0 then(e9 σ (Wu r3.2.length) wQ.2.2)else η
def IJ:aq->Heap->aG:=Φ ι [(.a [(.s 3),(.s 4)])] .k (XJ I1)
def Iy (a0:AV) (σ:Heap):aG:=(z7 .z a0 gz).bind λx1=>(μ x1 θ (δ a0) az).bind λx2=>(μ x1 θ (Wd (Is [x2] σ) σ) az).bind λx3=>(l6 x1 bF x3).bind λx4=>e9 σ x4 σ
def Ip:aq->Heap->aG:=Φ ι [] .k (XJ Iy)
def Ig (a0:AV) (σ:Heap):aG:=(iz [a0,(ε 0),(ε 65535)] σ).bind λr1=>e9 σ r1.1 r1.2
def Ie:aq->Heap->aG:=Φ ι [] .k (XJ Ig)
def Ik (a0 a1:AV) (σ:Heap):aG:=(i7 2 a0).bind λc1=>(i7 2 a1).bind λc2=>(Θ 0 c1).bind λx3=>(Θ 0 c2).bind λx4=>(XP .i x3 x4).bind λx5=>χ x5 ((Θ 0 c1).bind λx6=>(Θ 0 c2).bind λx7=>(p9 x6 x7).bind λx8=>e9 σ x8 σ) ((Θ 1 c1).bind λx9=>(Θ 1 c2).bind λbE=>(Ia [x9,bE] σ).bind λeN=>(p9 eN.1 (ε 0)).bind λdB=>e9 σ dB eN.2)
def Ij:aq->Heap->aG:=Φ ι [] .k (XQ Ik)
def HY (a0 a1:AV) (σ:Heap):aG:=(i7 2 a0).bind λc1=>(Ze 0 2 c1).bind λx2=>(EH [x2] σ).bind λr3=>(WJ a1).bind λx4=>(W7 x4 (ε 200)).bind λx5=>(IN [x5,(ε 2)] r3.2).bind λr6=>((((l5 r3.1).bind λv=>δ [v]).bind λc7=>(y9 0 c7 [(ε 0),(ε 0)]).bind λc8=>((l5 r6.1).bind λv=>δ [v]).bind λc9=>(y9 1 c9 c8).bind λko=>δ ko).bind λcs=>δ (WV 1 (eO 1 2 cs))).bind λdI=>(BP [dI] r6.2).bind λiM=>(XP .i iM.1 (ε 0)).bind λcg=>χ cg (e9 σ iM.1 iM.2) ((Ze 0 2 c1).bind λdw=>(IJ [dw] iM.2).bind λmZ=>(WJ a1).bind λcu=>(s9 (λv17 NX=>(p9 (aj v17 1) cu).bind λeW=>χ eW ((EY 3 a1 (aj v17 1)).bind λdA=>((ψ dA NX).bind λqj=>Ze 0 3 qj).bind λcV=>(i7 3 cV).bind λgV=>(y9 0 gV [(ε 0),gz,Ju]).bind λjd=>(Θ 0 jd).bind λfS=>(iz [fS,(ε 1),(ε 999)] NX).bind λjf=>(Wc jf.1).bind λx28=>χ x28 (δ (l7,[(ε 1),(aj v17 1)],jf.2)) ((W7 (aj v17 1) (ε 0)).bind λx29=>(μ x29 ι (Θ 0 jd) az).bind λiO=>(μ x29 ι (δ a1) az).bind λx31=>(μ x29 ι (δ (aj v17 1)) az).bind λx32=>(μ x29 ι (Yd x32 (ε 1)) az).bind λjk=>(μ x29 ι (EY 3 x31 jk) az).bind λx34=>(μ x29 ι (WN 0 x34) az).bind λqz=>(μ x29 ι ((ψ qz jf.2).bind λyH=>Θ 0 yH) az).bind λkG=>(μ x29 ι (A.leq iO kG) az).bind λx38=>(l6 x29 x38 aZ).bind λqB=>χ qB (δ (l7,[(ε 7),(aj v17 1)],jf.2)) ((Θ 1 jd).bind λkH=>(Ip [kH] jf.2).bind λHw=>(Wc Hw.1).bind λru=>χ ru (δ (l7,[(ε 3),(aj v17 1)],Hw.2)) ((Θ 2 jd).bind λoz=>(WJ oz).bind λmB=>(W7 mB (ε 2000)).bind λjl=>χ jl (δ (l7,[(ε 2),(aj v17 1)],Hw.2)) ((Θ 2 jd).bind λgK=>(WJ gK).bind λnr=>(s9 (λlG Ec=>(p9 (aj lG 2) nr).bind λiP=>χ iP ((EY 3 gK (aj lG 2)).bind λnu=>((ψ nu Ec).bind λDi=>Ze 0 3 Di).bind λrz=>(i7 3 rz).bind λc55=>(y9 0 c55 [(ε 0),gz,(ε 0)]).bind λDj=>(Ze 0 2 Dj).bind λoB=>(Z8 (.s [0,2]) mZ.1 oB aZ Ec).bind λsK=>(Wc sK).bind λrA=>χ rA (δ (l7,[(ε 8),(aj lG 1),(aj lG 2)],Ec)) ((Θ 2 Dj).bind λrB=>(Ie [rB] Ec).bind λza=>(Wc za.1).bind λzk=>χ zk (δ (l7,[(ε 1),(aj lG 1),(aj lG 2)],za.2)) ((W7 (aj lG 2) (ε 0)).bind λjT=>((l9 (aj lG 1)).bind λ_ => δ (2)).bind λp64 =>(μ jT ι ((l9 (aj lG 1)).bind λMW=>Θ p64 MW) az).bind λvG=>(μ jT ι (δ (aj lG 2)) az).bind λzl=>(μ jT ι (Yd zl (ε 1)) az).bind λoD=>(μ jT ι (EY 3 vG oD) az).bind λvH=>(μ jT ι (WN 0 vH) az).bind λzm=>(μ jT ι ((ψ zm za.2).bind λc71=>Ze 0 2 c71) az).bind λvI=>(μ jT ι (Ze 0 2 Dj) az).bind λmD=>(μ jT ι (Wd (Ij [vI,mD] za.2) za.2) az).bind λrC=>(μ jT ι (Wc rC) az).bind λqE=>(l6 jT qE aZ).bind λEn=>χ En (δ (l7,[(ε 7),(aj lG 1),(aj lG 2)],za.2)) ((o7 (aj lG 2) (ε 1)).bind λue=>δ (ir,[(aj lG 0),(aj lG 1),ue],za.2))))) (δ (Γ 3,[(aj lG 0),(aj lG 1),(aj lG 2)],Ec))) [(aj v17 0),(Z4 jd),(ε 0)] Hw.2).bind λrj=>bif rj.1==Γ 3 then((o7 (aj v17 1) (ε 1)).bind λvJ=>δ (ir,[(aj rj.2.1 0),vJ],rj.2.2))else bif rj.1==l7 then(δ (l7,[(aj rj.2.1 0),(aj v17 1)],rj.2.2))else η))))) (δ (Γ 0,[(aj v17 0),(aj v17 1)],NX))) [(ε 0),(ε 0)] mZ.2).bind λEa=>bif Ea.1==Γ 0 then(e9 σ (ε 0) Ea.2.2)else bif Ea.1==l7 then(e9 σ (aj Ea.2.1 0) Ea.2.2)else η)
def EF:aq->Heap->aG:=Φ ι [(.a [(.s 3),(.s 4)]),(.s 3)] .k (XQ HY)
def zS (rec:Nat->aq->Heap->aG) (a0:AV) (σ:Heap):aG:=(i7 4 a0).bind λc1=>(Θ 3 c1).bind λx2=>(WJ x2).bind λx3=>(s9 (λv4 s5=>(p9 (aj v4 2) x3).bind λx7=>χ x7 ((EY 4 x2 (aj v4 2)).bind λx8=>((ψ x8 s5).bind λc9=>Ze 0 4 c9).bind λbE=>(i7 4 bE).bind λfH=>(y9 0 fH [(ε 0),(ε 0),(ε 0),Ju]).bind λdG=>(Ze 0 4 dG).bind λcg=>(rec 37 [cg] s5).bind λcN=>(WG 0 cN.1).bind λdz=>(WG 1 cN.1).bind λcu=>(o7 (aj v4 0) dz).bind λdD=>(o7 cu (ε 1)).bind λdW=>(A.max (aj v4 1) dW).bind λck=>(o7 (aj v4 2) (ε 1)).bind λeW=>δ (ir,[dD,ck,eW],cN.2)) (δ (Γ 0,[(aj v4 0),(aj v4 1),(aj v4 2)],s5))) [(ε 1),(ε 1),(ε 0)] σ).bind λjE=>bif jE.1==Γ 0 then(e9 σ (YM [(aj jE.2.1 0),(aj jE.2.1 1)]) jE.2.2)else η
def zP (rec:Nat->aq->Heap->aG):List (Nat×(aq->Heap->aG)):=[(37,Φ ι [iK] .k (XJ (zS rec)))]
def IK:aq->Heap->aG:=fuel (zP) 2000000 37
def zM (rec:Nat->aq->Heap->aG) (a0:AV) (σ:Heap):aG:=(i7 4 a0).bind λc1=>(Θ 0 c1).bind λx2=>(z7 .i x2 (ε 1)).bind λx3=>χ x3 ((Θ 3 c1).bind λx4=>(WJ x4).bind λx5=>(XP .i x5 (ε 0)).bind λx6=>(Θ 0 c1).bind λx7=>(z7 .i x7 (ε 4)).bind λx8=>(χ x8 ((Θ 3 c1).bind λbE=>(WJ bE).bind λdI=>(p9 dI (ε 2)).bind λdB=>δ ([(Z4 c1),dB],σ)) (δ ([(Z4 c1),x6],σ))).bind λr9=>(μ (aj r9.1 1) θ (δ bF) az).bind λcg=>(μ (aj r9.1 1) θ (Wc cg) az).bind λdw=>(μ (aj r9.1 1) θ (δ dw) az).bind λdz=>((l9 (aj r9.1 0)).bind λ_=>δ (1)).bind λNJ=>(μ dz ι ((l9 (aj r9.1 0)).bind λkq=>Θ NJ kq) az).bind λdW=>(μ dz ι (XP .i dW (ε 0)) az).bind λck=>(μ (aj r9.1 1) θ (l6 dz ck aZ) az).bind λeW=>(l6 (aj r9.1 1) bF eW).bind λdA=>(μ dA θ (δ bF) az).bind λdO=>(μ dA θ (Wc dO) az).bind λcV=>(μ dA θ (δ cV) az).bind λx24=>((l9 (aj r9.1 0)).bind λ_=>δ (2)).bind λNL=>(μ x24 ι ((l9 (aj r9.1 0)).bind λmo=>Θ NL mo) az).bind λfT=>(μ x24 ι (XP .i fT (ε 0)) az).bind λx28=>(μ dA θ (l6 x24 x28 aZ) az).bind λx29=>(l6 dA bF x29).bind λiO=>χ iO (e9 σ (ε 3) r9.2) (((l9 (aj r9.1 0)).bind λ_=>δ (0)).bind λp31=>((l9 (aj r9.1 0)).bind λku=>Θ p31 ku).bind λjk=>(z7 .i jk (ε 2)).bind λx34=>(χ x34 (δ ([(aj r9.1 0),(ε 999)],r9.2)) ((z7 .i jk (ε 3)).bind λqA=>(χ qA (δ ([(aj r9.1 0),(ε 999)],r9.2)) (δ ([(aj r9.1 0),(ε 9999)],r9.2))).bind λjg=>δ ([(aj jg.1 0),(aj jg.1 1)],jg.2))).bind λiw=>((l9 (aj iw.1 0)).bind λ_=>δ (1)).bind λp38=>(μ bF ι ((l9 (aj iw.1 0)).bind λyI=>Θ p38 yI) az).bind λkH=>(μ bF ι (δ (aj iw.1 1)) az).bind λzi=>(μ bF ι (Wd (iz [kH,(ε 1),zi] iw.2) iw.2) az).bind λru=>(μ bF ι (Wc ru) az).bind λoz=>(l6 bF oz aZ).bind λmB=>(μ mB θ (δ bF) az).bind λjl=>(μ mB θ (δ jl) az).bind λgK=>((l9 (aj iw.1 0)).bind λ_=>δ (2)).bind λp47=>(μ gK ι ((l9 (aj iw.1 0)).bind λyK=>Θ p47 yK) az).bind λqC=>(μ gK ι (δ (aj iw.1 1)) az).bind λoA=>(μ gK ι (Wd (iz [qC,(ε 1),oA] iw.2) iw.2) az).bind λiP=>(μ gK ι (Wc iP) az).bind λnu=>(μ mB θ (l6 gK nu aZ) az).bind λpH=>(l6 mB bF pH).bind λrz=>χ rz (e9 σ (ε 1) iw.2) (((l9 (aj iw.1 0)).bind λ_=>δ (3)).bind λp55=>((l9 (aj iw.1 0)).bind λDj=>Θ p55 Dj).bind λoB=>(WJ oB).bind λsK=>(s9 (λv59 NZ=>(p9 (aj v59 1) sK).bind λzk=>χ zk ((EY 4 oB (aj v59 1)).bind λjT=>((ψ jT NZ).bind λMV=>Ze 0 4 MV).bind λmC=>(i7 4 mC).bind λc66=>(y9 0 c66 [(ε 0),(ε 0),(ε 0),Ju]).bind λDl=>(Ze 0 4 Dl).bind λoD=>(rec 38 [oD] NZ).bind λwS=>(XP .i wS.1 (ε 0)).bind λzm=>χ zm (δ (l7,[wS.1,(aj v59 1)],wS.2)) ((o7 (aj v59 1) (ε 1)).bind λEm=>δ (ir,[(aj v59 0),Em],wS.2))) (δ (Γ 2,[(aj v59 0),(aj v59 1)],NZ))) [(ε 0),(ε 0)] iw.2).bind λD8=>bif D8.1==Γ 2 then(e9 σ (ε 0) D8.2.2)else bif D8.1==l7 then(e9 σ (aj D8.2.1 0) D8.2.2)else η))) ((z7 .i x2 (ε 2)).bind λmD=>(χ mD (δ ([(Z4 c1),mD],σ)) ((z7 .i x2 (ε 3)).bind λqE=>δ ([(Z4 c1),qE],σ))).bind λlE=>χ (aj lE.1 1) (((l9 (aj lE.1 0)).bind λ_=>δ (3)).bind λp76=>((l9 (aj lE.1 0)).bind λc77=>Θ p76 c77).bind λOb=>(WJ Ob).bind λvJ=>(XP .i vJ (ε 0)).bind λsL=>((l9 (aj lE.1 0)).bind λ_=>δ (0)).bind λp81=>((l9 (aj lE.1 0)).bind λc82=>Θ p81 c82).bind λOc=>(z7 .i Oc (ε 4)).bind λx84=>(χ x84 (((l9 (aj lE.1 0)).bind λ_=>δ (3)).bind λp86=>((l9 (aj lE.1 0)).bind λyN=>Θ p86 yN).bind λnv=>(WJ nv).bind λEr=>(p9 Er (ε 2)).bind λx90=>δ ([(aj lE.1 0),x90],lE.2)) (δ ([(aj lE.1 0),sL],lE.2))).bind λlF=>(μ (aj lF.1 1) θ (δ bF) az).bind λx91=>(μ (aj lF.1 1) θ (Wc x91) az).bind λEs=>(μ (aj lF.1 1) θ (δ Es) az).bind λx93=>((l9 (aj lF.1 0)).bind λ_=>δ (1)).bind λp94=>(μ x93 ι ((l9 (aj lF.1 0)).bind λc95=>Θ p94 c95) az).bind λx96=>(μ x93 ι (XP .i x96 (ε 0)) az).bind λEt=>(μ (aj lF.1 1) θ (l6 x93 Et aZ) az).bind λx98=>(l6 (aj lF.1 1) bF x98).bind λx99=>(μ x99 θ (δ aZ) az).bind λMo=>(μ x99 θ (Wc Mo) az).bind λx101=>(μ x99 θ (δ x101) az).bind λx102=>((l9 (aj lF.1 0)).bind λ_=>δ (2)).bind λagf=>(μ x102 ι ((l9 (aj lF.1 0)).bind λaeE=>Θ agf aeE) az).bind λqQ=>(μ x102 ι (XP .i qQ (ε 0)) az).bind λMp=>(μ x99 θ (l6 x102 Mp aZ) az).bind λyw=>(l6 x99 bF yw).bind λMq=>χ Mq (e9 σ (ε 3) lF.2) (((l9 (aj lF.1 0)).bind λ_=>δ (0)).bind λagi=>((l9 (aj lF.1 0)).bind λLs=>Θ agi Ls).bind λA2=>(z7 .i A2 (ε 2)).bind λx112=>(χ x112 (δ ([(aj lF.1 0),(ε 999)],lF.2)) ((z7 .i A2 (ε 3)).bind λx114=>(χ x114 (δ ([(aj lF.1 0),(ε 999)],lF.2)) (δ ([(aj lF.1 0),(ε 9999)],lF.2))).bind λAZ=>δ ([(aj AZ.1 0),(aj AZ.1 1)],AZ.2))).bind λoS=>((l9 (aj oS.1 0)).bind λ_=>δ (1)).bind λagj=>(μ bF ι ((l9 (aj oS.1 0)).bind λxW=>Θ agj xW) az).bind λagZ=>(μ bF ι (δ (aj oS.1 1)) az).bind λC4=>(μ bF ι (Wd (iz [agZ,(ε 1),C4] oS.2) oS.2) az).bind λag0=>(μ bF ι (Wc ag0) az).bind λA3=>(l6 bF A3 aZ).bind λA4=>(μ A4 θ (δ aZ) az).bind λag1=>(μ A4 θ (δ ag1) az).bind λC5=>((l9 (aj oS.1 0)).bind λ_=>δ (2)).bind λagk=>(μ C5 ι ((l9 (aj oS.1 0)).bind λaeL=>Θ agk aeL) az).bind λC6=>(μ C5 ι (δ (aj oS.1 1)) az).bind λsy=>(μ C5 ι (Wd (iz [C6,(ε 1),sy] oS.2) oS.2) az).bind λC7=>(μ C5 ι (Wc C7) az).bind λMt=>(μ A4 θ (l6 C5 Mt aZ) az).bind λC8=>(l6 A4 bF C8).bind λMu=>χ Mu (e9 σ (ε 1) oS.2) (((l9 (aj oS.1 0)).bind λ_=>δ (3)).bind λagl=>((l9 (aj oS.1 0)).bind λLv=>Θ agl Lv).bind λA5=>(WJ A5).bind λMw=>(s9 (λyp Mh=>(p9 (aj yp 1) Mw).bind λMy=>χ My ((EY 4 A5 (aj yp 1)).bind λag5=>((ψ ag5 Mh).bind λaeT=>Ze 0 4 aeT).bind λag7=>(i7 4 ag7).bind λaeU=>(y9 0 aeU [(ε 0),(ε 0),(ε 0),Ju]).bind λaeV=>(Ze 0 4 aeV).bind λaha=>(rec 38 [aha] Mh).bind λGH=>(XP .i GH.1 (ε 0)).bind λahc=>χ ahc (δ (l7,[GH.1,(aj yp 1)],GH.2)) ((o7 (aj yp 1) (ε 1)).bind λMz=>δ (ir,[(aj yp 0),Mz],GH.2))) (δ (Γ 2,[(aj yp 0),(aj yp 1)],Mh))) [(ε 0),(ε 0)] oS.2).bind λCY=>bif CY.1==Γ 2 then(e9 σ (ε 0) CY.2.2)else bif CY.1==l7 then(e9 σ (aj CY.2.1 0) CY.2.2)else η))) ((z7 .i x2 (ε 4)).bind λx151=>(χ x151 (δ ([(aj lE.1 0),x151],lE.2)) ((z7 .i x2 (ε 5)).bind λx153=>δ ([(aj lE.1 0),x153],lE.2))).bind λmh=>χ (aj mh.1 1) (((l9 (aj mh.1 0)).bind λ_=>δ (3)).bind λagm=>((l9 (aj mh.1 0)).bind λLy=>Θ agm Ly).bind λMA=>(WJ MA).bind λx157=>(XP .i x157 (ε 2)).bind λx158=>((l9 (aj mh.1 0)).bind λ_=>δ (0)).bind λagn=>((l9 (aj mh.1 0)).bind λaeZ=>Θ agn aeZ).bind λahe=>(z7 .i ahe (ε 4)).bind λMB=>(χ MB (((l9 (aj mh.1 0)).bind λ_=>δ (3)).bind λagq=>((l9 (aj mh.1 0)).bind λae2=>Θ agq ae2).bind λahg=>(WJ ahg).bind λx167=>(p9 x167 (ε 2)).bind λx168=>δ ([(aj mh.1 0),x168],mh.2)) (δ ([(aj mh.1 0),x158],mh.2))).bind λlg=>(μ (aj lg.1 1) θ (δ aZ) az).bind λahh=>(μ (aj lg.1 1) θ (Wc ahh) az).bind λahi=>(μ (aj lg.1 1) θ (δ ahi) az).bind λMC=>((l9 (aj lg.1 0)).bind λ_=>δ (1)).bind λagr=>(μ MC ι ((l9 (aj lg.1 0)).bind λae3=>Θ agr ae3) az).bind λahj=>(μ MC ι (XP .i ahj (ε 0)) az).bind λahk=>(μ (aj lg.1 1) θ (l6 MC ahk aZ) az).bind λahl=>(l6 (aj lg.1 1) bF ahl).bind λC9=>(μ C9 θ (δ aZ) az).bind λahm=>(μ C9 θ (Wc ahm) az).bind λahn=>(μ C9 θ (δ ahn) az).bind λMD=>((l9 (aj lg.1 0)).bind λ_=>δ (2)).bind λags=>(μ MD ι ((l9 (aj lg.1 0)).bind λae4=>Θ ags ae4) az).bind λaho=>(μ MD ι (XP .i aho (ε 0)) az).bind λahp=>(μ C9 θ (l6 MD ahp aZ) az).bind λahq=>(l6 C9 bF ahq).bind λahr=>χ ahr (e9 σ (ε 3) lg.2) (((l9 (aj lg.1 0)).bind λ_=>δ (0)).bind λagt=>((l9 (aj lg.1 0)).bind λae5=>Θ agt ae5).bind λUM=>(z7 .i UM (ε 2)).bind λahs=>(χ ahs (δ ([(aj lg.1 0),(ε 999)],lg.2)) ((z7 .i UM (ε 3)).bind λaht=>(χ aht (δ ([(aj lg.1 0),(ε 999)],lg.2)) (δ ([(aj lg.1 0),(ε 9999)],lg.2))).bind λMb=>δ ([(aj Mb.1 0),(aj Mb.1 1)],Mb.2))).bind λoT=>((l9 (aj oT.1 0)).bind λ_=>δ (1)).bind λagu=>(μ aZ ι ((l9 (aj oT.1 0)).bind λae6=>Θ agu ae6) az).bind λahu=>(μ aZ ι (δ (aj oT.1 1)) az).bind λahv=>(μ aZ ι (Wd (iz [ahu,(ε 1),ahv] oT.2) oT.2) az).bind λahw=>(μ aZ ι (Wc ahw) az).bind λahx=>(l6 aZ ahx aZ).bind λGS=>(μ GS θ (δ aZ) az).bind λahy=>(μ GS θ (δ ahy) az).bind λDa=>((l9 (aj oT.1 0)).bind λ_=>δ (2)).bind λagv=>(μ Da ι ((l9 (aj oT.1 0)).bind λae7=>Θ agv ae7) az).bind λahz=>(μ Da ι (δ (aj oT.1 1)) az).bind λahA=>(μ Da ι (Wd (iz [ahz,(ε 1),ahA] oT.2) oT.2) az).bind λahB=>(μ Da ι (Wc ahB) az).bind λahC=>(μ GS θ (l6 Da ahC aZ) az).bind λahD=>(l6 GS bF ahD).bind λahE=>χ ahE (e9 σ (ε 1) oT.2) (((l9 (aj oT.1 0)).bind λ_=>δ (3)).bind λagw=>((l9 (aj oT.1 0)).bind λae8=>Θ agw ae8).bind λUN=>(WJ UN).bind λahF=>(s9 (λyq Mi=>(p9 (aj yq 1) ahF).bind λahG=>χ ahG ((EY 4 UN (aj yq 1)).bind λahH=>((ψ ahH Mi).bind λae9=>Ze 0 4 ae9).bind λahI=>(i7 4 ahI).bind λafa=>(y9 0 afa [(ε 0),(ε 0),(ε 0),Ju]).bind λafb=>(Ze 0 4 afb).bind λahJ=>(rec 38 [ahJ] Mi).bind λGI=>(XP .i GI.1 (ε 0)).bind λahK=>χ ahK (δ (l7,[GI.1,(aj yq 1)],GI.2)) ((o7 (aj yq 1) (ε 1)).bind λahL=>δ (ir,[(aj yq 0),ahL],GI.2))) (δ (Γ 2,[(aj yq 0),(aj yq 1)],Mi))) [(ε 0),(ε 0)] oT.2).bind λCZ=>bif CZ.1==Γ 2 then(e9 σ (ε 0) CZ.2.2)else bif CZ.1==l7 then(e9 σ (aj CZ.2.1 0) CZ.2.2)else η))) ((z7 .i x2 (ε 6)).bind λUO=>(χ UO (δ ([(aj mh.1 0),UO],mh.2)) ((z7 .i x2 (ε 7)).bind λUP=>(χ UP (δ ([(aj mh.1 0),UP],mh.2)) ((z7 .i x2 (ε 8)).bind λahM=>δ ([(aj mh.1 0),ahM],mh.2))).bind λMc=>δ ([(aj Mc.1 0),(aj Mc.1 1)],Mc.2))).bind λiZ=>χ (aj iZ.1 1) (((l9 (aj iZ.1 0)).bind λ_=>δ (3)).bind λagx=>((l9 (aj iZ.1 0)).bind λafc=>Θ agx afc).bind λahN=>(WJ ahN).bind λahO=>(XP .i ahO (ε 1)).bind λahP=>((l9 (aj iZ.1 0)).bind λ_=>δ (0)).bind λagy=>((l9 (aj iZ.1 0)).bind λafd=>Θ agy afd).bind λahQ=>(z7 .i ahQ (ε 4)).bind λahR=>(χ ahR (((l9 (aj iZ.1 0)).bind λ_=>δ (3)).bind λagz=>((l9 (aj iZ.1 0)).bind λafe=>Θ agz afe).bind λahS=>(WJ ahS).bind λahT=>(p9 ahT (ε 2)).bind λahU=>δ ([(aj iZ.1 0),ahU],iZ.2)) (δ ([(aj iZ.1 0),ahP],iZ.2))).bind λlp=>(μ (aj lp.1 1) θ (δ aZ) az).bind λahV=>(μ (aj lp.1 1) θ (Wc ahV) az).bind λahW=>(μ (aj lp.1 1) θ (δ ahW) az).bind λME=>((l9 (aj lp.1 0)).bind λ_=>δ (1)).bind λagA=>(μ ME ι ((l9 (aj lp.1 0)).bind λaff=>Θ agA aff) az).bind λahX=>(μ ME ι (XP .i ahX (ε 0)) az).bind λahY=>(μ (aj lp.1 1) θ (l6 ME ahY aZ) az).bind λahZ=>(l6 (aj lp.1 1) bF ahZ).bind λDb=>(μ Db θ (δ aZ) az).bind λah0=>(μ Db θ (Wc ah0) az).bind λah1=>(μ Db θ (δ ah1) az).bind λMF=>((l9 (aj lp.1 0)).bind λ_=>δ (2)).bind λagB=>(μ MF ι ((l9 (aj lp.1 0)).bind λafg=>Θ agB afg) az).bind λah2=>(μ MF ι (XP .i ah2 (ε 0)) az).bind λah3=>(μ Db θ (l6 MF ah3 aZ) az).bind λah4=>(l6 Db bF ah4).bind λah5=>χ ah5 (e9 σ (ε 3) lp.2) (((l9 (aj lp.1 0)).bind λ_=>δ (0)).bind λagC=>((l9 (aj lp.1 0)).bind λafh=>Θ agC afh).bind λUQ=>(z7 .i UQ (ε 2)).bind λah6=>(χ ah6 (δ ([(aj lp.1 0),(ε 999)],lp.2)) ((z7 .i UQ (ε 3)).bind λah7=>(χ ah7 (δ ([(aj lp.1 0),(ε 999)],lp.2)) (δ ([(aj lp.1 0),(ε 9999)],lp.2))).bind λMd=>δ ([(aj Md.1 0),(aj Md.1 1)],Md.2))).bind λoU=>((l9 (aj oU.1 0)).bind λ_=>δ (1)).bind λagD=>(μ aZ ι ((l9 (aj oU.1 0)).bind λafi=>Θ agD afi) az).bind λah8=>(μ aZ ι (δ (aj oU.1 1)) az).bind λah9=>(μ aZ ι (Wd (iz [ah8,(ε 1),ah9] oU.2) oU.2) az).bind λaia=>(μ aZ ι (Wc aia) az).bind λaib=>(l6 aZ aib aZ).bind λGU=>(μ GU θ (δ aZ) az).bind λaic=>(μ GU θ (δ aic) az).bind λDc=>((l9 (aj oU.1 0)).bind λ_=>δ (2)).bind λagE=>(μ Dc ι ((l9 (aj oU.1 0)).bind λafj=>Θ agE afj) az).bind λaid=>(μ Dc ι (δ (aj oU.1 1)) az).bind λaie=>(μ Dc ι (Wd (iz [aid,(ε 1),aie] oU.2) oU.2) az).bind λaif=>(μ Dc ι (Wc aif) az).bind λaih=>(μ GU θ (l6 Dc aih aZ) az).bind λaii=>(l6 GU bF aii).bind λaij=>χ aij (e9 σ (ε 1) oU.2) (((l9 (aj oU.1 0)).bind λ_=>δ (3)).bind λagF=>((l9 (aj oU.1 0)).bind λafk=>Θ agF afk).bind λUR=>(WJ UR).bind λaik=>(s9 (λyt Mj=>(p9 (aj yt 1) aik).bind λail=>χ ail ((EY 4 UR (aj yt 1)).bind λaim=>((ψ aim Mj).bind λafl=>Ze 0 4 afl).bind λaio=>(i7 4 aio).bind λafm=>(y9 0 afm [(ε 0),(ε 0),(ε 0),Ju]).bind λafn=>(Ze 0 4 afn).bind λaip=>(rec 38 [aip] Mj).bind λGJ=>(XP .i GJ.1 (ε 0)).bind λaiq=>χ aiq (δ (l7,[GJ.1,(aj yt 1)],GJ.2)) ((o7 (aj yt 1) (ε 1)).bind λair=>δ (ir,[(aj yt 0),air],GJ.2))) (δ (Γ 2,[(aj yt 0),(aj yt 1)],Mj))) [(ε 0),(ε 0)] oU.2).bind λC0=>bif C0.1==Γ 2 then(e9 σ (ε 0) C0.2.2)else bif C0.1==l7 then(e9 σ (aj C0.2.1 0) C0.2.2)else η))) ((z7 .i x2 (ε 9)).bind λais=>χ ais (((l9 (aj iZ.1 0)).bind λ_=>δ (3)).bind λagG=>((l9 (aj iZ.1 0)).bind λafo=>Θ agG afo).bind λait=>(WJ ait).bind λaiu=>(XP .i aiu (ε 1)).bind λaiv=>((l9 (aj iZ.1 0)).bind λ_=>δ (0)).bind λagH=>((l9 (aj iZ.1 0)).bind λafp=>Θ agH afp).bind λaiw=>(z7 .i aiw (ε 4)).bind λaix=>(χ aix (((l9 (aj iZ.1 0)).bind λ_=>δ (3)).bind λagI=>((l9 (aj iZ.1 0)).bind λafq=>Θ agI afq).bind λaiy=>(WJ aiy).bind λaiz=>(p9 aiz (ε 2)).bind λaiA=>δ ([(aj iZ.1 0),aiA],iZ.2)) (δ ([(aj iZ.1 0),aiv],iZ.2))).bind λlq=>(μ (aj lq.1 1) θ (δ bF) az).bind λaiB=>(μ (aj lq.1 1) θ (Wc aiB) az).bind λaiC=>(μ (aj lq.1 1) θ (δ aiC) az).bind λMG=>((l9 (aj lq.1 0)).bind λ_=>δ (1)).bind λagJ=>(μ MG ι ((l9 (aj lq.1 0)).bind λafr=>Θ agJ afr) az).bind λaiD=>(μ MG ι (XP .i aiD (ε 0)) az).bind λaiE=>(μ (aj lq.1 1) θ (l6 MG aiE aZ) az).bind λaiF=>(l6 (aj lq.1 1) bF aiF).bind λDd=>(μ Dd θ (δ bF) az).bind λaiG=>(μ Dd θ (Wc aiG) az).bind λaiH=>(μ Dd θ (δ aiH) az).bind λMH=>((l9 (aj lq.1 0)).bind λ_=>δ (2)).bind λagK=>(μ MH ι ((l9 (aj lq.1 0)).bind λafs=>Θ agK afs) az).bind λaiI=>(μ MH ι (XP .i aiI (ε 0)) az).bind λaiJ=>(μ Dd θ (l6 MH aiJ aZ) az).bind λaiK=>(l6 Dd bF aiK).bind λaiL=>χ aiL (e9 σ (ε 3) lq.2) (((l9 (aj lq.1 0)).bind λ_=>δ (0)).bind λagL=>((l9 (aj lq.1 0)).bind λaft=>Θ agL aft).bind λUS=>(z7 .i US (ε 2)).bind λaiM=>(χ aiM (δ ([(aj lq.1 0),(ε 999)],lq.2)) ((z7 .i US (ε 3)).bind λaiN=>(χ aiN (δ ([(aj lq.1 0),(ε 999)],lq.2)) (δ ([(aj lq.1 0),(ε 9999)],lq.2))).bind λMe=>δ ([(aj Me.1 0),(aj Me.1 1)],Me.2))).bind λoV=>((l9 (aj oV.1 0)).bind λ_ => δ (1)).bind λagM =>(μ bF ι ((l9 (aj oV.1 0)).bind λafu=>Θ agM afu) az).bind λaiO=>(μ bF ι (δ (aj oV.1 1)) az).bind λaiP=>(μ bF ι (Wd (iz [aiO,(ε 1),aiP] oV.2) oV.2) az).bind λaiQ=>(μ bF ι (Wc aiQ) az).bind λaiR=>(l6 bF aiR aZ).bind λGV=>(μ GV θ (δ bF) az).bind λaiS=>(μ GV θ (δ aiS) az).bind λDe=>((l9 (aj oV.1 0)).bind λ_ => δ (2)).bind λagN =>(μ De ι ((l9 (aj oV.1 0)).bind λafv=>Θ agN afv) az).bind λaiT=>(μ De ι (δ (aj oV.1 1)) az).bind λaiU=>(μ De ι (Wd (iz [aiT,(ε 1),aiU] oV.2) oV.2) az).bind λaiV=>(μ De ι (Wc aiV) az).bind λaiW=>(μ GV θ (l6 De aiW aZ) az).bind λaiX=>(l6 GV bF aiX).bind λaiY=>χ aiY (e9 σ (ε 1) oV.2) (((l9 (aj oV.1 0)).bind λ_=>δ (3)).bind λagO=>((l9 (aj oV.1 0)).bind λafw=>Θ agO afw).bind λUT=>(WJ UT).bind λaiZ=>(s9 (λyu Mk=>(p9 (aj yu 1) aiZ).bind λai0=>χ ai0 ((EY 4 UT (aj yu 1)).bind λai1=>((ψ ai1 Mk).bind λafx=>Ze 0 4 afx).bind λai2=>(i7 4 ai2).bind λafy=>(y9 0 afy [(ε 0),(ε 0),(ε 0),Ju]).bind λafz=>(Ze 0 4 afz).bind λai3=>(rec 38 [ai3] Mk).bind λGK=>(XP .i GK.1 (ε 0)).bind λai4=>χ ai4 (δ (l7,[GK.1,(aj yu 1)],GK.2)) ((o7 (aj yu 1) (ε 1)).bind λai5=>δ (ir,[(aj yu 0),ai5],GK.2))) (δ (Γ 2,[(aj yu 0),(aj yu 1)],Mk))) [(ε 0),(ε 0)] oV.2).bind λC1=>bif C1.1==Γ 2 then(e9 σ (ε 0) C1.2.2)else bif C1.1==l7 then(e9 σ (aj C1.2.1 0) C1.2.2)else η))) (e9 σ (ε 4) iZ.2)))))
def zJ (rec:Nat->aq->Heap->aG):List (Nat×(aq->Heap->aG)):=[(38,Φ ι [iK] .k (XJ (zM rec)))]
def Iq:aq->Heap->aG:=fuel (zJ) 2000000 38
def Iw (a0:AV) (σ:Heap):aG:=(i7 4 a0).bind λc1=>(Ze 0 4 c1).bind λx2=>(IK [x2] σ).bind λr3=>(WG 0 r3.1).bind λx4=>(WG 1 r3.1).bind λx5=>(W7 x4 (ε 200)).bind λx6=>(μ x6 θ (δ x5) az).bind λx7=>(μ x6 θ (W7 x7 (ε 12)) az).bind λx8=>(l6 x6 bF x8).bind λx9=>χ x9 (e9 σ (ε 2) r3.2) ((Ze 0 4 c1).bind λbE=>(Iq [bE] r3.2).bind λeN=>e9 σ eN.1 eN.2)
def zK:aq->Heap->aG:=Φ ι [iK] .k (XJ Iw)
def zF (a0 a1 a2 a3:AV) (σ:Heap):aG:=(z7 .i a0 (ε 2)).bind λx1=>(χ x1 (((ψ a2 σ).bind λc3=>Θ 0 c3).bind λx4=>(WN 0 a3).bind λx5=>((ψ x5 σ).bind λc6=>Θ 0 c6).bind λx7=>((ψ a2 σ).bind λc8=>Θ 0 c8).bind λx9=>(WN 0 a3).bind λbE=>((ψ bE σ).bind λfH=>Θ 0 fH).bind λdB=>(Z8 .i x9 dB Ju σ).bind λcg=>((((l5 a1).bind λv=>δ [v]).bind λiu=>(y9 0 iu [(ε 0)]).bind λgA=>δ gA).bind λcs=>δ (WV 1 (eO 1 1 cs))).bind λcu=>(wh 1 (140737488355328 / 8) cg cu σ).bind λqY=>(Z9 .i x4 x7 qY.1 qY.2).bind λyQ=>δ (([]:aq),yQ)) (δ (([]:aq),σ))).bind λr2=>δ ((YM []),r2.2)
def EO (a0 a1 a2 a3:AV) (σ:Heap):aG:=match a1,a2,a3 with|.int i1 o1,.op i2 o2,.op i3 o3=>zF a0 (.int i1 o1) (.op i2 o2) (.op i3 o3) σ|_,_,_=>η
def sM:aq->Heap->aG:=Φ θ [] .k (A.qT EO)
def xq (rec:Nat->aq->Heap->aG) (dyn:Nat->aq->Heap->aG) (a0 a1:AV) (σ:Heap):aG:=(i7 4 a0).bind λc1=>(Θ 0 c1).bind λx2=>(z7 .i x2 (ε 2)).bind λx3=>(μ x3 θ (Θ 0 c1) az).bind λx4=>(μ x3 θ (z7 .i x4 (ε 3)) az).bind λx5=>(l6 x3 bF x5).bind λx6=>(χ x6 ((Θ 0 c1).bind λx8=>(Θ 1 c1).bind λx9=>(A.gP dyn a1 [x8,x9] σ).bind λpE=>δ ([(Z4 c1)],pE.2)) (δ ([(Z4 c1)],σ))).bind λr7=>((l9 (aj r7.1 0)).bind λ_=>δ (3)).bind λp11=>((l9 (aj r7.1 0)).bind λdG=>Θ p11 dG).bind λcg=>(WJ cg).bind λdw=>(s9 (λvE ud=>(p9 (aj vE 0) dw).bind λdW=>χ dW ((EY 4 cg (aj vE 0)).bind λck=>((ψ ck ud).bind λkr=>Ze 0 4 kr).bind λdA=>(i7 4 dA).bind λqj=>(y9 0 qj [(ε 0),(ε 0),(ε 0),Ju]).bind λql=>(Ze 0 4 ql).bind λx24=>(rec 41 [x24,a1] ud).bind λqZ=>(o7 (aj vE 0) (ε 1)).bind λfS=>δ (ir,[fS],qZ.2)) (δ (Γ 0,[(aj vE 0)],ud))) [(ε 0)] r7.2).bind λjf=>bif jf.1==Γ 0 then(δ ((YM []),jf.2.2))else η
def sO (dyn:Nat->aq->Heap->aG) (rec:Nat->aq->Heap->aG):List (Nat×(aq->Heap->aG)):=[(41,Φ θ [] .k (XQ (xq rec dyn)))]
def vL (dyn:Nat->aq->Heap->aG):aq->Heap->aG:=fuel (sO dyn) 2000000 41
def E6 (a0:AV) (σ:Heap):aG:=((l5 (Wu σ.length)).bind λv=>δ [v]).bind λc1=>(u7 (YI (σ++[j0 []]).length 0) c1 ((σ++[j0 []])++[WE [AV.nm]])).bind λc2=>(WJ a0).bind λx3=>(s9 (λv4 s5=>(p9 (aj v4 0) x3).bind λx7=>χ x7 ((EY 5 a0 (aj v4 0)).bind λx8=>((ψ x8 s5).bind λc9=>Ze 0 5 c9).bind λbE=>(i7 5 bE).bind λfH=>(u7 (YI s5.length 0) fH (s5++[WE [(ε 0),(ε 0),(ε 0),(ε 0),Ju]])).bind λdG=>((ψ (YI (σ++[j0 []]).length 0) dG).bind λmm=>Θ 0 mm).bind λdw=>(WN 0 (YI s5.length 0)).bind λdz=>((ψ dz dG).bind λnZ=>Θ 0 nZ).bind λdD=>(Z9 .i dw dD Ju dG).bind λyQ=>(WN 1 (YI s5.length 0)).bind λck=>((ψ ck yQ).bind λkr=>Ze 0 4 kr).bind λdA=>(vL (U8 (λ_ _=>η) [(40,sM)]) [dA,(AV.fn 40 [(YI (σ++[j0 []]).length 0),(YI s5.length 0)])] yQ).bind λvq=>(o7 (aj v4 0) (ε 1)).bind λcV=>δ (ir,[cV],vq.2)) (δ (Γ 0,[(aj v4 0)],s5))) [(ε 0)] c2).bind λNP=>bif NP.1==Γ 0 then(((ψ (YI (σ++[j0 []]).length 0) NP.2.2).bind λjd=>Θ 0 jd).bind λfS=>e9 σ fS NP.2.2)else η
def IM:aq->Heap->aG:=Φ ι [(.s 5)] .k (XJ E6)
def Iz (a0 a1:AV) (σ:Heap):aG:=((((l5 a1).bind λv=>δ [v]).bind λc1=>(y9 0 c1 [(ε 0)]).bind λc2=>δ c2).bind λcs=>δ (WV 1 (eO 1 1 cs))).bind λx3=>A.wJ x3 λz4 G0=>(s9 (λv6 s7=>(WJ (aj v6 0)).bind λx9=>(W7 x9 (ε 0)).bind λbE=>χ bE ((WJ (aj v6 0)).bind λdI=>(Yd dI (ε 1)).bind λdB=>(EY 1 (aj v6 0) dB).bind λcg=>((ψ cg s7).bind λiu=>Θ 0 iu).bind λdz=>(WJ (aj v6 0)).bind λcu=>(Yd cu (ε 1)).bind λdD=>(A.gD 1 (aj v6 0) η (δ dD) s7).bind λdW=>(Z8 .i a0 dz Ju s7).bind λck=>(WJ ck).bind λeW=>(s9 (λv21 jh=>(p9 (aj v21 1) eW).bind λx24=>χ x24 ((EY 1 ck (aj v21 1)).bind λx25=>((ψ x25 jh).bind λmo=>Θ 0 mo).bind λfT=>(Z8 .i (Wu σ.length) fT aZ jh).bind λx28=>(Wc x28).bind λx29=>(χ x29 ((Z9 .i (Wu σ.length) fT bF jh).bind λDx=>((((l5 fT).bind λv=>δ [v]).bind λku=>(y9 0 ku [(ε 0)]).bind λoa=>δ oa).bind λcs=>δ (WV 1 (eO 1 1 cs))).bind λx34=>(wh 1 (140737488355328 / 8) (aj v21 0) x34 Dx).bind λiw=>δ ([iw.1],iw.2)) (δ ([(aj v21 0)],jh))).bind λjS=>(o7 (aj v21 1) (ε 1)).bind λqA=>δ (ir,[(aj jS.1 0),qA],jS.2)) (δ (Γ 2,[(aj v21 0),(aj v21 1)],jh))) [dW,(ε 0)] s7).bind λjg=>bif jg.1==Γ 2 then(δ (ir,[(aj jg.2.1 0)],jg.2.2))else η) (δ (Γ 0,[(aj v6 0)],s7))) [(AV.os (σ++[j0 []]).length G0.length z4 0 G0.length)] ((σ++[j0 []])++[aM.arr G0.length z4 G0])).bind λV1=>bif V1.1==Γ 0 then(e9 σ (Wu σ.length) V1.2.2)else η
def Ir:aq->Heap->aG:=Φ ι [] .k (XQ Iz)
def H7 (a0:AV) (σ:Heap):aG:=(WJ a0).bind λx1=>(W7 x1 (ε 200)).bind λx2=>χ x2 (e9 σ (ε 2) σ) ((WJ a0).bind λx3=>(s9 (λv4 s5=>(p9 (aj v4 1) x3).bind λx7=>χ x7 ((EY 5 a0 (aj v4 1)).bind λx8=>((ψ x8 s5).bind λc9=>Ze 0 5 c9).bind λbE=>(i7 5 bE).bind λfH=>(y9 0 fH [(ε 0),(ε 0),(ε 0),(ε 0),Ju]).bind λdG=>(Θ 0 dG).bind λcg=>(iz [cg,(ε 1),(ε 999)] s5).bind λcN=>(Wc cN.1).bind λdz=>χ dz (δ (l7,[(ε 1),(aj v4 1)],cN.2)) ((W7 (aj v4 1) (ε 0)).bind λcu=>(μ cu ι (Θ 0 dG) az).bind λdD=>(μ cu ι (δ a0) az).bind λdW=>(μ cu ι (δ (aj v4 1)) az).bind λck=>(μ cu ι (Yd ck (ε 1)) az).bind λeW=>(μ cu ι (EY 5 dW eW) az).bind λdA=>(μ cu ι (WN 0 dA) az).bind λdO=>(μ cu ι ((ψ dO cN.2).bind λql=>Θ 0 ql) az).bind λx24=>(μ cu ι (A.leq dD x24) az).bind λx25=>(l6 cu x25 aZ).bind λfS=>χ fS (δ (l7,[(ε 7),(aj v4 1)],cN.2)) ((Ze 1 4 dG).bind λfT=>(zK [fT] cN.2).bind λvr=>(XP .i vr.1 (ε 0)).bind λx29=>χ x29 (δ (l7,[vr.1,(aj v4 1)],vr.2)) ((o7 (aj v4 1) (ε 1)).bind λiO=>δ (ir,[(aj v4 0),iO],vr.2))))) (δ (Γ 0,[(aj v4 0),(aj v4 1)],s5))) [(ε 0),(ε 0)] σ).bind λtY=>bif tY.1==Γ 0 then((IM [a0] tY.2.2).bind λr32=>(WJ a0).bind λjk=>(s9 (λnj sI=>(p9 (aj nj 1) jk).bind λkG=>χ kG ((EY 5 a0 (aj nj 1)).bind λx38=>((ψ x38 sI).bind λyI=>Ze 0 5 yI).bind λkH=>(i7 5 kH).bind λqm=>(y9 0 qm [(ε 0),(ε 0),(ε 0),(ε 0),Ju]).bind λjA=>(Θ 0 jA).bind λoz=>(Z8 .i r32.1 oz Ju sI).bind λmB=>(WJ mB).bind λjl=>(s9 (λv46 Eb=>(p9 (aj v46 1) jl).bind λqC=>χ qC ((EY 1 mB (aj v46 1)).bind λoA=>((ψ oA Eb).bind λyL=>Θ 0 yL).bind λnu=>(A.nI .i r32.1 nu Ju Eb).bind λpH=>(WG 0 pH).bind λrz=>(WG 1 pH).bind λsJ=>(Wc sJ).bind λqD=>χ qD (δ (l7,[(ε 8),(aj v46 1)],Eb)) ((o7 (aj v46 1) (ε 1)).bind λoB=>δ (ir,[(aj v46 0),oB],Eb))) (δ (Γ 4,[(aj v46 0),(aj v46 1)],Eb))) [(aj nj 0),(ε 0)] sI).bind λBp=>bif Bp.1==Γ 4 then((o7 (aj nj 1) (ε 1)).bind λrA=>δ (ir,[(aj Bp.2.1 0),rA],Bp.2.2))else bif Bp.1==l7 then(δ (l7,[(aj Bp.2.1 0),(aj nj 1)],Bp.2.2))else η) (δ (Γ 2,[(aj nj 0),(aj nj 1)],sI))) [(aj tY.2.1 0),(ε 0)] r32.2).bind λvA=>bif vA.1==Γ 2 then((WJ a0).bind λoC=>(s9 (λzh zf=>(p9 (aj zh 1) oC).bind λmC=>χ mC ((EY 5 a0 (aj zh 1)).bind λvG=>((ψ vG zf).bind λDl=>Ze 0 5 Dl).bind λoD=>(i7 5 oD).bind λc69=>(y9 0 c69 [(ε 0),(ε 0),(ε 0),(ε 0),Ju]).bind λU4=>(Θ 0 U4).bind λEm=>(Wd (Ir [r32.1,Em] zf) zf).bind λvI=>(Θ 0 U4).bind λmD=>(Z8 .i vI mD aZ zf).bind λrC=>χ rC (δ (l7,[(ε 11),(aj zh 1)],zf)) ((o7 (aj zh 1) (ε 1)).bind λqE=>δ (ir,[(aj zh 0),qE],zf))) (δ (Γ 6,[(aj zh 0),(aj zh 1)],zf))) [(aj vA.2.1 0),(ε 0)] vA.2.2).bind λD9=>bif D9.1==Γ 6 then(e9 σ (ε 0) D9.2.2)else bif D9.1==l7 then(e9 σ (aj D9.2.1 0) D9.2.2)else η)else bif vA.1==l7 then(e9 σ (aj vA.2.1 0) vA.2.2)else η)else bif tY.1==l7 then(e9 σ (aj tY.2.1 0) tY.2.2)else η)
def EI:aq->Heap->aG:=Φ ι [(.s 5)] .k (XJ H7)
def xw (a0:AV) (σ:Heap):aG:=(WJ a0).bind λx1=>(s9 (λv2 s3=>(p9 (aj v2 1) x1).bind λx5=>χ x5 ((EY 1 a0 (aj v2 1)).bind λx6=>((ψ x6 s3).bind λc7=>Θ 0 c7).bind λx8=>(Z8 .i (Wu σ.length) x8 aZ s3).bind λx9=>(Wc x9).bind λbE=>(χ bE ((Z9 .i (Wu σ.length) x8 bF s3).bind λh12=>((((l5 x8).bind λv=>δ [v]).bind λmm=>(y9 0 mm [(ε 0)]).bind λiu=>δ iu).bind λcs=>δ (WV 1 (eO 1 1 cs))).bind λdz=>(wh 1 (140737488355328 / 8) (aj v2 0) dz h12).bind λD2=>δ ([D2.1],D2.2)) (δ ([(aj v2 0)],s3))).bind λeN=>(o7 (aj v2 1) (ε 1)).bind λdD=>δ (ir,[(aj eN.1 0),dD],eN.2)) (δ (Γ 0,[(aj v2 0),(aj v2 1)],s3))) [Ju,(ε 0)] (σ++[j0 []])).bind λtX=>bif tX.1==Γ 0 then(δ ((aj tX.2.1 0),tX.2.2))else η
def vM:aq->Heap->aG:=Φ ι [(.s 1)] .k (XJ xw)
def zz (rec:Nat->aq->Heap->aG) (a0 a1 a2:AV) (σ:Heap):aG:=(((l5 a0).bind λv=>δ [v]).bind λcs=>δ (Zh cs)).bind λx1=>(i7 4 a1).bind λc2=>(((l5 a2).bind λv=>δ [v]).bind λcs=>δ (Zh cs)).bind λx3=>((l5 aZ).bind λv=>δ [v]).bind λc4=>(u7 (YI σ.length 0) c4 (σ++[WE [aZ]])).bind λc5=>(Ze 0 4 c2).bind λx6=>(vL (U8 (λ_ _=>η) [(75,rec 75)]) [x6,(AV.fn 75 [(YI σ.length 0),x1,x3])] c5).bind λr7=>((ψ (YI σ.length 0) r7.2).bind λc8=>Θ 0 c8).bind λx9=>δ (x9,r7.2)
def zx (rec:Nat->aq->Heap->aG) (a0 a1 a2 a3 a4:AV) (σ:Heap):aG:=((ψ a2 σ).bind λc1=>Θ 0 c1).bind λx2=>χ x2 (δ ((YM []),σ)) ((z7 .i a0 (ε 3)).bind λx3=>χ x3 (((ψ a3 σ).bind λc4=>Θ 0 c4).bind λx5=>(A.gZ x5).bind λx6=>(WN 2 x6).bind λx7=>((ψ x7 σ).bind λc8=>Θ 0 c8).bind λx9=>(A.nI .i x9 a1 Ju σ).bind λbE=>(WG 0 bE).bind λdI=>(WG 1 bE).bind λdB=>(Wc dB).bind λcg=>((l5 cg).bind λv=>δ [v]).bind λiu=>(u7 a2 iu σ).bind λgA=>δ ((YM []),gA)) (((ψ a3 σ).bind λnZ=>Θ 0 nZ).bind λdD=>(A.gZ dD).bind λdW=>(WN 1 dW).bind λck=>((ψ ck σ).bind λkr=>Θ 0 kr).bind λdA=>(A.nI .i dA a1 (l8 [(ε 0),(ε 0),(ε 0),Ju]) σ).bind λdO=>(WG 0 dO).bind λcV=>(WG 1 dO).bind λx24=>(i7 4 cV).bind λjd=>(y9 0 jd [(ε 0),(ε 0),(ε 0),Ju]).bind λmo=>(Wc x24).bind λfT=>(χ fT (((l5 bF).bind λv=>δ [v]).bind λyG=>(u7 a2 yG σ).bind λMM=>δ (([]:aq),MM)) (((ψ a4 σ).bind λsB=>Θ 0 sB).bind λx32=>(Z8 .i x32 a1 aZ σ).bind λjk=>(Wc jk).bind λx34=>(χ x34 (((ψ a4 σ).bind λyH=>Θ 0 yH).bind λkG=>(Z9 .i kG a1 bF σ).bind λM7=>((ψ a3 M7).bind λyI=>Θ 0 yI).bind λkH=>(Ze 0 4 mo).bind λzi=>((ψ a4 M7).bind λjA=>Θ 0 jA).bind λoz=>(rec 76 [kH,zi,oz] M7).bind λsH=>((l5 sH.1).bind λv=>δ [v]).bind λMP=>(u7 a2 MP sH.2).bind λMQ=>δ (([]:aq),MQ)) (δ (([]:aq),σ))).bind λiw=>δ (([]:aq),iw.2))).bind λvr=>δ ((YM []),vr.2)))
def zy (rec:Nat->aq->Heap->aG):List (Nat×(aq->Heap->aG)):=[(76,Φ θ [] .k (A.pg (zz rec))),(75,Φ θ [] .k (A.uO (zx rec)))]
def EE:aq->Heap->aG:=fuel (zy) 2000000 76
def BB (a0 a1:AV) (σ:Heap):aG:=((ψ a1 σ).bind λc1=>Θ 0 c1).bind λx2=>(Z8 .i x2 a0 aZ σ).bind λx3=>e9 σ x3 σ
def oF:aq->Heap->aG:=Φ ι [] .k (XQ BB)
def zN (a0 a1 a2:AV) (σ:Heap):aG:=(Yd a2 (ε 1)).bind λx1=>(s9 (λv2 s3=>(WJ a0).bind λx5=>(p9 (aj v2 1) x5).bind λx6=>χ x6 ((EY 1 a0 (aj v2 1)).bind λx7=>((ψ x7 s3).bind λc8=>Θ 0 c8).bind λx9=>((((l5 x9).bind λv=>δ [v]).bind λko=>(y9 0 ko [(ε 0)]).bind λfH=>δ fH).bind λcs=>δ (WV 1 (eO 1 1 cs))).bind λdB=>(wh 1 (140737488355328 / 8) (aj v2 0) dB s3).bind λqw=>(o7 (aj v2 1) a1).bind λdw=>δ (ir,[qw.1,dw],qw.2)) (δ (Γ 0,[(aj v2 0),(aj v2 1)],s3))) [Ju,x1] σ).bind λmZ=>bif mZ.1==Γ 0 then(δ ((aj mZ.2.1 0),mZ.2.2))else η
def zL:aq->Heap->aG:=Φ ι [(.s 1)] .k (A.pg zN)
def zD (rec:Nat->aq->Heap->aG) (a0 a1:AV) (σ:Heap):aG:=(i7 4 a1).bind λc1=>(Θ 3 c1).bind λx2=>(WJ x2).bind λx3=>(s9 (λv4 s5=>(p9 (aj v4 2) x3).bind λx7=>χ x7 ((EY 4 x2 (aj v4 2)).bind λx8=>((ψ x8 s5).bind λc9=>Ze 0 4 c9).bind λbE=>(i7 4 bE).bind λfH=>(y9 0 fH [(ε 0),(ε 0),(ε 0),Ju]).bind λdG=>(Ze 0 4 dG).bind λcg=>(rec 79 [a0,cg] s5).bind λcN=>((((l5 cN.1).bind λv=>δ [v]).bind λgA=>(y9 0 gA [Ju]).bind λnZ=>δ nZ).bind λcs=>δ (WV 1 (eO 1 1 cs))).bind λdD=>(wh 1 (140737488355328 / 24) (aj v4 1) dD cN.2).bind λtX=>(o7 (aj v4 2) (ε 1)).bind λck=>δ (ir,[(aj v4 0),tX.1,ck],tX.2)) (δ (Γ 0,[(aj v4 0),(aj v4 1),(aj v4 2)],s5))) [(Z4 c1),Ju,(ε 0)] σ).bind λbK=>bif bK.1==Γ 0 then(((l9 (aj bK.2.1 0)).bind λ_=>δ (0)).bind λp21=>((l9 (aj bK.2.1 0)).bind λqj=>Θ p21 qj).bind λcV=>(z7 .i cV (ε 1)).bind λx24=>χ x24 (((l9 (aj bK.2.1 0)).bind λ_=>δ (1)).bind λNL=>((l9 (aj bK.2.1 0)).bind λmo=>Θ NL mo).bind λfT=>((l9 (aj bK.2.1 0)).bind λ_=>δ (2)).bind λp28=>((l9 (aj bK.2.1 0)).bind λyG=>Θ p28 yG).bind λiO=>(A.min fT iO).bind λx31=>((l9 (aj bK.2.1 0)).bind λ_=>δ (1)).bind λp32=>((l9 (aj bK.2.1 0)).bind λoa=>Θ p32 oa).bind λx34=>((l9 (aj bK.2.1 0)).bind λ_=>δ (2)).bind λNM=>((l9 (aj bK.2.1 0)).bind λyH=>Θ NM yH).bind λkG=>(A.max x34 kG).bind λx38=>(A.gZ a0).bind λqB=>(WN 0 qB).bind λkH=>((ψ kH bK.2.2).bind λqm=>Θ 0 qm).bind λru=>(WJ ru).bind λoz=>(s9 (λv44 HF=>(p9 (aj v44 2) oz).bind λnr=>χ nr ((EY 1 ru (aj v44 2)).bind λzj=>((ψ zj HF).bind λDh=>Θ 0 Dh).bind λoA=>(A.leq x31 oA).bind λiP=>(μ iP ι (δ oA) az).bind λnu=>(μ iP ι (δ x38) az).bind λpH=>(μ iP ι (A.leq nu pH) az).bind λrz=>(l6 iP rz aZ).bind λsJ=>(χ sJ (((((l5 oA).bind λv=>δ [v]).bind λDk=>(y9 0 Dk [(ε 0)]).bind λc58=>δ c58).bind λcs=>δ (WV 1 (eO 1 1 cs))).bind λrA=>(wh 1 (140737488355328 / 8) (aj v44 1) rA HF).bind λvA=>δ ([(aj v44 0),vA.1],vA.2)) (δ ([(aj v44 0),(aj v44 1)],HF))).bind λyZ=>(o7 (aj v44 2) (ε 1)).bind λoC=>δ (ir,[(aj yZ.1 0),(aj yZ.1 1),oC],yZ.2)) (δ (Γ 3,[(aj v44 0),(aj v44 1),(aj v44 2)],HF))) [(aj bK.2.1 0),Ju,(ε 0)] bK.2.2).bind λlD=>bif lD.1==Γ 3 then(((l9 (aj lD.2.1 0)).bind λ_=>δ (1)).bind λp63=>((l9 (aj lD.2.1 0)).bind λMV=>Θ p63 MV).bind λmC=>((l9 (aj lD.2.1 0)).bind λ_=>δ (2)).bind λp66=>((l9 (aj lD.2.1 0)).bind λDl=>Θ p66 Dl).bind λoD=>(W7 mC oD).bind λvH=>(χ vH ((wY [(aj lD.2.1 1)] lD.2.2).bind λr71=>δ (([]:aq),r71.2)) (δ (([]:aq),lD.2.2))).bind λHx=>δ ((aj lD.2.1 1),Hx.2))else η) ((z7 .i cV (ε 2)).bind λvI=>χ vI ((A.gZ a0).bind λmD=>(WN 3 mD).bind λrC=>((ψ rC bK.2.2).bind λc75=>Θ 0 c75).bind λEn=>((l9 (aj bK.2.1 0)).bind λ_=>δ (1)).bind λp77=>((l9 (aj bK.2.1 0)).bind λDm=>Θ p77 Dm).bind λvJ=>(A.nI .i En vJ Ju bK.2.2).bind λsL=>(WG 0 sL).bind λEo=>(WG 1 sL).bind λEp=>(Wc Ep).bind λOc=>(χ Oc ((A.gZ a0).bind λzn=>(WN 1 zn).bind λzo=>((ψ zo bK.2.2).bind λyN=>Θ 0 yN).bind λnv=>((l9 (aj bK.2.1 0)).bind λ_=>δ (1)).bind λp89=>((l9 (aj bK.2.1 0)).bind λDq=>Θ p89 Dq).bind λx91=>(Z8 .i nv x91 (l8 [(ε 0),(ε 0),(ε 0),Ju]) bK.2.2).bind λEs=>(rec 79 [a0,Es] bK.2.2).bind λHy=>(A.gZ a0).bind λzq=>(WN 3 zq).bind λx95=>((ψ x95 Hy.2).bind λc96=>Θ 0 c96).bind λEt=>((l9 (aj bK.2.1 0)).bind λ_=>δ (1)).bind λp98=>((l9 (aj bK.2.1 0)).bind λc99=>Θ p98 c99).bind λMo=>(Z9 .i Et Mo Hy.1 Hy.2).bind λafN=>δ ([Hy.1],afN)) (δ ([Eo],bK.2.2))).bind λV4=>(vK [(aj V4.1 0)] V4.2).bind λUx=>δ (Ux.1,Ux.2)) ((z7 .i cV (ε 3)).bind λagX=>χ agX ((A.gZ a0).bind λx104=>(WN 2 x104).bind λqQ=>((ψ qQ bK.2.2).bind λaeF=>Θ 0 aeF).bind λyw=>((l9 (aj bK.2.1 0)).bind λ_=>δ (1)).bind λagh=>((l9 (aj bK.2.1 0)).bind λLp=>Θ agh Lp).bind λC3=>(Z8 .i yw C3 Ju bK.2.2).bind λA2=>(vK [A2] bK.2.2).bind λCW=>δ (CW.1,CW.2)) ((z7 .i cV (ε 4)).bind λx113=>χ x113 ((EG [(aj bK.2.1 1)] bK.2.2).bind λCX=>(vM [CX.1] CX.2).bind λAZ=>δ (AZ.1,AZ.2)) ((z7 .i cV (ε 5)).bind λMr=>χ Mr (((l5 (Wu bK.2.2.length)).bind λv=>δ [v]).bind λxW=>(u7 (YI (bK.2.2++[j0 []]).length 0) xW ((bK.2.2++[j0 []])++[WE [AV.nm]])).bind λGv=>(EY 1 (aj bK.2.1 1) (ε 1)).bind λC4=>((ψ C4 Gv).bind λaeJ=>Θ 0 aeJ).bind λA3=>(WJ A3).bind λA4=>(s9 (λGR GO=>(p9 (aj GR 0) A4).bind λMs=>χ Ms ((EY 1 A3 (aj GR 0)).bind λC6=>((ψ C6 GO).bind λaeM=>Θ 0 aeM).bind λC7=>((ψ (YI (bK.2.2++[j0 []]).length 0) GO).bind λaeN=>Θ 0 aeN).bind λC8=>(Z9 .i C8 C7 bF GO).bind λafP=>(o7 (aj GR 0) (ε 1)).bind λMv=>δ (ir,[Mv],afP)) (δ (Γ 5,[(aj GR 0)],GO))) [(ε 0)] Gv).bind λMa=>bif Ma.1==Γ 5 then((EY 1 (aj bK.2.1 1) (ε 0)).bind λA5=>((ψ A5 Ma.2.2).bind λLw=>Θ 0 Lw).bind λMx=>(Bz (U8 (λ_ _=>η) [(77,oF)]) [Mx,(AV.fn 77 [(YI (bK.2.2++[j0 []]).length 0)])] Ma.2.2).bind λUA=>δ (UA.1,UA.2))else η) ((z7 .i cV (ε 6)).bind λag4=>χ ag4 ((EY 1 (aj bK.2.1 1) (ε 0)).bind λMy=>((ψ My bK.2.2).bind λLx=>Θ 0 Lx).bind λag6=>(zL [ag6,(ε 2),(ε 1)] bK.2.2).bind λUB=>δ (UB.1,UB.2)) ((z7 .i cV (ε 7)).bind λag8=>χ ag8 ((EY 1 (aj bK.2.1 1) (ε 0)).bind λag9=>((ψ ag9 bK.2.2).bind λaeW=>Θ 0 aeW).bind λahb=>(zL [ahb,(ε 2),(ε 2)] bK.2.2).bind λUC=>δ (UC.1,UC.2)) ((z7 .i cV (ε 8)).bind λMz=>χ Mz ((EY 1 (aj bK.2.1 1) (ε 0)).bind λx150=>((ψ x150 bK.2.2).bind λaeX=>Θ 0 aeX).bind λx152=>(wY [x152] bK.2.2).bind λUD=>(EY 1 (aj bK.2.1 1) (ε 0)).bind λahd=>((ψ ahd UD.2).bind λLy=>Θ 0 Ly).bind λMA=>δ (MA,UD.2)) ((EY 1 (aj bK.2.1 1) (ε 0)).bind λx157=>((ψ x157 bK.2.2).bind λaeY=>Θ 0 aeY).bind λx159=>((l9 (aj bK.2.1 0)).bind λ_=>δ (1)).bind λago=>((l9 (aj bK.2.1 0)).bind λae0=>Θ ago ae0).bind λMB=>((l9 (aj bK.2.1 0)).bind λ_=>δ (2)).bind λagp=>((l9 (aj bK.2.1 0)).bind λae1=>Θ agp ae1).bind λahf=>(zL [x159,MB,ahf] bK.2.2).bind λUE=>δ (UE.1,UE.2))))))))))else η
def xe (rec:Nat->aq->Heap->aG):List (Nat×(aq->Heap->aG)):=[(79,Φ θ [] .k (XQ (zD rec)))]
def EJ:aq->Heap->aG:=fuel (xe) 2000000 79
def EX (a0 a1 a2 a3:AV) (σ:Heap):aG:=(i7 2 a0).bind λc1=>(i7 4 a3).bind λc2=>(Ze 0 2 c1).bind λx3=>(Wd (EF [x3,a2] σ) σ).bind λx4=>(Wd (EI [a1] σ) σ).bind λx5=>(Ze 0 4 c2).bind λx6=>(Wd (zK [x6] σ) σ).bind λx7=>((((l5 x4).bind λv=>δ [v]).bind λc8=>(y9 0 c8 [(ε 0),(ε 0),(ε 0)]).bind λc9=>((l5 x5).bind λv=>δ [v]).bind λko=>(y9 1 ko c9).bind λfH=>((l5 x7).bind λv=>δ [v]).bind λdG=>(y9 2 dG fH).bind λmm=>δ mm).bind λcs=>δ (WV 1 (eO 1 3 cs))).bind λdw=>(Wd (BP [dw] σ) σ).bind λdz=>(XP .i dz (ε 0)).bind λcu=>χ cu (δ ((YM [Ju,dz]),σ)) (((((l5 (Wu σ.length)).bind λv=>δ [v]).bind λkq=>(y9 1 kq [Ju,AV.nm,AV.nm,AV.nm]).bind λiL=>((l5 (Wu (σ++[j0 []]).length)).bind λv=>δ [v]).bind λuQ=>(y9 2 uQ iL).bind λkr=>((l5 (Wu ((σ++[j0 []])++[j0 []]).length)).bind λv=>δ [v]).bind λuR=>(y9 3 uR kr).bind λqj=>δ qj).bind λcs=>δ (l8 cs)).bind λcV=>(i7 4 cV).bind λgV=>(Θ 1 c1).bind λx25=>(WJ x25).bind λfS=>(s9 (λkF wU=>(p9 (aj kF 1) fS).bind λiO=>χ iO ((EY 4 x25 (aj kF 1)).bind λx31=>((ψ x31 wU).bind λku=>Ze 0 4 ku).bind λjk=>(i7 4 jk).bind λMN=>(y9 0 MN [(ε 0),gz,(ε 0),(ε 0)]).bind λDg=>(A.gZ (YI (((σ++[j0 []])++[j0 []])++[j0 []]).length 0)).bind λqA=>(WN 0 qA).bind λkG=>((ψ kG wU).bind λc38=>Θ 0 c38).bind λqB=>(Θ 0 Dg).bind λkH=>((((l5 kH).bind λv=>δ [v]).bind λqm=>(y9 0 qm [(ε 0)]).bind λjA=>δ jA).bind λcs=>δ (WV 1 (eO 1 1 cs))).bind λoz=>(wh 1 (140737488355328 / 8) qB oz wU).bind λsH=>(A.gZ (YI (((σ++[j0 []])++[j0 []])++[j0 []]).length 0)).bind λjl=>(WN 0 jl).bind λgK=>((l5 sH.1).bind λv=>δ [v]).bind λMR=>(u7 gK MR sH.2).bind λyK=>(o7 (aj kF 1) (ε 1)).bind λqC=>δ (ir,[(aj kF 0),qC],yK)) (δ (Γ 0,[(aj kF 0),(aj kF 1)],wU))) [(Z4 c2),(ε 0)] ((((σ++[j0 []])++[j0 []])++[j0 []])++[WE gV])).bind λwR=>bif wR.1==Γ 0 then((WJ a1).bind λiP=>(s9 (λBw HG=>(p9 (aj Bw 1) iP).bind λsJ=>χ sJ ((EY 5 a1 (aj Bw 1)).bind λqD=>((ψ qD HG).bind λDk=>Ze 0 5 Dk).bind λsK=>(i7 5 sK).bind λMT=>(y9 0 MT [(ε 0),(ε 0),(ε 0),(ε 0),Ju]).bind λU3=>(A.gZ (YI (((σ++[j0 []])++[j0 []])++[j0 []]).length 0)).bind λoC=>(WN 1 oC).bind λzk=>((ψ zk HG).bind λMU=>Θ 0 MU).bind λvF=>(Θ 0 U3).bind λmC=>(Ze 1 4 U3).bind λvG=>(Z9 .i vF mC vG HG).bind λh67=>(o7 (aj Bw 1) (ε 1)).bind λoD=>δ (ir,[(aj Bw 0),oD],h67)) (δ (Γ 2,[(aj Bw 0),(aj Bw 1)],HG))) [(aj wR.2.1 0),(ε 0)] wR.2.2).bind λwS=>bif wS.1==Γ 2 then((WJ a2).bind λzm=>(s9 (λBx N0=>(p9 (aj Bx 1) zm).bind λrC=>χ rC ((EY 3 a2 (aj Bx 1)).bind λqE=>((ψ qE N0).bind λc76=>Ze 0 3 c76).bind λue=>(i7 3 ue).bind λDm=>(y9 0 Dm [(ε 0),gz,Ju]).bind λGY=>(Θ 2 GY).bind λsL=>(WJ sL).bind λEo=>(s9 (λv82 zg=>(p9 (aj v82 3) Eo).bind λzn=>χ zn ((EY 3 sL (aj v82 3)).bind λzo=>((ψ zo zg).bind λyN=>Ze 0 3 yN).bind λnv=>(i7 3 nv).bind λDn=>(y9 0 Dn [(ε 0),gz,(ε 0)]).bind λDq=>(Θ 0 Dq).bind λx91=>((((l5 x91).bind λv=>δ [v]).bind λMY=>(y9 0 MY [(ε 0)]).bind λDr=>δ Dr).bind λcs=>δ (WV 1 (eO 1 1 cs))).bind λzq=>(wh 1 (140737488355328 / 8) (aj v82 2) zq zg).bind λwT=>(o7 (aj v82 3) (ε 1)).bind λx96=>δ (ir,[(aj v82 0),(aj v82 1),wT.1,x96],wT.2)) (δ (Γ 6,[(aj v82 0),(aj v82 1),(aj v82 2),(aj v82 3)],zg))) [(aj Bx 0),(Z4 GY),Ju,(ε 0)] N0).bind λvB=>bif vB.1==Γ 6 then((A.gZ (YI (((σ++[j0 []])++[j0 []])++[j0 []]).length 0)).bind λx98=>(WN 2 x98).bind λx99=>((ψ x99 vB.2.2).bind λLo=>Θ 0 Lo).bind λx101=>((l9 (aj vB.2.1 1)).bind λ_=>δ (0)).bind λage=>((l9 (aj vB.2.1 1)).bind λaeD=>Θ age aeD).bind λx104=>(Wd ((A.qd (.s 1) vM) [(aj vB.2.1 2)] vB.2.2) vB.2.2).bind λqQ=>(Z9 .i x101 x104 qQ vB.2.2).bind λafO=>(o7 (aj Bx 1) (ε 1)).bind λyw=>δ (ir,[(aj vB.2.1 0),yw],afO))else η) (δ (Γ 4,[(aj Bx 0),(aj Bx 1)],N0))) [(aj wS.2.1 0),(ε 0)] wS.2.2).bind λCV=>bif CV.1==Γ 4 then(((l9 (aj CV.2.1 0)).bind λLp=>Ze 0 4 Lp).bind λC3=>(EE [(YI (((σ++[j0 []])++[j0 []])++[j0 []]).length 0),C3,(Wu CV.2.2.length)] (CV.2.2++[j0 []])).bind λL8=>χ L8.1 (δ ((YM [Ju,(ε 8)]),L8.2)) (((l9 (aj CV.2.1 0)).bind λLu=>Ze 0 4 Lu).bind λx113=>(EJ [(YI (((σ++[j0 []])++[j0 []])++[j0 []]).length 0),x113] L8.2).bind λCX=>δ ((YM [CX.1,(ε 0)]),CX.2)))else η)else η)else η)
def xm:aq->Heap->aG:=Φ ι [(.a [(.s 3),(.s 4)]),(.s 5),(.s 3),iK] .k (A.qT EX)
def zT (rec:Nat->aq->Heap->aG) (a0:AV) (σ:Heap):aG:=(i7 4 a0).bind λc1=>(Θ 1 c1).bind λx2=>(Wd (zG [x2] σ) σ).bind λx3=>(Θ 2 c1).bind λx4=>(Wd (zG [x4] σ) σ).bind λx5=>(Θ 0 c1).bind λx6=>(z7 .i x6 (ε 1)).bind λx7=>χ x7 ((z7 .z x3 x5).bind λx8=>χ x8 (e9 σ x3 σ) ((o7 x3 (u5 ⟨#[32,116,104,114,117,32]⟩)).bind λx9=>(o7 x9 x5).bind λbE=>e9 σ bE σ)) ((z7 .i x6 (ε 2)).bind λdI=>χ dI ((o7 (u5 ⟨#[103,114,111,117,112,32]⟩) x3).bind λdB=>e9 σ dB σ) ((z7 .i x6 (ε 3)).bind λcg=>χ cg ((o7 (u5 ⟨#[112,114,101,115,101,116,32]⟩) x3).bind λdw=>e9 σ dw σ) ((z7 .i x6 (ε 6)).bind λdz=>χ dz ((Θ 3 c1).bind λcu=>(EY 4 cu (ε 0)).bind λdD=>((ψ dD σ).bind λiL=>Ze 0 4 iL).bind λck=>(rec 461 [ck] σ).bind λbK=>(o7 (u5 ⟨#[111,100,100,32]⟩) bK.1).bind λdA=>e9 σ dA bK.2) ((z7 .i x6 (ε 7)).bind λdO=>χ dO ((Θ 3 c1).bind λcV=>(EY 4 cV (ε 0)).bind λx24=>((ψ x24 σ).bind λjd=>Ze 0 4 jd).bind λfS=>(rec 461 [fS] σ).bind λjf=>(o7 (u5 ⟨#[101,118,101,110,32]⟩) jf.1).bind λx28=>e9 σ x28 jf.2) ((z7 .i x6 (ε 8)).bind λx29=>χ x29 ((Θ 3 c1).bind λiO=>(EY 4 iO (ε 0)).bind λx31=>((ψ x31 σ).bind λku=>Ze 0 4 ku).bind λjk=>(rec 461 [jk] σ).bind λV0=>(o7 (u5 ⟨#[98,97,99,107,32]⟩) V0.1).bind λqz=>e9 σ qz V0.2) ((z7 .i x6 (ε 9)).bind λqA=>χ qA ((o7 (u5 ⟨#[101,118,101,114,121,32]⟩) x3).bind λkG=>(o7 kG (u5 ⟨#[32,102,114,111,109,32]⟩)).bind λx38=>(o7 x38 x5).bind λqB=>(o7 qB (u5 ⟨#[32]⟩)).bind λkH=>(Θ 3 c1).bind λzi=>(EY 4 zi (ε 0)).bind λru=>((ψ ru σ).bind λyJ=>Ze 0 4 yJ).bind λmB=>(rec 461 [mB] σ).bind λV2=>(o7 kH V2.1).bind λgK=>e9 σ gK V2.2) ((Θ 3 c1).bind λnr=>(EY 4 nr (ε 0)).bind λzj=>((ψ zj σ).bind λDh=>Ze 0 4 Dh).bind λoA=>(i7 4 oA).bind λyL=>(y9 0 yL [(ε 0),(ε 0),(ε 0),Ju]).bind λyM=>(Ze 0 4 yM).bind λpH=>(rec 461 [pH] σ).bind λNR=>(Θ 0 c1).bind λsJ=>(z7 .i sJ (ε 5)).bind λqD=>(χ qD (δ ([(Z4 c1),(u5 ⟨#[32,45,32]⟩),(Z4 yM)],NR.2)) (δ ([(Z4 c1),(u5 ⟨#[32,43,32]⟩),(Z4 yM)],NR.2))).bind λtZ=>((l9 (aj tZ.1 2)).bind λ_=>δ (0)).bind λp58=>((l9 (aj tZ.1 2)).bind λMT=>Θ p58 MT).bind λrB=>(z7 .i rB (ε 5)).bind λoC=>((l9 (aj tZ.1 0)).bind λ_=>δ (0)).bind λp62=>(μ oC θ ((l9 (aj tZ.1 0)).bind λMU=>Θ p62 MU) az).bind λvF=>(μ oC θ (z7 .i vF (ε 5)) az).bind λmC=>(l6 oC bF mC).bind λvG=>(χ vG (((l9 (aj tZ.1 2)).bind λc68=>Ze 0 4 c68).bind λvH=>(rec 462 [vH] tZ.2).bind λHx=>δ ([(aj tZ.1 0),Hx.1],Hx.2)) (δ ([(aj tZ.1 0),NR.1],tZ.2))).bind λD6=>((l9 (aj D6.1 0)).bind λ_=>δ (3)).bind λp71=>((l9 (aj D6.1 0)).bind λc72=>Θ p71 c72).bind λmD=>(A.gD 4 mD (δ (ε 1)) η D6.2).bind λrC=>(WJ rC).bind λqE=>(s9 (λv76 N1=>(p9 (aj v76 1) qE).bind λvJ=>χ vJ ((EY 4 rC (aj v76 1)).bind λsL=>((ψ sL N1).bind λMX=>Ze 0 4 MX).bind λEp=>(i7 4 Ep).bind λc83=>(y9 0 c83 [(ε 0),(ε 0),(ε 0),Ju]).bind λc84=>(Ze 0 4 c84).bind λzn=>(rec 461 [zn] N1).bind λV5=>(o7 (aj tZ.1 1) V5.1).bind λOd=>(o7 (aj v76 0) Od).bind λnv=>(o7 (aj v76 1) (ε 1)).bind λEr=>δ (ir,[nv,Er],V5.2)) (δ (Γ 1,[(aj v76 0),(aj v76 1)],N1))) [(aj D6.1 1),(ε 0)] D6.2).bind λNT=>bif NT.1==Γ 1 then(e9 σ (aj NT.2.1 0) NT.2.2)else η)))))))
def Aa (rec:Nat->aq->Heap->aG) (a0:AV) (σ:Heap):aG:=(i7 4 a0).bind λc1=>(Θ 0 c1).bind λx2=>(z7 .i x2 (ε 4)).bind λx3=>(μ x3 θ (Θ 0 c1) az).bind λx4=>(μ x3 θ (z7 .i x4 (ε 5)) az).bind λx5=>(l6 x3 bF x5).bind λx6=>χ x6 ((Ze 0 4 c1).bind λx7=>(rec 462 [x7] σ).bind λr8=>(o7 (u5 ⟨#[40]⟩) r8.1).bind λx9=>(o7 x9 (u5 ⟨#[41]⟩)).bind λbE=>e9 σ bE r8.2) ((Ze 0 4 c1).bind λdI=>(rec 462 [dI] σ).bind λiM=>e9 σ iM.1 iM.2)
def pI (rec:Nat->aq->Heap->aG):List (Nat×(aq->Heap->aG)):=[(462,Φ ι [iK] .k (XJ (zT rec))),(461,Φ ι [iK] .k (XJ (Aa rec)))]
def IL:aq->Heap->aG:=fuel (pI) 2000000 462
def Ix (a0:AV) (σ:Heap):aG:=(i7 4 a0).bind λc1=>(Ze 0 4 c1).bind λx2=>(zK [x2] σ).bind λr3=>(XP .i r3.1 (ε 0)).bind λx4=>χ x4 (e9 σ (YM [gz,r3.1]) r3.2) ((Ze 0 4 c1).bind λx5=>(IL [x5] r3.2).bind λr6=>(A.uK r6.1).bind λx7=>(W7 x7 (ε 4000)).bind λx8=>χ x8 (e9 σ (YM [gz,(ε 2)]) r6.2) (e9 σ (YM [r6.1,(ε 0)]) r6.2))
def BO:aq->Heap->aG:=Φ ι [iK] .k (XJ Ix)
end
section
def HN (a0 a1:AV) (σ:Heap):aG:=(i7 4 a0).bind λc1=>(Θ 0 c1).bind λx2=>((ψ a1 σ).bind λc3=>Θ 0 c3).bind λx4=>(z7 .i x2 x4).bind λx5=>e9 σ x5 σ
def uf:aq->Heap->aG:=Φ ι [] .k (XQ HN)
def HO (a0 a1 a2 a3 a4:AV) (σ:Heap):aG:=((ψ a1 σ).bind λc1=>Ze 0 2 c1).bind λx2=>((ψ a2 σ).bind λc3=>Θ 0 c3).bind λx4=>((ψ a3 σ).bind λc5=>Θ 0 c5).bind λx6=>((ψ a4 σ).bind λc7=>Ze 0 4 c7).bind λx8=>(((i7 4 x8).bind λc9=>(y9 0 c9 [(ε 0),(ε 0),(ε 0),Ju]).bind λko=>δ ko).bind λcs=>δ (WV 4 (eO 4 1 cs))).bind λdI=>((((l5 a0).bind λv=>δ [v]).bind λdG=>(y9 0 dG [(ε 0),(ε 0),(ε 0),Ju]).bind λmm=>((l5 dI).bind λv=>δ [v]).bind λiu=>(y9 3 iu mm).bind λgA=>δ gA).bind λcs=>δ (l8 cs)).bind λcu=>(xm [x2,x4,x6,cu] σ).bind λqY=>(WG 0 qY.1).bind λdW=>(WG 1 qY.1).bind λck=>(z7 .i ck (ε 0)).bind λeW=>δ ((YM [dW,eW]),qY.2)
def ug:aq->Heap->aG:=Φ ι [] .k (A.uO HO)
def EC (a0 a1 a2 a3:AV) (σ:Heap):aG:=((i7 2 a0).bind λcs=>δ (Zh cs)).bind λx1=>(((l5 a1).bind λv=>δ [v]).bind λcs=>δ (Zh cs)).bind λx2=>(((l5 a2).bind λv=>δ [v]).bind λcs=>δ (Zh cs)).bind λx3=>((i7 4 a3).bind λcs=>δ (Zh cs)).bind λx4=>((ψ x1 σ).bind λc5=>Ze 0 2 c5).bind λx6=>((ψ x2 σ).bind λc7=>Θ 0 c7).bind λx8=>((ψ x3 σ).bind λc9=>Θ 0 c9).bind λbE=>((ψ x4 σ).bind λfH=>Ze 0 4 fH).bind λdB=>((A.qd (.t [(.s 1),.k]) xm) [x6,x8,bE,dB] σ).bind λqw=>(WG 0 qw.1).bind λdw=>(WG 1 qw.1).bind λdz=>((((l5 (ε 1)).bind λv=>δ [v]).bind λnZ=>(y9 0 nZ [(ε 0),(ε 0),(ε 0),Ju]).bind λkq=>((l5 (ε 1)).bind λv=>δ [v]).bind λiL=>(y9 1 iL kq).bind λuQ=>((l5 (ε 2)).bind λv=>δ [v]).bind λkr=>(y9 2 kr uQ).bind λuR=>δ uR).bind λcs=>δ (l8 cs)).bind λdO=>(BO [dO] qw.2).bind λkE=>(WG 0 kE.1).bind λx24=>(WG 1 kE.1).bind λx25=>(XP .z x24 (u5 ⟨#[49,32,116,104,114,117,32,50]⟩)).bind λfS=>(μ fS θ (δ x25) az).bind λfT=>(μ fS θ (XP .i fT (ε 0)) az).bind λx28=>(l6 fS bF x28).bind λx29=>χ x29 (e9 σ aZ kE.2) ((XP .i dz (ε 0)).bind λiO=>χ iO ((WJ dw).bind λx31=>(z7 .i x31 (ε 0)).bind λx32=>e9 σ x32 kE.2) ((WJ dw).bind λjk=>(s9 (λnj sI=>(p9 (aj nj 1) jk).bind λkG=>χ kG ((EY 1 dw (aj nj 1)).bind λx38=>((ψ x38 sI).bind λyI=>Θ 0 yI).bind λkH=>((l5 kH).bind λv=>δ [v]).bind λqm=>(u7 (YI sI.length 0) qm (sI++[WE [(ε 0)]])).bind λjA=>(A.gD 1 dw η (δ (aj nj 1)) jA).bind λoz=>((ψ (YI sI.length 0) jA).bind λc44=>Θ 0 c44).bind λjl=>(Wd (BD [oz,jl] jA) jA).bind λgK=>(μ gK θ (WN 1 x1) az).bind λnr=>(μ gK θ ((ψ nr jA).bind λyK=>Θ 0 yK) az).bind λqC=>(μ gK θ (δ (AV.fn 469 [(YI sI.length 0)])) az).bind λoA=>(μ gK θ (Wd (By (U8 (λ_ _=>η) [(469,uf),(472,ug)]) [qC,oA] jA) jA) az).bind λiP=>(μ gK θ (Wc iP) az).bind λnu=>(l6 gK bF nu).bind λpH=>χ pH (δ (l7,[aZ,(aj nj 1)],jA)) ((o7 (aj nj 1) (ε 1)).bind λrz=>δ (ir,[(aj nj 0),rz],jA))) (δ (Γ 0,[(aj nj 0),(aj nj 1)],sI))) [aZ,(ε 0)] kE.2).bind λD5=>bif D5.1==Γ 0 then((A.gP (U8 (λ_ _=>η) [(469,uf),(472,ug)]) (AV.fn 472 [x1,x2,x3,x4]) [(ε 6)] D5.2.2).bind λyZ=>(WG 0 yZ.1).bind λoB=>(WG 1 yZ.1).bind λsK=>(A.gP (U8 (λ_ _=>η) [(469,uf),(472,ug)]) (AV.fn 472 [x1,x2,x3,x4]) [(ε 7)] yZ.2).bind λNS=>(WG 0 NS.1).bind λrB=>(WG 1 NS.1).bind λoC=>(A.gP (U8 (λ_ _=>η) [(469,uf),(472,ug)]) (AV.fn 472 [x1,x2,x3,x4]) [(ε 8)] NS.2).bind λlD=>(WG 0 lD.1).bind λjT=>(WG 1 lD.1).bind λvF=>(Wc sK).bind λmC=>(μ mC θ (δ oC) az).bind λvG=>(μ mC θ (Wc vG) az).bind λzl=>(l6 mC bF zl).bind λoD=>(μ oD θ (δ vF) az).bind λvH=>(μ oD θ (Wc vH) az).bind λzm=>(l6 oD bF zm).bind λEm=>χ Em ((WJ oB).bind λvI=>(z7 .i vI (ε 0)).bind λmD=>(μ mD ι (δ rB) az).bind λrC=>(μ mD ι (WJ rC) az).bind λqE=>(μ mD ι (z7 .i qE (ε 0)) az).bind λEn=>(l6 mD En aZ).bind λue=>(μ ue ι (δ jT) az).bind λOb=>(μ ue ι (WJ Ob) az).bind λvJ=>(μ ue ι (z7 .i vJ (ε 0)) az).bind λsL=>(l6 ue sL aZ).bind λEo=>e9 σ Eo lD.2) ((WJ dw).bind λEp=>(s9 (λqy Br=>(p9 (aj qy 1) Ep).bind λzo=>χ zo ((A.rem (aj qy 1) (ε 2)).bind λOd=>(z7 .i Od (ε 0)).bind λnv=>(μ nv ι (δ (aj qy 1)) az).bind λEr=>(μ nv ι (A.quo Er (ε 2)) az).bind λx90=>(μ nv ι (δ oB) az).bind λx91=>(μ nv ι (WJ x91) az).bind λEs=>(μ nv ι (p9 x90 Es) az).bind λx93=>(l6 nv x93 aZ).bind λzq=>(χ zq ((A.quo (aj qy 1) (ε 2)).bind λx96=>(EY 1 oB x96).bind λEt=>((ψ Et Br).bind λc98=>Θ 0 c98).bind λx99=>((((l5 x99).bind λv=>δ [v]).bind λLo=>(y9 0 Lo [(ε 0)]).bind λaeC=>δ aeC).bind λcs=>δ (WV 1 (eO 1 1 cs))).bind λx102=>(wh 1 (140737488355328 / 8) (aj qy 0) x102 Br).bind λUy=>δ ([Uy.1],Uy.2)) ((A.rem (aj qy 1) (ε 2)).bind λx104=>(z7 .i x104 (ε 1)).bind λqQ=>(μ qQ ι (δ (aj qy 1)) az).bind λMp=>(μ qQ ι (A.quo Mp (ε 2)) az).bind λyw=>(μ qQ ι (δ rB) az).bind λMq=>(μ qQ ι (WJ Mq) az).bind λagY=>(μ qQ ι (p9 yw agY) az).bind λC3=>(l6 qQ C3 aZ).bind λA2=>(χ A2 ((A.quo (aj qy 1) (ε 2)).bind λx113=>(EY 1 rB x113).bind λx114=>((ψ x114 Br).bind λaeI=>Θ 0 aeI).bind λMr=>((((l5 Mr).bind λv=>δ [v]).bind λxW=>(y9 0 xW [(ε 0)]).bind λGv=>δ Gv).bind λcs=>δ (WV 1 (eO 1 1 cs))).bind λC4=>(wh 1 (140737488355328 / 8) (aj qy 0) C4 Br).bind λUz=>δ ([Uz.1],Uz.2)) (δ ([(aj qy 0)],Br))).bind λCW=>δ ([(aj CW.1 0)],CW.2))).bind λwT=>(o7 (aj qy 1) (ε 1)).bind λA3=>δ (ir,[(aj wT.1 0),A3],wT.2)) (δ (Γ 2,[(aj qy 0),(aj qy 1)],Br))) [Ju,(ε 0)] lD.2).bind λL9=>bif L9.1==Γ 2 then((wY [jT] L9.2.2).bind λagQ=>(zC [(aj L9.2.1 0),dw] agQ.2).bind λyh=>(μ yh.1 ι (δ jT) az).bind λag2=>(μ yh.1 ι (δ dw) az).bind λMs=>(μ yh.1 ι (Wd (zC [ag2,Ms] yh.2) yh.2) az).bind λC6=>(l6 yh.1 C6 aZ).bind λsy=>(μ sy ι (δ oB) az).bind λC7=>(μ sy ι (WJ C7) az).bind λMt=>(μ sy ι (δ rB) az).bind λC8=>(μ sy ι (WJ C8) az).bind λMu=>(μ sy ι (o7 Mt Mu) az).bind λMv=>(μ sy ι (δ dw) az).bind λag3=>(μ sy ι (WJ ag3) az).bind λA5=>(μ sy ι (z7 .i Mv A5) az).bind λMw=>(l6 sy Mw aZ).bind λMx=>e9 σ Mx yh.2)else η))else bif D5.1==l7 then(e9 σ (aj D5.2.1 0) D5.2.2)else η))
def Oi:aq->Heap->aG:=Φ ι [(.a [(.s 3),(.s 4)]),(.s 5),(.s 3),iK] .k (A.qT EC)
end
section
open Go.RowKit
theorem jq.same{P:Program}{nm:List Nat}{f:FuncId}{args:aq}{σ:Heap}{r:AV}(hc:∀us w,(callFunc f us).run P w=.ok (.enter f us) w)
  (h:∀(c:RC)(vs:Array Value)(w:World),aJ c args vs.toList->Calls P f vs w λe w'=>∃v,e=.returned v/\Below w.heap.size w w'/\∀c',ak c' r v):jq P nm f args σ r σ:=by
 refine .inl ⟨f,hc,λz vs e1 e2 hh ha=>(h _ vs z.w ha).mono ?_⟩;rintro e w' ⟨v,k1,k2,k3⟩;have ho:Out z z.w z.E:=⟨rfl,rfl,rfl,bJ _,λ_ _ _=>rfl,λi p hp=>.inr ⟨p,hp,rfl⟩,λi p hp=>⟨p,hp,.inl rfl⟩,e2,λp hp=>hh.lt hp⟩
 exact⟨v,z.E,k1,ho.grow k2,hh.mono (rJ k2) rfl (λp hp=>k2.block _ (hh.lt hp)),k3 _⟩
theorem CD{c:RC}{a:AV}{vs:Array Value}(h:aJ c [a] vs.toList):∃v,vs=#[v]/\ak c a v:=by simp only[aJ]at h;obtain⟨v,vs',e,h1,e2⟩:=h;refine⟨v,?_,h1⟩;subst e2;cases vs;simp at e;simp [e]
theorem aer{c:RC}{a b:AV}{vs:Array Value}(h:aJ c [a,b] vs.toList):∃v u,vs=#[v,u]/\ak c a v/\ak c b u:=by simp only[aJ]at h;obtain⟨v,vs',e,h1,u,vs2,e2,h2,e3⟩:=h;refine⟨v,u,?_,h1,h2⟩;subst e3;subst e2;cases vs;simp at e;simp [e]
theorem ak2:Sound Tryd.prog aK 80 Ia:=by
 intro args σ r σ' h;unfold Ia XQ at h;split at h
 ·simp only at h;split at h
  ·simp only[ξ,Δ]at h;obtain⟨rfl,rfl⟩:=h;refine jq.same Tryd.call80 λc vs w hr=>?_
   obtain⟨v,u,rfl,h1,h2⟩:=aer hr;simp only[ak]at h1 h2;subst h1 h2;refine(Tryd.strings_Compare _ _ w).mono ?_;rintro e w' ⟨rfl,rfl⟩;exact⟨_,rfl,Below.refl _ _,λc'=>by simp [ak]⟩
  ·cases h
 ·cases h
end
section
open Go.RowKit
theorem akb{P:Program}{nm:List Nat}{f:FuncId}{m0:aq->Heap->aG}(h0:Sound P nm f m0)(hc:∀us w,(callFunc f us).run P w=.ok (.enter f us) w)
  (hz:∀a cap w,Calls P f #[.slice a 0 cap] w λe w'=>∃q,e=.returned (.slice q 0 0)/\Below w.heap.size w w'):Sound P nm f (A.F7 m0):=by
 intro args σ r σ' h;unfold A.F7 at h;split at h
 ·simp only[ξ,Δ]at h;obtain⟨rfl,rfl⟩:=h;refine jq.same hc λc vs w hr=>?_
  obtain⟨v,rfl,h1⟩:=CD hr;simp only[ak]at h1;obtain⟨a,cap,rfl,_⟩:=h1;refine(hz _ _ w).mono ?_;rintro e w' ⟨q,rfl,hb⟩;exact⟨_,rfl,hb,λc'=>by simp [ak]⟩
 ·simp only[ξ,Δ]at h;obtain⟨rfl,rfl⟩:=h;refine jq.same hc λc vs w hr=>?_
  obtain⟨v,rfl,h1⟩:=CD hr;simp only[ak]at h1;subst h1;refine(hz _ _ w).mono ?_;rintro e w' ⟨q,rfl,hb⟩;exact⟨_,rfl,hb,λc'=>by simp [ak]⟩
 ·simp only[ξ,Δ]at h;obtain⟨rfl,rfl⟩:=h;refine jq.same hc λc vs w hr=>?_
  obtain⟨v,rfl,h1⟩:=CD hr;simp only[ak]at h1;obtain⟨a,rfl⟩:=h1;refine(hz _ _ w).mono ?_;rintro e w' ⟨q,rfl,hb⟩;exact⟨_,rfl,hb,λc'=>by simp [ak]⟩
 ·simp only[ξ,Δ]at h;obtain⟨rfl,rfl⟩:=h;refine jq.same hc λc vs w hr=>?_
  obtain⟨v,rfl,h1⟩:=CD hr;simp only[ak]at h1;obtain⟨_,p,_,_,a,cap,rfl,_⟩:=h1;refine(hz _ _ w).mono ?_;rintro e w' ⟨q,rfl,hb⟩;exact⟨_,rfl,hb,λc'=>by simp [ak]⟩
 ·exact h0 _ _ _ _ h
theorem RJ{P:Program}{t e:TypeId}(ht:P.underlying t=δ (.slice e))(a:Option Addr)(n m:Nat)(w:World):Yt P (binOp .eql t (.slice a n m) (.slice η 0 0)) w=.ok (.bool a.isNone) w:=by simp [binOp,show(Op.equal t (.slice a n m) (.slice η 0 0)).run P w=.ok a.isNone w from SY w 9999 t a n m ht]
theorem ac2(a:Option Addr)(cap:Nat)(w:World):Calls Tryd.prog 61 #[.slice a 0 cap] w λe w'=>∃q,e=.returned (.slice q 0 0)/\Below w.heap.size w w':=by
 go_enter Tryd.func61,Tryd.ntmps61
 cases a
 ·go_wp2_with (simp only[RJ (Tryd.underlying36),alU,Ψ])
  go_ret
  exact⟨_,rfl,Below.refl _ _⟩
 ·go_wp2_with (simp only[RJ (Tryd.underlying36),Option.isNone_some,Ψ])
  go_ret
  exact⟨_,rfl,(Below.refl _ _).alloc (bJ _) _⟩
end
section
open Go.RowKit Go.Sort
theorem jq.tab{P:Program}{nm:List Nat}{f:FuncId}{args:aq}{σ:Heap}{r:AV}(hc:∀us w,(callFunc f us).run P w=.ok (.enter f us) w)
  (h:∀(c:RC)(vs:Array Value)(w:World)(free:Nat->Prop),xO w free->aJ c args vs.toList->Calls P f vs w λe w'=>∃v,e=.returned v/\Below w.heap.size w w'/\∀c',ak c' r v):jq P nm f args σ r σ:=by
 refine .inl ⟨f,hc,λz vs e1 e2 hh ha=>(h _ vs z.w _ e2.tab ha).mono ?_⟩;rintro e w' ⟨v,k1,k2,k3⟩;have ho:Out z z.w z.E:=⟨rfl,rfl,rfl,bJ _,λ_ _ _=>rfl,λi p hp=>.inr ⟨p,hp,rfl⟩,λi p hp=>⟨p,hp,.inl rfl⟩,e2,λp hp=>hh.lt hp⟩
 exact⟨v,z.E,k1,ho.grow k2,hh.mono (rJ k2) rfl (λp hp=>k2.block _ (hh.lt hp)),k3 _⟩
theorem Xy:Sound Tryd.prog aK 45 zG:=by
 intro args σ r σ' h;unfold zG XJ at h;split at h
 ·simp only at h;split at h
  ·split at h
   ·rename_i hb;simp only[ξ,Δ]at h;obtain⟨rfl,rfl⟩:=h;refine jq.tab Tryd.call45 λc vs w free ht hr=>?_
    obtain⟨v,rfl,h1⟩:=CD hr;simp only[ak]at h1;subst h1;refine(Tryd.strconv_Itoa _ hb.1 hb.2 w ht.1).mono ?_;rintro e w' ⟨rfl,j,os,rfl⟩;exact⟨_,rfl,⟨rfl,rfl,rfl,by simp [grow,World.drewN],λk hk=>by simp [grow,World.drewN,Array.getElem?_append,hk]⟩,λc'=>by simp [ak,iT]⟩
   ·cases h
  ·cases h
 ·cases h
end
section
theorem Zx:Sound Tryd.prog aK 111 Jc:=q1 [] 35 (.s .n (.s (.s .n (.b (.l [2,7] [.exit 0,.ret] (.s .n (.s dr (.s (.b (.s .n (.s .n cr))) .n)))))) bw)) w9 Tryd.func111 Tryd.call111 (λa0 σ=>by kernel_rfl) rfl rfl
theorem O2:Sound Tryd.prog aK 100 BS:=q1 [] 20 (.s .n bw) (i6 Zx w9) Tryd.func100 Tryd.call100 (λa0 σ=>by kernel_rfl) rfl rfl
theorem xk:Sound Tryd.prog aK 48 iz:=q3 [] 15 (.s .n bw) w9 Tryd.func48 Tryd.call48 (λa0 a1 a2 σ=>by kernel_rfl) rfl rfl
theorem Oo:Sound Tryd.prog aK 101 BI:=q1 [] 5 (.s .n bw) (i6 xk w9) Tryd.func101 Tryd.call101 (λa0 σ=>by kernel_rfl) rfl rfl
theorem akC:Sound Tryd.prog aK 102 HU:=q1 [5] 63 (.s .n (.s cr (.s .n (.s (.s .n (.b (.l [2,12] [.exit 0,.ret] (.s .n (.s dr (.s (.b (.s .n (.s (.b (.s .n (.j bw (.s .n (.j bw (.s .n (.j bw cr))))))) .n))) .n)))))) bw)))) (i6 Oo (i6 O2 w9)) Tryd.func102 Tryd.call102 (λa0 σ=>by kernel_rfl) rfl rfl
theorem akI:Sound Tryd.prog aK 90 HR:=q1 [1,6] 115 (.s .n (.s (.b (.s .n (.j bw (.s .n (.j bw (.s .n (.j bw cr))))))) (.s .n (.s (.s .n (.b (.l [1,2,33] [.exit 1,.ret] (.s .n (.s dr (.s (.b (.s .n (.s (.b (.s .n (.j bw (.s .n (.j bw (.s .n (.j bw (.s .n (.j bw cr))))))))) (.s (.s .n cr) (.s .n (.s .n (.c [1] .n .n))))))) .n)))))) bw)))) (i6 O2 (i6 xk (i6 Oo (i6 akC w9)))) Tryd.func90 Tryd.call90 (λa0 σ=>by kernel_rfl) rfl rfl
theorem aki:Sound Tryd.prog aK 74 HQ:=q1 [5] 30 (.s .n (.s cr (.s .n (.s (.s .n (.b (.l [2,13] [.exit 0,.ret] (.s .n (.s dr (.s (.b (.s .n (.s (.s .n cr) (.s cr .n)))) .n)))))) bw)))) (i6 akI w9) Tryd.func74 Tryd.call74 (λa0 σ=>by kernel_rfl) rfl rfl
def Wj (dyn:Nat->aq->Heap->aG):Fx:=⟨Tryd.prog,aK,U8 (λ_ _=>η) [],dyn,[],[],19,[]⟩
theorem Wh(dyn:Nat->aq->Heap->aG)(hd:∀f,Sound Tryd.prog aK f (dyn (aK.getD f 0))):Sound Tryd.prog aK 91 (Φ ι [(.s 3)] .k (XQ (Ez dyn))):=
 p6 (XL (X:=Wj dyn) (fn:=Tryd.f91) (bH:=(.s .n (.s (.s .n (.b (.l [4,8] [.exit 0,.ret] (.s .n (.s dr (.s (.b (.s .n cr)) .n)))))) bw))) .F trivial (Zl rfl w9 (hd)) Tryd.func91 Tryd.call91 (λa0 a1 σ=>by kernel_rfl)) _ _ _ rfl rfl
theorem aks(dyn:Nat->aq->Heap->aG)(hd:∀f,Sound Tryd.prog aK f (dyn (aK.getD f 0))):Sound Tryd.prog aK 91 (Ex dyn):=Wh dyn hd
theorem Ol:Sound Tryd.prog aK 92 BC:=q2 [2] 8 (.s .n bw) w9 Tryd.func92 Tryd.call92 (λa0 a1 σ=>by kernel_rfl) rfl rfl
def Xd:Fx:=⟨Tryd.prog,aK,U8 (λ_ _=>η) [(91,Ex (U8 (λ_ _=>η) [(64,BC)]))],(U8 (λ_ _=>η) [(64,BC)]),[4],[],17,[]⟩
theorem Xb:Sound Tryd.prog aK 75 (Φ ι [(.s 3)] GW (XQ (EN))):=
 p6 (XL (X:=Xd) (fn:=Tryd.f75) (bH:=(.s .n (.s .n (.s cr bw)))) .F trivial (Zl rfl (i6 (aks _ (rO (YC (kJ Ol (by kernel_rfl) rfl) YS))) w9) (rO (YC (kJ Ol (by kernel_rfl) rfl) YS))) Tryd.func75 Tryd.call75 (λa0 a1 σ=>by kernel_rfl)) _ _ _ rfl rfl
theorem Oq:Sound Tryd.prog aK 75 EM:=Xb
theorem akS:Sound Tryd.prog aK 76 zA:=q3 [] 32 (.s .n (.s cr (.s (.s .n (.b (.l [6,7] [.exit 0,.ret] (.s (.s .n dr) (.s (.b cr) .n))))) bw))) w9 Tryd.func76 Tryd.call76 (λa0 a1 a2 σ=>by kernel_rfl) rfl rfl
def XA:Fx:=⟨Tryd.prog,aK,U8 (λ_ _=>η) [],(λ_ _ _=>η),[4],[15],33,[]⟩
theorem Xz:Sound Tryd.prog aK 77 (Φ θ [] .k (A.pg (BL))):=
 p6 (Sound.GM (X:=XA) (fn:=Tryd.f77) (bH:=(.s .n (.s (.s .n (.c [4] .n .n)) (.s .n (.b (.l [4,6] [.exit 0] (.s (.s .n dr) (.s (.b .n) .n)))))))) .K trivial (Zl rfl w9 (λ_=>VY)) Tryd.func77 Tryd.call77 (λa0 a1 a2 σ=>by kernel_rfl)) _ _ _ rfl rfl
theorem alx:Sound Tryd.prog aK 77 EP:=Xz
theorem On:Sound Tryd.prog aK 51 EH:=q1 [1,6,7] 91 (.s .n (.s (.s .n cr) (.s cr (.s .n (.s (.s .n (.b (.l [1,2,23] [.exit 0,.ret] (.s .n (.s dr (.s (.b (.s .n (.s cr (.s cr (.s .n (.s cr (.s cr (.s cr .n)))))))) .n)))))) bw))))) (i6 aki (i6 xk (i6 Oq (i6 akS (i6 alx w9))))) Tryd.func51 Tryd.call51 (λa0 σ=>by kernel_rfl) rfl rfl
theorem YN:Sound Tryd.prog aK 52 IN:=q2 [] 7 (.s .n (.s cr bw)) w9 Tryd.func52 Tryd.call52 (λa0 a1 σ=>by kernel_rfl) rfl rfl
theorem OI:Sound Tryd.prog aK 27 BP:=q1 [] 15 (.s .n (.s (.s .n (.b (.l [2,7] [.exit 0,.ret] (.s .n (.s dr (.s (.b (.s .n cr)) .n)))))) bw)) w9 Tryd.func27 Tryd.call27 (λa0 σ=>by kernel_rfl) rfl rfl
theorem ak1:Sound Tryd.prog aK 78 Ic:=q1 [1,7,8,11] 50 (.s .n (.s (.s .n cr) (.s .n (.s (.s .n (.b (.l [1,5,20] [.exit 0] (.s .n (.s dr (.s (.b (.s .n (.s .n (.s .n (.b (.l [1,5,7,35] [.exit 2] (.s .n (.s dr (.s (.b bw) .n))))))))) .n)))))) bw)))) (i6 On (i6 Oq w9)) Tryd.func78 Tryd.call78 (λa0 σ=>by kernel_rfl) rfl rfl
theorem YJ:Sound Tryd.prog aK 53 IJ:=q1 [1,7] 24 (.s .n (.s .n (.s .n (.s (.s .n (.b (.l [16] [.exit 0] (.s .n (.s dr (.s (.b bw) .n)))))) bw)))) (i6 ak1 w9) Tryd.func53 Tryd.call53 (λa0 σ=>by kernel_rfl) rfl rfl
theorem ajc:Sound Tryd.prog aK 79 Is:=q1 [] 40 (.s .n (.s (.s .n (.b (.l [2,6] [.exit 0,.ret] (.s .n (.s dr (.s (.b (.s .n cr)) .n)))))) bw)) w9 Tryd.func79 Tryd.call79 (λa0 σ=>by kernel_rfl) rfl rfl
theorem ajo:Sound Tryd.prog aK 54 Ip:=q1 [] 9 (.s .n bw) (i6 ajc w9) Tryd.func54 Tryd.call54 (λa0 σ=>by kernel_rfl) rfl rfl
theorem Xx:Sound Tryd.prog aK 55 Ie:=q1 [] 5 (.s .n bw) (i6 xk w9) Tryd.func55 Tryd.call55 (λa0 σ=>by kernel_rfl) rfl rfl
theorem XI:Sound Tryd.prog aK 56 Ij:=q2 [2,3] 21 (.s .n (.s cr bw)) (i6 ak2 w9) Tryd.func56 Tryd.call56 (λa0 a1 σ=>by kernel_rfl) rfl rfl
theorem WS:Sound Tryd.prog aK 28 EF:=q2 [2,8,10] 97 (.s .n (.s (.s .n cr) (.s .n (.s (.s .n (.b (.l [4,26] [.exit 0,.ret] (.s .n (.s dr (.s (.b (.s .n (.s (.b (.s .n (.j bw (.s .n (.j bw (.s .n (.j bw cr))))))) (.s .n (.b (.l [4,8,63] [.exit 3,.ret] (.s .n (.s dr (.s (.b (.s .n (.b (.s .n (.j bw (.s .n (.j bw cr))))))) .n))))))))) .n)))))) bw)))) (i6 On (i6 YN (i6 OI (i6 YJ (i6 xk (i6 ajo (i6 Xx (i6 XI w9)))))))) Tryd.func28 Tryd.call28 (λa0 a1 σ=>by kernel_rfl) rfl rfl
def alo (rec:Nat->aq->Heap->aG):Fx:=⟨Tryd.prog,aK,U8 (λ_ _=>η) [(23,rec 37)],(λ_ _ _=>η),[1,5],[],30,[]⟩
theorem ak3(rec:Nat->aq->Heap->aG)(ff:∀f,Sound Tryd.prog aK f (rec (aK.getD f 0))):Sound Tryd.prog aK 23 (Φ ι [iK] .k (XJ (zS rec))):=
 p6 (alV (X:=alo rec) (fn:=Tryd.f23) (bH:=(.s .n (.s .n (.s (.s .n (.b (.l [2,3,11] [.exit 0] (.s .n (.s dr (.s (.b (.s .n bw)) .n)))))) bw)))) .F trivial (Zl rfl (i6 (ff 23) w9) (λ_=>VY)) Tryd.func23 Tryd.call23 (λa0 σ=>by kernel_rfl)) _ _ _ rfl rfl
theorem akN:∀n f,Sound Tryd.prog aK f (fuel (zP) n (aK.getD f 0)):=
 xx (λrec ff=>(YC (kJ (ak3 rec ff) (by kernel_rfl) rfl) YS))
theorem ako:Sound Tryd.prog aK 23 IK:=akN 2000000 23
def Yi (rec:Nat->aq->Heap->aG):Fx:=⟨Tryd.prog,aK,U8 (λ_ _=>η) [(48,iz),(24,rec 38)],(λ_ _ _=>η),[1,9],[],95,[]⟩
theorem ale(rec:Nat->aq->Heap->aG)(ff:∀f,Sound Tryd.prog aK f (rec (aK.getD f 0))):Sound Tryd.prog aK 24 (Φ ι [iK] .k (XJ (zM rec))):=
 p6 (alV (X:=Yi rec) (fn:=Tryd.f24) (bH:=(.s .n (.s .n (.s (.s .n (.b (.s .n (.j .n (.s (.s .n (.c [1,15] .n .n)) (.j .n (.s (.s .n (.c [1,18] .n .n)) (.j .n (.s (.s .n (.c [1,21] .n (.s .n (.c [1,21] .n .n)))) (.j .n (.s .n (.j .n bw)))))))))))) (.s .n (.s (.s .n (.c [1,6] .n .n)) (.s cr (.s .n (.s (.s .n (.b (.s .n (.c [1,7] .n (.s .n (.c [1,7] .n .n)))))) (.s cr (.s (.s .n (.b (.l [2,85] [.exit 2,.ret] (.s .n (.s dr (.s (.b (.s .n (.s .n cr))) .n)))))) bw))))))))))) .F trivial (Zl rfl (i6 xk (i6 (ff 24) w9)) (λ_=>VY)) Tryd.func24 Tryd.call24 (λa0 σ=>by kernel_rfl)) _ _ _ rfl rfl
theorem XO:∀n f,Sound Tryd.prog aK f (fuel (zJ) n (aK.getD f 0)):=
 xx (λrec ff=>(YC (kJ (ale rec ff) (by kernel_rfl) rfl) YS))
theorem X7:Sound Tryd.prog aK 24 Iq:=XO 2000000 24
theorem ID:Sound Tryd.prog aK 9 zK:=q1 [1] 18 (.s .n (.s (.s .n cr) bw)) (i6 ako (i6 X7 w9)) Tryd.func9 Tryd.call9 (λa0 σ=>by kernel_rfl) rfl rfl
def Yk (rec:Nat->aq->Heap->aG) (dyn:Nat->aq->Heap->aG):Fx:=⟨Tryd.prog,aK,U8 (λ_ _=>η) [(59,rec 41)],dyn,[2,5],[],31,[]⟩
theorem alE(rec:Nat->aq->Heap->aG)(dyn:Nat->aq->Heap->aG)(ff:∀f,Sound Tryd.prog aK f (rec (aK.getD f 0)))(hd:∀f,Sound Tryd.prog aK f (dyn (aK.getD f 0))):Sound Tryd.prog aK 59 (Φ θ [] .k (XQ (xq rec dyn))):=
 p6 (XL (X:=Yk rec dyn) (fn:=Tryd.f59) (bH:=(.s .n (.s (.s .n (.c [2] .n .n)) (.s .n (.b (.l [23] [.exit 0] (.s .n (.s dr (.s (.b bw) .n))))))))) .K trivial (Zl rfl (i6 (ff 59) w9) (hd)) Tryd.func59 Tryd.call59 (λa0 a1 σ=>by kernel_rfl)) _ _ _ rfl rfl
theorem aj7(dyn:Nat->aq->Heap->aG)(hd:∀f,Sound Tryd.prog aK f (dyn (aK.getD f 0))):∀n f,Sound Tryd.prog aK f (fuel (sO dyn) n (aK.getD f 0)):=
 xx (λrec ff=>(YC (kJ (alE rec dyn ff hd) (by kernel_rfl) rfl) YS))
theorem OH(dyn:Nat->aq->Heap->aG)(hd:∀f,Sound Tryd.prog aK f (dyn (aK.getD f 0))):Sound Tryd.prog aK 59 (vL dyn):=aj7 dyn hd 2000000 59
def Ov:Fx:=⟨Tryd.prog,aK,U8 (λ_ _=>η) [],(λ_ _ _=>η),[],[],18,[]⟩
theorem alc(a0:AV)(i1:IntKind)(o1:Int)(i2 o2:Nat)(i3 o3:Nat)(σ:Heap):lu (Ov) .K (.s .n (.c [] .n .n)) Tryd.f81 [a0,.int i1 o1,.op i2 o2,.op i3 o3] σ=zF a0 (.int i1 o1) (.op i2 o2) (.op i3 o3) σ:=by kernel_rfl
theorem adm:Sound Tryd.prog aK 81 (Φ θ [] .k (A.qT (EO))):=
 p6 (Sound.agV (X:=Ov) (fn:=Tryd.f81) (bH:=(.s .n (.c [] .n .n))) .K trivial (Zl rfl w9 (λ_=>VY)) Tryd.func81 Tryd.call81 (λargs σ r h=>by
  unfold A.qT EO at h;split at h
  ·split at h
   ·exact(alc ..).trans h
   ·cases h
  ·cases h)) _ _ _ rfl rfl
theorem Ou:Sound Tryd.prog aK 81 sM:=adm
def YY:Fx:=⟨Tryd.prog,aK,U8 (λ_ _=>η) [(59,vL (U8 (λ_ _=>η) [(40,sM)]))],(U8 (λ_ _=>η) [(40,sM)]),[],[3,5],22,[]⟩
theorem YU:Sound Tryd.prog aK 57 (Φ ι [(.s 5)] .k (XJ (E6))):=
 p6 (alV (X:=YY) (fn:=Tryd.f57) (bH:=(.s .n (.s .n (.s (.s .n (.b (.l [9] [.exit 0] (.s .n (.s dr (.s (.b (.s .n bw)) .n)))))) bw)))) .F trivial (Zl rfl (i6 (OH _ (rO (YC (kJ Ou (by kernel_rfl) rfl) YS))) w9) (rO (YC (kJ Ou (by kernel_rfl) rfl) YS))) Tryd.func57 Tryd.call57 (λa0 σ=>by kernel_rfl)) _ _ _ rfl rfl
theorem akL:Sound Tryd.prog aK 57 IM:=YU
def akE:Fx:=⟨Tryd.prog,aK,U8 (λ_ _=>η) [],(λ_ _ _=>η),[],[12],47,[]⟩
theorem Yg:Sound Tryd.prog aK 58 (Φ ι [] .k (XQ (Iz))):=
 p6 (XL (X:=akE) (fn:=Tryd.f58) (bH:=(.s .n (.s .n (.s .n (.s (.b (.l [6] [.exit 0] (.s (.s .n dr) (.b (.s .n (.s .n (.s .n (.b (.l [6,31] [.exit 2] (.s .n (.s dr (.s (.b (.s .n (.s .n (.c [6] bw .n)))) .n)))))))))))) bw))))) .F trivial (Zl rfl w9 (λ_=>VY)) Tryd.func58 Tryd.call58 (λa0 a1 σ=>by kernel_rfl)) _ _ _ rfl rfl
theorem X9:Sound Tryd.prog aK 58 Ir:=Yg
theorem alf:Sound Tryd.prog aK 29 EI:=q1 [4,8,14] 90 (.s .n (.s cr (.s (.s .n (.b (.l [2,20] [.exit 0,.ret] (.s .n (.s dr (.s (.b (.s .n (.s cr (.s cr (.s .n cr))))) .n)))))) (.s .n (.s (.s .n (.b (.l [2,53] [.exit 2,.ret] (.s .n (.s dr (.s (.b (.s .n (.s .n (.b (.l [2,62] [.exit 4,.ret] (.s .n (.s dr (.s (.b (.s .n (.s .n cr))) .n)))))))) .n)))))) (.s (.s .n (.b (.l [2,78] [.exit 6,.ret] (.s .n (.s dr (.s (.b (.s .n cr)) .n)))))) bw)))))) (i6 xk (i6 ID (i6 akL (i6 X9 w9)))) Tryd.func29 Tryd.call29 (λa0 σ=>by kernel_rfl) rfl rfl
def akU:Fx:=⟨Tryd.prog,aK,U8 (λ_ _=>η) [],(λ_ _ _=>η),[],[],26,[]⟩
theorem YR:Sound Tryd.prog aK 30 (Φ ι [(.s 1)] .k (XJ (xw))):=
 p6 (alV (X:=akU) (fn:=Tryd.f30) (bH:=(.s .n (.s .n (.s .n (.s (.s .n (.b (.l [4,10] [.exit 0] (.s .n (.s dr (.s (.b (.s .n (.s .n (.c [4] bw .n)))) .n)))))) bw))))) .K trivial (Zl rfl w9 (λ_=>VY)) Tryd.func30 Tryd.call30 (λa0 σ=>by kernel_rfl)) _ _ _ rfl rfl
theorem O1:Sound Tryd.prog aK 30 vM:=YR
def WM (rec:Nat->aq->Heap->aG):Fx:=⟨Tryd.prog,aK,U8 (λ_ _=>η) [(59,vL (U8 (λ_ _=>η) [(75,rec 75)]))],(U8 (λ_ _=>η) [(75,rec 75)]),[4],[7],12,[]⟩
theorem WL(rec:Nat->aq->Heap->aG)(ff:∀f,Sound Tryd.prog aK f (rec (aK.getD f 0))):Sound Tryd.prog aK 31 (Φ θ [] .k (A.pg (zz rec))):=
 p6 (Sound.GM (X:=WM rec) (fn:=Tryd.f31) (bH:=(.s .n (.s .n (.s .n bw)))) .K trivial (Zl rfl (i6 (OH _ (rO (YC (λf hf=>hf▸ff f) YS))) w9) (rO (YC (λf hf=>hf▸ff f) YS))) Tryd.func31 Tryd.call31 (λa0 a1 a2 σ=>by kernel_rfl)) _ _ _ rfl rfl
def aj4 (rec:Nat->aq->Heap->aG):Fx:=⟨Tryd.prog,aK,U8 (λ_ _=>η) [(31,rec 76)],(λ_ _ _=>η),[9],[],46,[]⟩
theorem Wp(rec:Nat->aq->Heap->aG)(ff:∀f,Sound Tryd.prog aK f (rec (aK.getD f 0))):Sound Tryd.prog aK 60 (Φ θ [] .k (A.uO (zx rec))):=
 p6 (Sound.Mg (X:=aj4 rec) (fn:=Tryd.f60) (bH:=(.s (.s .n dr) (.s (.s .n (.j (.s .n bw) .n)) (.s .n (.s .n (.c [] .n (.s .n (.c [] bw .n)))))))) .K trivial (Zl rfl (i6 (ff 31) w9) (λ_=>VY)) Tryd.func60 Tryd.call60 (λa0 a1 a2 a3 a4 σ=>by kernel_rfl)) _ _ _ rfl rfl
theorem akr:∀n f,Sound Tryd.prog aK f (fuel (zy) n (aK.getD f 0)):=
 xx (λrec ff=>(YC (kJ (WL rec ff) (by kernel_rfl) rfl) (YC (kJ (Wp rec ff) (by kernel_rfl) rfl) YS)))
theorem aas:Sound Tryd.prog aK 31 EE:=akr 2000000 31
def WQ:Fx:=⟨Tryd.prog,aK,U8 (λ_ _=>η) [],(λ_ _ _=>η),[],[],28,[]⟩
theorem akT:Sound Tryd.prog aK 16 (Φ θ [] .k (XJ (zB))):=
 p6 (alV (X:=WQ) (fn:=Tryd.f16) (bH:=(.s .n (.b (.l [2,3] [.exit 0] (.s (.s .n dr) (.s (.b .n) .n)))))) .K trivial (Zl rfl w9 (λ_=>VY)) Tryd.func16 Tryd.call16 (λa0 σ=>by kernel_rfl)) _ _ _ rfl rfl
theorem Om:Sound Tryd.prog aK 16 wY:=akT
def akM:Fx:=⟨Tryd.prog,aK,U8 (λ_ _=>η) [],(λ_ _ _=>η),[],[],8,[]⟩
theorem W5:Sound Tryd.prog aK 61 (Φ ι [(.s 1)] .k (XJ (EL))):=
 p6 (alV (X:=akM) (fn:=Tryd.f61) (bH:=(.s .n (.s cr bw))) .K trivial (Zl rfl w9 (λ_=>VY)) Tryd.func61 Tryd.call61 (λa0 σ=>by kernel_rfl)) _ _ _ rfl rfl
theorem aj6:Sound Tryd.prog aK 61 vK:=akb W5 Tryd.call61 ac2
def Xe:Fx:=⟨Tryd.prog,aK,U8 (λ_ _=>η) [],(λ_ _ _=>η),[],[],27,[]⟩
theorem akp:Sound Tryd.prog aK 82 (Φ θ [] .k (XQ (xh))):=
 p6 (XL (X:=Xe) (fn:=Tryd.f82) (bH:=(.s .n (.s (.s .n (.c [] .n .n)) (.s (.s .n (.s .n (.c [0] .n .n))) bw)))) .K trivial (Zl rfl w9 (λ_=>VY)) Tryd.func82 Tryd.call82 (λa0 a1 σ=>by kernel_rfl)) _ _ _ rfl rfl
theorem akP:Sound Tryd.prog aK 82 xg:=akp
def alm:Fx:=⟨Tryd.prog,aK,U8 (λ_ _=>η) [(82,xg)],(λ_ _ _=>η),[],[],36,[]⟩
theorem ali:Sound Tryd.prog aK 62 (Φ ι [(.s 1)] .k (XJ (wZ))):=
 p6 (alV (X:=alm) (fn:=Tryd.f62) (bH:=(.s .n (.s .n (.s (.s .n (.b (.l [3,11] [.exit 0] (.s .n (.s dr (.s (.b (.s .n (.s .n (.s .n (.c [] .n .n))))) .n)))))) (.s .n (.s (.s .n (.b (.l [6,27] [.exit 2] (.s .n (.s dr (.s (.b bw) .n)))))) bw)))))) .K trivial (Zl rfl (i6 akP w9) (λ_=>VY)) Tryd.func62 Tryd.call62 (λa0 σ=>by kernel_rfl)) _ _ _ rfl rfl
theorem WT:Sound Tryd.prog aK 62 EG:=ali
def akc (dyn:Nat->aq->Heap->aG):Fx:=⟨Tryd.prog,aK,U8 (λ_ _=>η) [],dyn,[],[],19,[]⟩
theorem WC(dyn:Nat->aq->Heap->aG)(hd:∀f,Sound Tryd.prog aK f (dyn (aK.getD f 0))):Sound Tryd.prog aK 83 (Φ ι [(.s 1)] .k (XQ (ED dyn))):=
 p6 (XL (X:=akc dyn) (fn:=Tryd.f83) (bH:=(.s .n (.s (.s .n (.b (.l [4,8] [.exit 0,.ret] (.s .n (.s dr (.s (.b (.s .n cr)) .n)))))) bw))) .F trivial (Zl rfl w9 (hd)) Tryd.func83 Tryd.call83 (λa0 a1 σ=>by kernel_rfl)) _ _ _ rfl rfl
theorem akZ(dyn:Nat->aq->Heap->aG)(hd:∀f,Sound Tryd.prog aK f (dyn (aK.getD f 0))):Sound Tryd.prog aK 83 (rD dyn):=WC dyn hd
def ake (dyn:Nat->aq->Heap->aG):Fx:=⟨Tryd.prog,aK,U8 (λ_ _=>η) [(83,rD dyn)],dyn,[],[],42,[]⟩
theorem akf(dyn:Nat->aq->Heap->aG)(hd:∀f,Sound Tryd.prog aK f (dyn (aK.getD f 0))):Sound Tryd.prog aK 63 (Φ θ [] .k (XQ (BA dyn))):=
 p6 (XL (X:=ake dyn) (fn:=Tryd.f63) (bH:=(.s .n (.s .n (.s cr (.s (.s .n (.b (.l [5,6] [.exit 0] (.s (.s .n dr) (.s (.b (.s .n (.s .n (.c [5] bw .n)))) .n))))) (.s .n bw)))))) .R trivial (Zl rfl (i6 (akZ dyn hd) w9) (hd)) Tryd.func63 Tryd.call63 (λa0 a1 σ=>by kernel_rfl)) _ _ _ rfl rfl
theorem alJ(dyn:Nat->aq->Heap->aG)(hd:∀f,Sound Tryd.prog aK f (dyn (aK.getD f 0))):Sound Tryd.prog aK 63 (Bz dyn):=akf dyn hd
def Yj:Fx:=⟨Tryd.prog,aK,U8 (λ_ _=>η) [],(λ_ _ _=>η),[],[],26,[]⟩
theorem Ye:Sound Tryd.prog aK 65 (Φ ι [(.s 1)] .k (A.pg (zN))):=
 p6 (Sound.GM (X:=Yj) (fn:=Tryd.f65) (bH:=(.s .n (.s .n (.s (.s .n (.b (.l [7,8] [.exit 0] (.s (.s .n dr) (.s (.b .n) .n))))) bw)))) .K trivial (Zl rfl w9 (λ_=>VY)) Tryd.func65 Tryd.call65 (λa0 a1 a2 σ=>by kernel_rfl)) _ _ _ rfl rfl
theorem X8:Sound Tryd.prog aK 65 zL:=Ye
theorem Oj:Sound Tryd.prog aK 64 oF:=q2 [] 7 (.s .n bw) w9 Tryd.func64 Tryd.call64 (λa0 a1 σ=>by kernel_rfl) rfl rfl
end
section
def W6 (rec:Nat->aq->Heap->aG):Fx:=⟨Tryd.prog,aK,U8 (λ_ _=>η) [(32,rec 79),(16,wY),(61,vK),(62,EG),(30,vM),(63,Bz (U8 (λ_ _=>η) [(77,oF)])),(65,zL)],(U8 (λ_ _=>η) [(77,oF)]),[3,7],[15],171,[32,61,65]⟩
theorem W4(rec:Nat->aq->Heap->aG)(ff:∀f,Sound Tryd.prog aK f (rec (aK.getD f 0))):Sound Tryd.prog aK 32 (Φ θ [] .k (XQ (zD rec))):=
 p6 (XL (X:=W6 rec) (fn:=Tryd.f32) (bH:=(.s .n (.s .n (.s (.s .n (.b (.l [3,5,21] [.exit 0] (.s .n (.s dr (.s (.b bw) .n)))))) (.s (.s .n (.b (.s .n (.j (.s .n (.s .n (.s (.s .n (.b (.l [3,10,51] [.exit 3] (.s .n (.s dr (.s (.b (.s .n (.s .n (.c [3,10] .n .n)))) .n)))))) (.s (.s .n (.c [] .n .n)) bw)))) (.s .n (.j (.s .n (.s (.s .n (.c [13] bw .n)) bw)) (.s .n (.j bw (.s .n (.j bw (.s .n (.j (.s .n (.s (.s .n (.b (.l [130] [.exit 5] (.s .n (.s dr (.s (.b bw) .n)))))) bw)) (.s .n (.j bw (.s .n (.j bw (.s .n (.j (.s .n bw) .n)))))))))))))))))) bw))))) .K trivial (Zl rfl (i6 (ff 32) (i6 Om (i6 aj6 (i6 WT (i6 O1 (i6 (alJ _ (rO (YC (kJ Oj (by kernel_rfl) rfl) YS))) (i6 X8 w9))))))) (rO (YC (kJ Oj (by kernel_rfl) rfl) YS))) Tryd.func32 Tryd.call32 (λa0 a1 σ=>by kernel_rfl)) _ _ _ rfl rfl
theorem WW:∀n f,Sound Tryd.prog aK f (fuel (xe) n (aK.getD f 0)):=
 xx (λrec ff=>(YC (kJ (W4 rec ff) (by kernel_rfl) rfl) YS))
theorem W0:Sound Tryd.prog aK 32 EJ:=WW 2000000 32
def Yh:Fx:=⟨Tryd.prog,aK,U8 (λ_ _=>η) [(28,EF),(29,EI),(9,zK),(27,BP),(30,A.qd (.s 1) vM),(31,EE),(32,EJ)],(λ_ _ _=>η),[4,7,13,15,17,20],[37],108,[]⟩
theorem Yc:Sound Tryd.prog aK 11 (Φ ι [(.a [(.s 3),(.s 4)]),(.s 5),(.s 3),iK] .k (A.qT (EX))):=
 p6 (Sound.Mf (X:=Yh) (fn:=Tryd.f11) (bH:=(.s .n (.s (.s .n cr) (.s .n (.s (.s .n (.b (.l [7,41] [.exit 0] (.s .n (.s dr (.s (.b bw) .n)))))) (.s (.s .n (.b (.l [7,59] [.exit 2] (.s .n (.s dr (.s (.b bw) .n)))))) (.s (.s .n (.b (.l [7,74] [.exit 4] (.s .n (.s dr (.s (.b (.s .n (.s .n (.s (.s .n (.b (.l [7,17,18,81] [.exit 6] (.s .n (.s dr (.s (.b bw) .n)))))) .n)))) .n)))))) (.s cr bw)))))))) .K trivial (Zl rfl (i6 WS (i6 alf (i6 ID (i6 OI (i6 (Sound.qd O1 (.s 1) rfl) (i6 aas (i6 W0 w9))))))) (λ_=>VY)) Tryd.func11 Tryd.call11 (λa0 a1 a2 a3 σ=>by kernel_rfl)) _ _ _ rfl rfl
theorem OG:Sound Tryd.prog aK 11 xm:=Yc
def YX (rec:Nat->aq->Heap->aG):Fx:=⟨Tryd.prog,aK,U8 (λ_ _=>η) [(45,zG),(46,rec 461),(21,rec 462)],(λ_ _ _=>η),[1,6,9],[],109,[]⟩
theorem ajd(rec:Nat->aq->Heap->aG)(ff:∀f,Sound Tryd.prog aK f (rec (aK.getD f 0))):Sound Tryd.prog aK 21 (Φ ι [iK] .k (XJ (zT rec))):=
 p6 (alV (X:=YX rec) (fn:=Tryd.f21) (bH:=(.s .n (.s .n (.s (.s .n (.b (.s .n (.j (.s cr bw) (.s .n (.j bw (.s .n (.j bw (.s .n (.j bw (.s .n (.j bw (.s .n (.j bw cr)))))))))))))) (.s .n (.s .n (.s .n (.s (.s .n (.c [1,5,6] .n .n)) (.s (.s .n (.c [1,7] .n .n)) (.s (.s .n (.b (.l [7,97] [.exit 1] (.s .n (.s dr (.s (.b bw) .n)))))) bw)))))))))) .F trivial (Zl rfl (i6 Xy (i6 (ff 46) (i6 (ff 21) w9))) (λ_=>VY)) Tryd.func21 Tryd.call21 (λa0 σ=>by kernel_rfl)) _ _ _ rfl rfl
def ZG (rec:Nat->aq->Heap->aG):Fx:=⟨Tryd.prog,aK,U8 (λ_ _=>η) [(21,rec 462)],(λ_ _ _=>η),[1],[],17,[]⟩
theorem ZF(rec:Nat->aq->Heap->aG)(ff:∀f,Sound Tryd.prog aK f (rec (aK.getD f 0))):Sound Tryd.prog aK 46 (Φ ι [iK] .k (XJ (Aa rec))):=
 p6 (alV (X:=ZG rec) (fn:=Tryd.f46) (bH:=(.s .n (.s cr bw))) .F trivial (Zl rfl (i6 (ff 21) w9) (λ_=>VY)) Tryd.func46 Tryd.call46 (λa0 σ=>by kernel_rfl)) _ _ _ rfl rfl
theorem akV:∀n f,Sound Tryd.prog aK f (fuel (pI) n (aK.getD f 0)):=
 xx (λrec ff=>(YC (kJ (ajd rec ff) (by kernel_rfl) rfl) (YC (kJ (ZF rec ff) (by kernel_rfl) rfl) YS)))
theorem adr:Sound Tryd.prog aK 21 IL:=akV 2000000 21
theorem aka:Sound Tryd.prog aK 7 BO:=q1 [1] 17 (.s .n (.s (.s .n cr) (.s .n (.s cr bw)))) (i6 ID (i6 adr w9)) Tryd.func7 Tryd.call7 (λa0 σ=>by kernel_rfl) rfl rfl
theorem W3:Sound Tryd.prog aK 33 HZ:=q2 [] 19 (.s .n (.s (.s .n (.b (.l [4,8] [.exit 0,.ret] (.s .n (.s dr (.s (.b (.s .n cr)) .n)))))) bw)) w9 Tryd.func33 Tryd.call33 (λa0 a1 σ=>by kernel_rfl) rfl rfl
theorem akh:Sound Tryd.prog aK 12 BD:=q2 [] 9 (.s .n bw) (i6 W3 w9) Tryd.func12 Tryd.call12 (λa0 a1 σ=>by kernel_rfl) rfl rfl
def alg (dyn:Nat->aq->Heap->aG):Fx:=⟨Tryd.prog,aK,U8 (λ_ _=>η) [],dyn,[],[],19,[]⟩
theorem aj0(dyn:Nat->aq->Heap->aG)(hd:∀f,Sound Tryd.prog aK f (dyn (aK.getD f 0))):Sound Tryd.prog aK 34 (Φ ι [(.s 4)] .k (XQ (EB dyn))):=
 p6 (XL (X:=alg dyn) (fn:=Tryd.f34) (bH:=(.s .n (.s (.s .n (.b (.l [4,8] [.exit 0,.ret] (.s .n (.s dr (.s (.b (.s .n cr)) .n)))))) bw))) .F trivial (Zl rfl w9 (hd)) Tryd.func34 Tryd.call34 (λa0 a1 σ=>by kernel_rfl)) _ _ _ rfl rfl
theorem alj(dyn:Nat->aq->Heap->aG)(hd:∀f,Sound Tryd.prog aK f (dyn (aK.getD f 0))):Sound Tryd.prog aK 34 (EA dyn):=aj0 dyn hd
def ak8 (dyn:Nat->aq->Heap->aG):Fx:=⟨Tryd.prog,aK,U8 (λ_ _=>η) [(34,EA dyn)],dyn,[],[],9,[]⟩
theorem akz(dyn:Nat->aq->Heap->aG)(hd:∀f,Sound Tryd.prog aK f (dyn (aK.getD f 0))):Sound Tryd.prog aK 13 (Φ ι [(.s 4)] .k (XQ (Ey dyn))):=
 p6 (XL (X:=ak8 dyn) (fn:=Tryd.f13) (bH:=(.s .n bw)) .F trivial (Zl rfl (i6 (alj dyn hd) w9) (hd)) Tryd.func13 Tryd.call13 (λa0 a1 σ=>by kernel_rfl)) _ _ _ rfl rfl
theorem We(dyn:Nat->aq->Heap->aG)(hd:∀f,Sound Tryd.prog aK f (dyn (aK.getD f 0))):Sound Tryd.prog aK 13 (By dyn):=akz dyn hd
theorem aln:Sound Tryd.prog aK 17 zC:=q2 [] 26 (.s .n (.s cr (.s (.s .n (.b (.l [4,13] [.exit 0,.ret] (.s .n (.s dr (.s (.b (.s .n cr)) .n)))))) bw))) w9 Tryd.func17 Tryd.call17 (λa0 a1 σ=>by kernel_rfl) rfl rfl
theorem Of:Sound Tryd.prog aK 14 uf:=q2 [2] 8 (.s .n bw) w9 Tryd.func14 Tryd.call14 (λa0 a1 σ=>by kernel_rfl) rfl rfl
def aj5:Fx:=⟨Tryd.prog,aK,U8 (λ_ _=>η) [(11,xm)],(λ_ _ _=>η),[],[],24,[]⟩
theorem Wn:Sound Tryd.prog aK 15 (Φ ι [] .k (A.uO (HO))):=
 p6 (Sound.Mg (X:=aj5) (fn:=Tryd.f15) (bH:=(.s .n (.s .n bw))) .K trivial (Zl rfl (i6 OG w9) (λ_=>VY)) Tryd.func15 Tryd.call15 (λa0 a1 a2 a3 a4 σ=>by kernel_rfl)) _ _ _ rfl rfl
theorem Og:Sound Tryd.prog aK 15 ug:=Wn
def akq:Fx:=⟨Tryd.prog,aK,U8 (λ_ _=>η) [(11,A.qd (.t [(.s 1),.k]) xm),(7,BO),(12,BD),(13,By (U8 (λ_ _=>η) [(469,uf),(472,ug)])),(16,wY),(17,zC)],(U8 (λ_ _=>η) [(469,uf),(472,ug)]),[],[14],169,[]⟩
theorem ak9:Sound Tryd.prog aK 4 (Φ ι [(.a [(.s 3),(.s 4)]),(.s 5),(.s 3),iK] .k (A.qT (EC))):=
 p6 (Sound.Mf (X:=akq) (fn:=Tryd.f4) (bH:=(.s .n (.s .n (.s (.s .n cr) (.s cr (.s (.s .n (.b (.l [8,50] [.exit 0,.ret] (.s .n (.s dr (.s (.b (.s .n cr)) .n)))))) (.s .n (.s .n (.s .n (.s .n (.s cr (.s .n (.s (.s .n (.b (.l [22,109] [.exit 2] (.s .n (.s dr (.s (.b (.s .n (.s .n (.c [22] .n (.s .n (.c [22] .n .n)))))) .n)))))) (.s .n bw)))))))))))))) .F trivial (Zl rfl (i6 (Sound.qd OG (.t [(.s 1),.k]) rfl) (i6 aka (i6 akh (i6 (We _ (rO (YC (kJ Of (by kernel_rfl) rfl) (YC (kJ Og (by kernel_rfl) rfl) YS)))) (i6 Om (i6 aln w9)))))) (rO (YC (kJ Of (by kernel_rfl) rfl) (YC (kJ Og (by kernel_rfl) rfl) YS)))) Tryd.func4 Tryd.call4 (λa0 a1 a2 a3 σ=>by kernel_rfl)) _ _ _ rfl rfl
theorem Wx:Sound Tryd.prog aK 4 Oi:=ak9
end
section
theorem bq(s t:ByteArray):(s==t)=decide (s=t):=by obtain⟨a⟩:=s;obtain⟨b⟩:=t;show(a==b)=_;rw[nS];simp
section
variable {α β : Type}
theorem cT(t e:Option α):χ (.bool ι) t e=t:=rfl
theorem cF(t e:Option α):χ (.bool θ) t e=e:=rfl
theorem Vd(e d:Option α):μ (.bool ι) ι e d=e:=rfl
theorem Vc(e d:Option α):μ (.bool ι) θ e d=d:=rfl
theorem Va(e d:Option α):μ (.bool θ) ι e d=d:=rfl
theorem U9(e d:Option α):μ (.bool θ) θ e d=e:=rfl
theorem pT(x y:AV):l6 (.bool ι) x y=δ x:=rfl
theorem pF(x y:AV):l6 (.bool θ) x y=δ y:=rfl
theorem uX{p:Prop}[Decidable p]{w:Bool}{e d:Option α}{f:α->Option β}:(μ (.bool (decide p)) w e d).bind f=if p then(μ (.bool ι) w e d).bind f else(μ (.bool θ) w e d).bind f:=by by_cases h:p<;>simp [h]
theorem uW{b w:Bool}{e d:Option α}{f:α->Option β}:(μ (.bool b) w e d).bind f=match b with|true=>(μ (.bool ι) w e d).bind f|false=>(μ (.bool θ) w e d).bind f:=by cases b<;>rfl
theorem uU{p:Prop}[Decidable p]{t e:Option α}:χ (.bool (decide p)) t e=if p then t else e:=by by_cases h:p<;>simp [h,χ]
theorem uJ{p:Prop}[Decidable p]{t e:Option α}:χ (.bool (!decide p)) t e=if p then e else t:=by by_cases h:p<;>simp [h,χ]
theorem uT{b:Bool}{t e:Option α}:χ (.bool (!b)) t e=match b with|true=>e|false=>t:=by cases b<;>rfl
theorem uS{b:Bool}{t e:Option α}:χ (.bool b) t e=match b with|true=>t|false=>e:=by cases b<;>rfl
theorem gN(w:Bool)(e d:Option α):μ (.aN []) w e d=d:=rfl
theorem xN(a b:AX):(a==b)=decide (a=b):=by rw[nS];simp
end
section
variable (k : IntKind) (a b : Int) (p q : Prop) [Decidable p] [Decidable q] (s t : ByteArray) (x y : AV) (σ : Heap) (cs : aq)
theorem xT:o7 (.ah a) (.ah b)=δ (.ah (Ξ.wrap (a+b))):=rfl
theorem AP:Yd (.ah a) (.ah b)=δ (.ah (Ξ.wrap (a-b))):=rfl
theorem TO:A.mul (.ah a) (.ah b)=δ (.ah (Ξ.wrap (a*b))):=rfl
theorem TP(h:b≠0):A.quo (.ah a) (.ah b)=δ (.ah (Ξ.wrap (a.tdiv b))):=by simp [A.quo,h]
theorem TQ(h:b≠0):A.rem (.ah a) (.ah b)=δ (.ah (a.tmod b)):=by simp [A.rem,h]
theorem qc:p9 (.ah a) (.ah b)=δ (.bool (decide (a<b))):=rfl
theorem CI:A.leq (.ah a) (.ah b)=δ (.bool (decide (a<=b))):=rfl
theorem Lj:W7 (.ah a) (.ah b)=δ (.bool (decide (b<a))):=rfl
theorem TN:A.geq (.ah a) (.ah b)=δ (.bool (decide (b<=a))):=rfl
theorem Th:p9 (.int .u8 a) (.int .u8 b)=δ (.bool (decide (a<b))):=rfl
theorem Tg:A.leq (.int .u8 a) (.int .u8 b)=δ (.bool (decide (a<=b))):=rfl
theorem Te:W7 (.int .u8 a) (.int .u8 b)=δ (.bool (decide (b<a))):=rfl
theorem Td:A.geq (.int .u8 a) (.int .u8 b)=δ (.bool (decide (b<=a))):=rfl
theorem cv:z7 .i (.int k a) (.int k b)=δ (.bool (decide (a=b))):=by simp only[z7,YB,A.lz,if_true,dL];congr 2
theorem fW:XP .i (.int k a) (.int k b)=δ (.bool (decide (¬a=b))):=by simp only[XP,YB,A.lz,if_true,dL];congr 2;rw[nS];simp
theorem Li:z7 .z (.str s) (.str t)=δ (.bool (decide (s=t))):=by simp only[z7,YB,A.oc,dL,bq]
theorem Lk:XP .z (.str s) (.str t)=δ (.bool (decide (¬s=t))):=by simp only[XP,YB,A.oc,dL,bq];simp
theorem Ll(b:Bool):Wc (.bool b)=δ (.bool (!b)):=rfl
theorem Ti:Wc (.bool (decide p))=δ (.bool (decide (¬p))):=by simp [Wc]
theorem wK:l9 (.lbx cs)=δ cs:=rfl
theorem S9(l:aq):WG 0 (.aN (x::l))=δ x:=rfl
theorem Ta(x0 x:AV)(l:aq):WG 1 (.aN (x0::x::l))=δ x:=rfl
theorem Tb(x0 x1 x:AV)(l:aq):WG 2 (.aN (x0::x1::x::l))=δ x:=rfl
theorem Tc(x0 x1 x2 x:AV)(l:aq):WG 3 (.aN (x0::x1::x2::x::l))=δ x:=rfl
theorem UZ:ψ (.rp cs) σ=δ cs:=rfl
theorem U0(o:Nat):WN o (.rp cs)=δ (.rp (cs.drop o)):=rfl
theorem Tf:A.uK (.str s)=δ (.ah s.size):=rfl
theorem UX(n:Int):l5 (.int k n)=δ (.int k n):=rfl
theorem UW(b:Bool):l5 (.bool b)=δ (.bool b):=rfl
theorem UY:l5 (.str s)=δ (.str s):=rfl
theorem TM(sz:Nat)(es:List aq):l5 (.sl sz es)=δ (.sl sz es):=rfl
theorem NK(o k:Nat):Θ o (cs.drop k)=Θ (k+o) cs:=by simp [Θ,WI]
end
theorem Vf(a d:AV)(l:aq):(a::l).getD 0 d=a:=rfl
theorem Vg(a b d:AV)(l:aq):(b::a::l).getD 1 d=a:=rfl
theorem Vh(a b c d:AV)(l:aq):(b::c::a::l).getD 2 d=a:=rfl
theorem Vi(a b c e d:AV)(l:aq):(b::c::e::a::l).getD 3 d=a:=rfl
theorem Vj(a b c e f d:AV)(l:aq):(b::c::e::f::a::l).getD 4 d=a:=rfl
theorem Vk(a b c e f g d:AV)(l:aq):(b::c::e::f::g::a::l).getD 5 d=a:=rfl
theorem Vl(a b c e f g h d:AV)(l:aq):(b::c::e::f::g::h::a::l).getD 6 d=a:=rfl
theorem Vm(a b c e f g h i d:AV)(l:aq):(b::c::e::f::g::h::i::a::l).getD 7 d=a:=rfl
theorem Vn(a b c e f g h i j d:AV)(l:aq):(b::c::e::f::g::h::i::j::a::l).getD 8 d=a:=rfl
theorem dY{n:Int}(h:bA n):Ξ.wrap n=n:=IntWalk.i64_in n h
theorem wrap_eq{ro:Bool}{cm:List Sh}{dn:Sh}{r:aq->Heap->aG}{args:aq}{σ σ':Heap}{v v':AV}(h:args.any Z2=θ)(e:r (Z3 cm args) σ=δ (v,σ'))(hv:XM dn v=v'):Φ ro cm dn r args σ=δ (v',σ'):=by unfold Φ;rw[h,Zg,aS,e];simp [hv]
theorem I6{v:AV}(n:Nat)(h:A.nP v=ι):A.fresh v=ι/\A.shift n v=v:=by cases v<;>first|exact⟨h,rfl⟩|cases h
theorem Pw{v:AV}(n:Nat)(h:A.yl v=ι):A.tc v=ι/\A.rQ n v=v:=by
 have key:(∀vs,v≠.aN vs)->A.tc v=ι/\A.rQ n v=v:=by intro k;have:=I6 (v:=v) n;cases v<;>first|exact absurd rfl (k _)|exact this h
 by_cases ht:∃vs,v=.aN vs
 ·obtain⟨vs,rfl⟩:=ht;simp only[A.yl,iX]at h;refine⟨by simp only[A.tc,iX];exact λx hx=>(I6 n (h x hx)).1,?_⟩;simp only[A.rQ];congr 1
  calc vs.map (A.shift n)=vs.map id:=Wk λx hx=>(I6 n (h x hx)).2
   _=vs:=List.map_id vs
 ·exact key λvs e=>ht ⟨vs,e⟩
theorem FO{cm:List Sh}{dn:Sh}{r:aq->Heap->aG}{args args':aq}{σ:Heap}{v:AV}(h:args.any Z2=ι)(hz:XT σ 0 8 args=δ args')(ho:args'.any Z2=θ)(e:Φ ι cm dn r args' []=δ (v,[]))(hs:A.yl v=ι):Φ ι cm dn r args σ=δ (v,σ):=by unfold Φ at e ⊢;rw[ho,Zg,aS]at e;obtain⟨⟨q1,q2⟩,e1,e2⟩:=bX.1 e;simp only[Δ]at e2;obtain⟨rfl,rfl⟩:=e2;rw[h,amY,bg,hz];simp [e1,(Pw σ.length hs).1,(Pw σ.length hs).2]
theorem cq(σ:Heap)(r:AV):e9 σ r σ=δ (r,σ):=by simp [e9]
theorem PY(σ:Heap)(n d:Nat){a:AV}(h:A.nO a=ι):Ya σ n d a=δ a:=by
 cases a<;>simp only[A.nO]at h<;>first|(cases h;done)|skip
 case sl sz es=>cases es with
  |nil=>cases d<;>simp [Ya,A.iA]
  |cons _ _=>simp at h
 all_goals cases d<;>simp [Ya]
theorem Pc(σ:Heap)(n d:Nat):∀{l:aq},l.all A.nO=ι->XT σ n d l=δ l
 |[],_=>by simp [XT]
 |a::l,h=>by simp only[amm,eF]at h;simp [XT,PY σ n d h.1,Pc σ n d h.2]
theorem PZ(σ:Heap)(n d:Nat){a:AV}(h:A.nP a=ι):Ya σ n d a=δ a:=by
 unfold A.nP at h;split at h
 ·cases d<;>simp [Ya,Pc σ n _ h]
 ·exact PY σ n d h
theorem Pd(σ:Heap)(n d:Nat):∀{l:aq},l.all A.nP=ι->XT σ n d l=δ l
 |[],_=>by simp [XT]
 |a::l,h=>by simp only[amm,eF]at h;simp [XT,PZ σ n d h.1,Pd σ n d h.2]
theorem aaR(σ:Heap)(n d:Nat){a:AV}(h:A.yl a=ι):Ya σ n d a=δ a:=by
 unfold A.yl at h;split at h
 ·cases d<;>simp [Ya,Pd σ n _ h]
 ·exact PZ σ n d h
theorem FH(σ bs:Heap){r:AV}(h:A.yl r=ι):e9 σ r (σ++bs)=δ (r,σ):=by
 unfold e9;split
 ·rfl
 ·rw[aC (by simp),aaR _ _ _ h];rfl
theorem J8(σ bs:Heap)(k:IntKind)(n:Int):e9 σ (.int k n) (σ++bs)=δ (.int k n,σ):=FH σ bs rfl
theorem QG(σ bs:Heap)(b:Bool):e9 σ (.bool b) (σ++bs)=δ (.bool b,σ):=FH σ bs rfl
theorem Rq(σ bs:Heap)(s:ByteArray):e9 σ (.str s) (σ++bs)=δ (.str s,σ):=FH σ bs rfl
theorem QH(σ bs:Heap):e9 σ (.aN []) (σ++bs)=δ (.aN [],σ):=FH σ bs rfl
theorem G6(σ bs:Heap)(j:Nat):(σ++bs)[σ.length+j]? =bs[j]? :=by rw[iH (by omega)];congr 1;omega
theorem AT(σ bs:Heap):(σ++bs)[σ.length]? =bs[0]? :=by rw[iH (bJ _),ama]
theorem qg(σ bs:Heap)(j:Nat)(b:aM):(σ++bs).set (σ.length+j) b=σ++bs.set j b:=by rw[xQ _ _ (by omega)];congr 2;omega
theorem KV(σ bs:Heap)(b:aM):(σ++bs).set σ.length b=σ++bs.set 0 b:=by rw[xQ _ _ (bJ _),ama]
section
variable {α : Type} (sz : Nat) (c : α -> aq) (l : List α)
theorem dh:WJ (sl sz c l)=δ (.ah l.length):=by simp [sl,WJ]
theorem nG{k:Nat}{x:α}(h:l[k]? =δ x):EY sz (sl sz c l) (.ah (k:Int))=δ (.rp (c x)):=by have hk:k<l.length:=(bB.1 h).1;have hx:l[k]=x:=(bB.1 h).2;simp [EY,sl,A.idx,hk,hx]
theorem Z1{i:Int}{x:α}(h0:0<=i)(h:l[i.toNat]? =δ x):EY sz (sl sz c l) (.ah i)=δ (.rp (c x)):=by have:=nG sz c l h;rwa[Int.toNat_of_nonneg h0]at this
end
inductive Rd (S R : Type) where
 |go(s:S)
 |out(r:R)
def Rd.el{S R γ:Type}(x:Rd S R)(f:S->γ)(g:R->γ):γ:=match x with|.go s=>f s|.out r=>g r
theorem we{S R γ:Type}(s:S)(f:S->γ)(g:R->γ):(Rd.go s:Rd S R).el f g=f s:=rfl
theorem vX{S R γ:Type}(r:R)(f:S->γ)(g:R->γ):(Rd.out r:Rd S R).el f g=g r:=rfl
theorem AE{S R γ:Type}{p:Prop}[Decidable p](x y:Rd S R)(f:S->γ)(g:R->γ):(if p then x else y).el f g=if p then x.el f g else y.el f g:=by split<;>rfl
def iC{α S R:Type}(body:List α->α->S->Rd S R):List α->List α->S->Rd S R
 |_,[],s=>.go s
 |pre,x::l,s=>match body pre x s with|.go s'=>iC body (pre++[x]) l s'|.out r=>.out r
theorem ak7{f:aq->Heap->Option (AX×aq×Heap)}{v:aq}{σ:Heap}:∀{n m:Nat}{r r':AX×aq×Heap},XX f n v σ=δ r->XX f m v σ=δ r'->r=r':=by
 intro n;induction n generalizing v σ with
 |zero=>intro m r r' h;cases h
 |succ n ih=>
  intro m r r' h1 h2;cases m with
  |zero=>cases h2
  |succ m=>
   simp only[XX]at h1 h2;cases hf:f v σ with
   |none=>rw[hf]at h1;cases h1
   |some q=>
    rw[hf]at h1 h2;simp only[aL]at h1 h2;obtain⟨e,v',σ'⟩:=q;cases e with
    |normal=>exact ih h1 h2
    |exit i=>simp only at h1 h2;rw[h1]at h2;injection h2
    |ret=>simp only at h1 h2;rw[h1]at h2;injection h2
theorem BN{f:aq->Heap->Option (AX×aq×Heap)}{v:aq}{σ:Heap}{n:Nat}{r:AX×aq×Heap}(h:XX f n v σ=δ r):s9 f v σ=δ r:=by
 have hex:∃n r,XX f n v σ=δ r:=⟨n,r,h⟩
 unfold s9;rw[dif_pos hex];exact congrArg δ (ak7 (Yl (Yl hex)) h)
theorem Fk{f:aq->Heap->Option (AX×aq×Heap)}{v v':aq}{σ σ':Heap}{r:AX×aq×Heap}(h:f v σ=δ (.normal,v',σ'))(k:∃n,XX f n v' σ'=δ r):∃n,XX f n v σ=δ r:=by obtain⟨n,k⟩:=k;exact⟨n+1,by simp [XX,h,k]⟩
theorem um{f:aq->Heap->Option (AX×aq×Heap)}{v:aq}{σ:Heap}{r:AX×aq×Heap}(h:f v σ=δ r)(hr:r.1≠.normal):∃n,XX f n v σ=δ r:=by obtain⟨e,v',σ'⟩:=r;refine⟨1,?_⟩;cases e<;>first|(simp [XX,h];done)|exact absurd rfl hr
theorem oG{α S R γ:Type}{f:aq->Heap->Option (AX×aq×Heap)}(l:List α)(body:List α->α->S->Rd S R)(st:List α->S->aq)(hp:List α->S->Heap)
  (fin:S->AX×aq×Heap) (out:List α->S->R->AX×aq×Heap) (P:List α->S->Prop) (s0:S) {k:AX×aq×Heap->Option γ} (K1:S->Option γ) (K2:R->Option γ)
  (hstep:∀pre x rest s,l=pre++x::rest->P pre s->f (st pre s) (hp pre s)=δ ((body pre x s).el (λs'=>(.normal,st (pre++[x]) s',hp (pre++[x]) s')) (λr=>out pre s r)))
  (hend:∀s,P l s->f (st l s) (hp l s)=δ (fin s)) (h0:P [] s0)
  (hP:∀pre x rest s s',l=pre++x::rest->P pre s->body pre x s=.go s'->P (pre++[x]) s')
  (hk1:∀s,P l s->k (fin s)=K1 s) (hk2:∀pre x rest s r,l=pre++x::rest->P pre s->body pre x s=.out r->k (out pre s r)=K2 r)
  (LP:∀s,(fin s).1≠.normal:=by intros;simp) (hout:∀pre s r,(out pre s r).1≠.normal:=by intros;simp) {v:aq} {σ:Heap} (hv:v=st [] s0:=by rfl) (ew:σ=hp [] s0:=by rfl):
  (s9 f v σ).bind k=(iC body [] l s0).el K1 K2:=by
 have key:∀(rest pre:List α)(s:S),l=pre++rest->P pre s->∃q,(∃n,XX f n (st pre s) (hp pre s)=δ q)/\k q=(iC body pre rest s).el K1 K2:=by
  intro rest;induction rest with
  |nil=>intro pre s hl hp';rw[X0]at hl;subst hl;exact⟨fin s,um (hend s hp') (LP s),by rw[iC,we,hk1 s hp']⟩
  |cons x rest ih=>
   intro pre s hl hp';have h:=hstep pre x rest s hl hp';rw[iC];cases hb:body pre x s with
   |go s'=>rw[hb]at h;obtain⟨q,h1,h2⟩:=ih (pre++[x]) s' (by simpa using hl) (hP pre x rest s s' hl hp' hb);exact⟨q,Fk h h1,h2⟩
   |out r=>rw[hb]at h;exact⟨out pre s r,um h (hout pre s r),by rw[vX,hk2 pre x rest s r hl hp' hb]⟩
 obtain⟨q,⟨n,h1⟩,h2⟩:=key l [] s0 rfl h0;rw[hv,ew,BN h1,aL,h2]
theorem Fc{α:Type}{body:List α->α->Unit->Rd Unit Int}{qn:List α->List α->Int}(h0:∀pre,qn pre []=0)(h:∀pre x rest,qn pre (x::rest)=(body pre x ()).el (λ_=>qn (pre++[x]) rest) (λr=>r)) {γ:Type} (K:Int->γ):
  ∀(l pre:List α),(iC body pre l ()).el (λ_=>K 0) K=K (qn pre l)
 |[],pre=>by rw[iC,h0];rfl
 |x::l,pre=>by
  rw[iC,h];cases body pre x ()with
  |go s=>exact Fc h0 h K l (pre++[x])
  |out r=>rfl
theorem oJ{α:Type}{l pre rest:List α}{x:α}(h:l=pre++x::rest):l[pre.length]? =δ x:=by rw[h];simp
theorem pP{α:Type}{l pre rest:List α}{x:α}(h:l=pre++x::rest):pre.length<l.length:=by rw[h];simp
theorem QY{α:Type}{l pre rest:List α}{x:α}(h:l=pre++x::rest)(h0:0<pre.length):∃y,pre.getLast? =δ y/\l[pre.length-1]? =δ y:=by
 cases hp:pre.getLast? with
 |none=>rw[amS]at hp;subst hp;simp at h0
 |some y=>refine⟨y,rfl,?_⟩;rw[h,fZ (by omega),<-hp,List.getLast?_eq_getElem?]
theorem Qt{γ:Type}{p:UInt8->Bool}{f:aq->Heap->Option (AX×aq×Heap)}(s:ByteArray){σ:Heap}{k:AX×aq×Heap->Option γ}(K2:Option γ)
  (hstep:∀(i:Nat)(c:UInt8),i<s.size->A.oZ (.str s) (.ah (i:Int))=δ (.int .u8 c.toNat)->f [.bool θ,.ah (i:Int)] σ=if p c=ι then δ (.normal,[.bool θ,.ah ((i:Int)+1)],σ)else δ (.ret,[.bool θ,.ah (i:Int)],σ))
  (hend:f [.bool θ,.ah (s.size:Int)] σ=δ (.exit 0,[.bool θ,.ah (s.size:Int)],σ)) (hk2:∀i:Int,k (.ret,[.bool θ,.ah i],σ)=K2):
  (s9 f [.bool θ,.ah 0] σ).bind k=if s.data.toList.all p=ι then k (.exit 0,[.bool θ,.ah (s.size:Int)],σ)else K2:=by
 have hsz:s.data.toList.length=s.size:=rfl
 refine(oG (S:=Unit) (R:=Unit) s.data.toList (λ_ c _=>if p c=ι then .go ()else .out ()) (λpre _=>[.bool θ,.ah (pre.length:Int)]) (λ_ _=>σ) (λ_=>(.exit 0,[.bool θ,.ah (s.size:Int)],σ)) (λpre _ _=>(.ret,[.bool θ,.ah (pre.length:Int)],σ)) (λ_ _=>True) ()
  (λ_=>k (.exit 0,[.bool θ,.ah (s.size:Int)],σ)) (λ_=>K2) ?_ ?_ trivial (λ_ _ _ _ _ _ _ _=>trivial) (λ_ _=>rfl) (λ_ _ _ _ _ _ _ _=>hk2 _)).trans ?_
 ·intro pre c rest u hl _;have hlt:=pP hl;have hc:=oJ hl;rw[hsz]at hlt
  have hsi:A.oZ (.str s) (.ah (pre.length:Int))=δ (.int .u8 c.toNat):=by have h2:s[pre.length]=c:=(bB.1 hc).2;simp [A.oZ,A.idx,hlt,h2]
  rw[hstep pre.length c hlt hsi];cases p c<;>simp [Rd.el]
 ·intro u _;rw[hsz];exact hend
 ·have key:∀(l pre:List UInt8),(iC (λ(_:List UInt8)c(_:Unit)=>if p c=ι then(Rd.go ():Rd Unit Unit)else .out ()) pre l ()).el (λ_=>k (.exit 0,[.bool θ,.ah (s.size:Int)],σ)) (λ_=>K2)=if l.all p=ι then k (.exit 0,[.bool θ,.ah (s.size:Int)],σ)else K2:=by
   intro l;induction l with
   |nil=>intro pre;simp [iC,Rd.el]
   |cons c l ih=>
    intro pre;rw[iC];cases hc:p c
    ·simp [hc,Rd.el]
    ·simp only[if_true];rw[ih];simp [hc]
  exact key s.data.toList []
section
variable {α : Type} (g : α -> ByteArray) (gi : α -> Int) (v : α -> AV)
theorem Sw(k:ByteArray):∀(l:List α),ZD .z (.str k) (l.map λx=>(u5 (g x),v x))=δ ((l.find? λx=>decide (k=g x)).map v)
 |[]=>rfl
 |x::l=>by
  simp only[bU,ZD,YB,A.oc,aL,XB];by_cases h:k=g x
  ·rw[bq];simp [h]
  ·rw[bq];simp [h,Sw k l]
theorem Sv(kk:IntKind)(k:Int):∀(l:List α),ZD .i (.int kk k) (l.map λx=>(amf kk (gi x),v x))=δ ((l.find? λx=>decide (k=gi x)).map v)
 |[]=>rfl
 |x::l=>by
  simp only[bU,ZD,YB,A.lz,if_true,aL,XB];by_cases h:k=gi x
  ·have:(k==gi x)=ι:=by simpa using h
   simp [this,h]
  ·have:(k==gi x)=θ:=by simpa using h
   simp [this,h,Sv kk k l]
theorem Le{k:ByteArray}{w:AV}:∀{l:List α},(∀x∈l,g x≠k)->A.upd .z (.str k) w (l.map λx=>(u5 (g x),v x))=δ ((l.map λx=>(u5 (g x),v x))++[(.str k,w)])
 |[],_=>rfl
 |x::l,h=>by
  have h1:(k==g x)=θ:=by rw[bq];exact ia λe:k=g x=>h x (by simp) e.symm
  simp only[bU,A.upd,YB,A.oc,aL,h1,aS];rw[Le (λy hy=>h y (by simp [hy]))];rfl
theorem Ld{kk:IntKind}{k:Int}{w:AV}:∀{l:List α},(∀x∈l,gi x≠k)->A.upd .i (.int kk k) w (l.map λx=>(amf kk (gi x),v x))=δ ((l.map λx=>(amf kk (gi x),v x))++[(.int kk k,w)])
 |[],_=>rfl
 |x::l,h=>by
  have h1:(k==gi x)=θ:=by simpa using λe:k=gi x=>h x (by simp) e.symm
  simp only[bU,A.upd,YB,A.lz,if_true,aL,h1,aS];rw[Ld (λy hy=>h y (by simp [hy]))];rfl
end
theorem xE(e:A.EK){k z:AV}{σ:Heap}{id:Nat}{es:List (AV×AV)}(hk:A.eY e k=ι)(h:σ[id]? =δ (.map es)):Z8 e (.om id) k z σ=(ZD e k es).map λr=>r.getD z:=by simp [Z8,hk,W9,h]
theorem Cm(e:A.EK){k w:AV}{σ:Heap}{id:Nat}{es:List (AV×AV)}(hk:A.eY e k=ι)(h:σ[id]? =δ (.map es)):Z9 e (.om id) k w σ=(A.upd e k w es).map λes=>σ.set id (.map es):=by simp [Z9,hk,h]
theorem QT{α:Type}(l:List α)(x:α):(((l++[x]).length:Nat):Int)=(l.length:Int)+1:=by simp
theorem Pe{α:Type}(sz:Nat)(c:α->aq)(l:List α){k:Nat}{x:α}(h0:0<k)(h:l[k-1]? =δ x):EY sz (sl sz c l) (.ah ((k:Int) -1))=δ (.rp (c x)):=by have:=nG sz c l h;rwa[show((k-1:Nat):Int)=(k:Int) -1 by omega]at this
def jc{α:Type}(g:α->ByteArray)(l:List α):List (AV×AV):=l.map λx=>(u5 (g x),φ ι)
def mO{α:Type}(g:α->Int)(l:List α):List (AV×AV):=l.map λx=>(ε (g x),φ ι)
theorem JK{α:Type}(p:α->Bool):∀(l:List α),((l.find? p).map λ_=>φ ι).getD aZ=φ (l.any p)
 |[]=>rfl
 |x::l=>by
  simp only[XB,amZ];cases h:p x
  ·simpa using JK p l
  ·rfl
theorem Qj{α:Type}(g:α->ByteArray)(k:ByteArray)(l:List α):(ZD .z (.str k) (jc g l)).map (λr=>r.getD (.bool θ))=δ (.bool (gy k (l.map g))):=by unfold jc;rw[Sw g (λ_=>φ ι) k l,dL,JK];refine congrArg δ (congrArg φ ?_);rw[nS,JQ];simp only[alW,decide_eq_true_eq,fK];exact⟨λ⟨x,h,e⟩=>⟨x,h,e.symm⟩,λ⟨x,h,e⟩=>⟨x,h,e.symm⟩⟩
theorem Qf{α:Type}(g:α->Int)(k:Int)(l:List α):(ZD .i (.ah k) (mO g l)).map (λr=>r.getD (.bool θ))=δ (.bool (gy k (l.map g))):=by unfold mO;rw[Sv g (λ_=>φ ι) Ξ k l,dL,JK];refine congrArg δ (congrArg φ ?_);rw[nS,JQ];simp only[alW,decide_eq_true_eq,fK];exact⟨λ⟨x,h,e⟩=>⟨x,h,e.symm⟩,λ⟨x,h,e⟩=>⟨x,h,e.symm⟩⟩
section
variable {α : Type} (g : α -> ByteArray) (gi : α -> Int) (l : List α) (k : ByteArray) (n : Int) (σ bs : Heap) (b0 : aM)
theorem Pz:Z8 .z (.om σ.length) (.str k) (.bool θ) (σ++j0 (jc g l)::bs)=δ (.bool (gy k (l.map g))):=by rw[xE .z rfl (by rw[AT];rfl),Qj]
theorem Px:Z8 .i (.om σ.length) (.ah n) (.bool θ) (σ++j0 (mO gi l)::bs)=δ (.bool (gy n (l.map gi))):=by rw[xE .i rfl (by rw[AT];rfl),Qf]
theorem PA:Z8 .z (.om (σ.length+1)) (.str k) (.bool θ) (σ++b0::j0 (jc g l)::bs)=δ (.bool (gy k (l.map g))):=by rw[xE .z rfl (by rw[G6];rfl),Qj]
theorem Py:Z8 .i (.om (σ.length+1)) (.ah n) (.bool θ) (σ++b0::j0 (mO gi l)::bs)=δ (.bool (gy n (l.map gi))):=by rw[xE .i rfl (by rw[G6];rfl),Qf]
theorem Ql(h:gy k (l.map g)=θ):Z9 .z (.om σ.length) (.str k) (.bool ι) (σ++j0 (jc g l)::bs)=δ (σ++j0 (jc g l++[(.str k,.bool ι)])::bs):=by rw[Cm .z rfl (by rw[AT];rfl),jc,Le g _ (λx hx e=>E9.1 h (by rw[<-e];exact al6 hx)),dL,KV];rfl
theorem Qh(h:gy n (l.map gi)=θ):Z9 .i (.om σ.length) (.ah n) (.bool ι) (σ++j0 (mO gi l)::bs)=δ (σ++j0 (mO gi l++[(.ah n,.bool ι)])::bs):=by rw[Cm .i rfl (by rw[AT];rfl),mO,Ld gi _ (λx hx e=>E9.1 h (by rw[<-e];exact al6 hx)),dL,KV];rfl
theorem Qm(h:gy k (l.map g)=θ):Z9 .z (.om (σ.length+1)) (.str k) (.bool ι) (σ++b0::j0 (jc g l)::bs)=δ (σ++b0::j0 (jc g l++[(.str k,.bool ι)])::bs):=by rw[Cm .z rfl (by rw[G6];rfl),jc,Le g _ (λx hx e=>E9.1 h (by rw[<-e];exact al6 hx)),dL,qg];rfl
theorem Qi(h:gy n (l.map gi)=θ):Z9 .i (.om (σ.length+1)) (.ah n) (.bool ι) (σ++b0::j0 (mO gi l)::bs)=δ (σ++b0::j0 (mO gi l++[(.ah n,.bool ι)])::bs):=by rw[Cm .i rfl (by rw[G6];rfl),mO,Ld gi _ (λx hx e=>E9.1 h (by rw[<-e];exact al6 hx)),dL,qg];rfl
end
theorem Qk{α:Type}(g:α->ByteArray)(l:List α)(x:α):jc g (l++[x])=jc g l++[(.str (g x),.bool ι)]:=by simp [jc]
theorem Jk(σ:Heap)(v:AV):Wd (δ (v,σ)) σ=δ v:=by simp [Wd]
def Fz(a:AV):Prop:=∀σ n d,Ya σ n d a=δ a
def nY(l:aq):Prop:=∀σ n d,XT σ n d l=δ l
theorem pM(k:IntKind)(n:Int):Fz (.int k n):=λ_ _ d=>by cases d<;>simp [Ya]
theorem FX(b:Bool):Fz (.bool b):=λ_ _ d=>by cases d<;>simp [Ya]
theorem SC(s:ByteArray):Fz (.str s):=λ_ _ d=>by cases d<;>simp [Ya]
theorem ac7:Fz .aH:=λ_ _ d=>by cases d<;>simp [Ya]
theorem SB{l:aq}(h:nY l):Fz (.agg l):=λσ n d=>by cases d<;>simp [Ya,h σ n]
theorem FW:nY []:=λ_ _ _=>by simp [XT]
theorem vP{a:AV}{l:aq}(h:Fz a)(k:nY l):nY (a::l):=λσ n d=>by simp [XT,h σ n d,k σ n d]
theorem Ts{α:Type}{sz:Nat}{c:α->aq}(h:∀x,nY (c x))(l:List α):Fz (sl sz c l):=by
 intro σ n d
 have:A.iA σ n d (l.map c)=δ (l.map c):=by
  induction l with
  |nil=>simp [A.iA]
  |cons x l ih=>simp [A.iA,h x σ n d,ih]
 cases d<;>simp [sl,Ya,this]
theorem LC{α:Type}{c:α->aq}(h:∀x,nY (c x))(l:List α)(σ:Heap)(n d:Nat):A.iA σ n d (l.map c)=δ (l.map c):=by
 induction l with
 |nil=>simp [A.iA]
 |cons x l ih=>simp [A.iA,h x σ n d,ih]
def qP{α:Type}(id sz:Nat)(l:List α):AV:=if l=[]then .aH else .os id l.length sz 0 l.length
def nX{α:Type}(sz:Nat)(c:α->aq)(l:List α):Heap:=if l=[]then[]else[.arr l.length sz (l.map c)]
theorem aa7{α:Type}(sz:Nat)(c:α->aq):nX sz c []=[]:=rfl
theorem Zn{α:Type}{sz most:Nat}(c:α->aq)(l:List α)(x:α)(σ:Heap)(h:l.length+1<=most):wh sz most (qP σ.length sz l) (.sl sz [c x]) (σ++nX sz c l)=δ (qP σ.length sz (l++[x]),σ++nX sz c (l++[x])):=by
 unfold qP nX;cases l with
 |nil=>
  have h1:1<=most:=by simpa using h
  simp [wh,A.kM,WZ,h1]
 |cons y l=>
  have h1:l.length+1+1<=most:=by simpa using h
  simp [wh,A.kM,WZ,h1,AT,KV,iV,lW]
theorem acm{α:Type}{sz:Nat}{c:α->aq}(hc:∀x,nY (c x))(l:List α)(σ:Heap)(d:Nat):Ya (σ++nX sz c l) σ.length (d+1) (qP σ.length sz l)=δ (if l=[]then .aH else sl sz c l):=by
 unfold qP nX;split
 ·simp [Ya]
 ·rename_i hl;simp only[Ya,Nat.lt_irrefl,if_false,AT,Xw];rw[aC (by simp)];have e:(List.take l.length (List.drop 0 (l.map c)))=l.map c:=by simp [lW]
  rw[e,Aj,LC hc];rfl
theorem aaP{α:Type}{sz:Nat}{c:α->aq}(hc:∀x,nY (c x))(l:List α)(k:IntKind)(n:Int)(σ:Heap):e9 σ (.aN [qP σ.length sz l,.int k n]) (σ++nX sz c l)=δ (.aN [if l=[]then .aH else sl sz c l,.int k n],σ):=by
 unfold e9;split
 ·rename_i h;have:nX sz c l=[]:=by simpa using h
  have hl:l=[]:=by
   unfold nX at this;split at this
   ·assumption
   ·cases this
  subst hl;rfl
 ·rw[aC (by simp)]
  have:Ya (σ++nX sz c l) σ.length 8 (.aN [qP σ.length sz l,.int k n])=δ (.aN [if l=[]then .aH else sl sz c l,.int k n]):=by simp only[Ya,XT,acm hc,pM k n _ _ _,aL,dL]
  rw[this];rfl
theorem ads{α:Type}(sz:Nat)(c:α->aq)(l:List α):XM (.s sz) (if l=[]then .aH else sl sz c l)=sl sz c l:=by
 split
 ·rename_i h;subst h;rfl
 ·rfl
def mg{α:Type}(p:α->Bool)(l:List α):Int:=match l.findIdx? p with|some i=>i|none=>-1
theorem BY{α:Type}(p:α->Bool)(l:List α):(mg p l=-1/\(∀x∈l,p x=θ)/\l.find? p=η)\/∃(k:Nat)(x:α),l[k]? =δ x/\p x=ι/\mg p l=k/\l.find? p=δ x/\∀(j:Nat)(y:α),j<k->l[j]? =δ y->p y=θ:=by
 induction l with
 |nil=>left;exact⟨rfl,by simp,rfl⟩
 |cons x l ih=>
  cases h:p x
  ·rcases ih with⟨h1,h2,h3⟩|⟨k,y,h1,h2,h3,h4,h5⟩
   ·left;refine⟨?_,?_,?_⟩
    ·unfold mg at h1 ⊢;rw[amj,h];cases hf:l.findIdx? p with
     |none=>simp
     |some i=>rw[hf]at h1;simp at h1
    ·intro y hy;rcases eo.1 hy with rfl|hy
     ·exact h
     ·exact h2 y hy
    ·simp [XB,h,h3]
   ·right;refine⟨k+1,y,by simpa using h1,h2,?_,by simp [XB,h,h4],?_⟩
    ·unfold mg at h3 ⊢;rw[amj,h];cases hf:l.findIdx? p with
     |none=>rw[hf]at h3;simp at h3
     |some i=>rw[hf]at h3;simp at h3 ⊢;omega
    ·intro j z hj hz;cases j with
     |zero=>simp at hz;subst hz;exact h
     |succ j=>exact h5 j z (by omega) (by simpa using hz)
  ·right;refine⟨0,x,rfl,h,?_,by simp [XB,h],by intro j y hj;omega⟩;unfold mg;rw[amj,h];rfl
theorem Cc{α:Type}{γ:Type}(p:α->Bool)(K1:Option γ)(K2:Int->Option γ):∀(l pre:List α),(∀x∈pre,p x=θ)->(iC (λpre x(_:Unit)=>if p x=ι then(Rd.out (pre.length:Int):Rd Unit Int)else .go ()) pre l ()).el (λ_=>K1) K2=if mg p (pre++l)=-1 then K1 else K2 (mg p (pre++l))
 |[],pre,h=>by
  have:mg p (pre++[])=-1:=by
   rcases BY p (pre++[])with h1|⟨k,x,h1,h2,_⟩
   ·exact h1.1
   ·have:=h x (by have:=bR h1;simpa using this);rw[h2]at this;cases this
  rw[iC,we,aC this]
 |x::l,pre,h=>by
  rw[iC];cases hx:p x
  ·simp only[X6,if_false]
   have:=Cc p K1 K2 l (pre++[x]) (λy hy=>by
    rcases eG.1 hy with hy|hy
    ·exact h y hy
    ·simp at hy;subst hy;exact hx)
   simpa using this
  ·simp only[if_true,vX]
   have:mg p (pre++x::l)=pre.length:=by
    rcases BY p (pre++x::l)with h1|⟨k,y,h1,h2,h3,_,h5⟩
    ·have:=h1.2.1 x (by simp);rw[hx]at this;cases this
    ·rw[h3];rcases Nat.lt_trichotomy k pre.length with hk|hk|hk
     ·rw[fZ hk]at h1;have:=h y (bR h1);rw[h2]at this;cases this
     ·omega
     ·have:=h5 pre.length x hk (by simp);rw[hx]at this;cases this
   rw[this,aB (by omega)]
theorem YP{α:Type}(sz:Nat)(c:α->aq)(l:List α){k:Nat}(h:k<=l.length){σ:Heap}:A.gD sz (sl sz c l) η (δ (.ah (k:Int))) σ=δ (sl sz c (l.take k)):=by simp [A.gD,sl,Wf,h,al4]
theorem Qg(l:List Int)(n:Int):mO id l++[(.ah n,.bool ι)]=mO id (l++[n]):=by simp [mO]
theorem akO{κ:Type}[DecidableEq κ](k x:κ)(S:List κ):gy k (S++[x])=(gy k S||decide (x=k)):=by simp [gy]
theorem agd{α:Type}{sz:Nat}{c:α->aq}{sh:List Sh}(h:∀x,Z3 sh (c x)=c x)(l:List α):XM (.e sz sh) (sl sz c l)=sl sz c l:=by simp only[sl,XM,Y3];congr 1;exact Wk λx _=>h x
theorem aaW{α:Type}(sz:Nat)(c:α->aq){l:List α}{k:Nat}{x:α}(h:l[k]? =δ x):EY sz (sl sz c l) (.ah (k:Int))=δ (.rp (c x))/\(k:Int)<(l.length:Int)/\(l.length<=bD->Ξ.wrap ((k:Int)+1)=(k:Int)+1):=
 ⟨nG sz c l h,by have:=(bB.1 h).1;omega,λhl=>dY (by have:=(bB.1 h).1;unfold bA;unfold bD at hl;omega)⟩
theorem Z6{α γ:Type}{f:aq->Heap->Option (AX×aq×Heap)}(l:List α)(p:α->Bool)(vs:Nat->aq)(σ:Heap)(fin:AX×aq×Heap)(ret:Nat->α->AX×aq×Heap){k:AX×aq×Heap->Option γ}(K1:Option γ)(K2:α->Option γ)
  (hstep:∀(i:Nat)(x:α),l[i]? =δ x->f (vs i) σ=if p x=ι then δ (ret i x)else δ (.normal,vs (i+1),σ)) (hend:f (vs l.length) σ=δ fin) (hk1:k fin=K1) (hk2:∀i x,k (ret i x)=K2 x)
  (LP:fin.1≠.normal:=by simp) (af2:∀i x,(ret i x).1≠.normal:=by intros;simp) {v:aq} {σ':Heap} (hv:v=vs 0:=by rfl) (ew:σ'=σ:=by rfl):
  (s9 f v σ').bind k=(l.find? p).elim K1 K2:=by
 subst hv ew
 have run:∀(l pre:List α),(iC (λ_ x(_:Unit)=>if p x=ι then(Rd.out x:Rd Unit α)else .go ()) pre l ()).el (λ_=>K1) K2=(l.find? p).elim K1 K2:=by
  intro l;induction l with
  |nil=>intro pre;rfl
  |cons x l ih=>
   intro pre;rw[iC];cases h:p x
   ·simp only[X6,if_false];rw[ih,List.find?_cons,h]
   ·simp [h,Rd.el]
 refine(oG (S:=Unit) (R:=α) l (λ_ x _=>if p x=ι then .out x else .go ()) (λpre _=>vs pre.length) (λ_ _=>σ') (λ_=>fin) (λpre _ x=>ret pre.length x) (λ_ _=>True) () (λ_=>K1) K2
  ?_ (λ_ _=>hend) trivial (λ_ _ _ _ _ _ _ _=>trivial) (λ_ _=>hk1) (λ_ _ _ _ _ _ _ _=>hk2 _ _) (λ_=>LP) (λ_ _ _=>af2 _ _)).trans (run l [])
 intro pre x rest u hl _;rw[hstep pre.length x (oJ hl)];cases p x<;>simp [Rd.el]
theorem Cb{α:Type}(n:Int)(B:AV->Option α)(s:Option α):((p9 (.ah n) (.ah n)).bind λx=>χ x (B x) s)=s:=by simp only[qc,YK,aL,decide_false,cF]
section
variable {α β : Type}
theorem ZQ{c c':AV}(h:c=c')(t e:Option α):χ c t e=χ c' t e:=by rw[h]
theorem akB{c c':AV}(h:c=c')(w:Bool)(e d:Option α):μ c w e d=μ c' w e d:=by rw[h]
theorem aj3{x y:Option α}(h:x=y)(f:α->Option β):x.bind f=y.bind f:=by rw[h]
attribute [congr] ZQ akB aj3
end
theorem aQ:type_of% @aL.{0,0}/\type_of% @dL.{0,0}/\type_of% @cT/\type_of% @cF/\type_of% @Vd/\type_of% @Vc/\type_of% @Va/\type_of% @U9/\type_of% @gN/\type_of% @pT/\type_of% @pF/\type_of% @bg.{1}/\type_of% @aS.{1}/\type_of% @xN/\type_of% @xT/\type_of% @AP/\type_of% @TO/\type_of% @qc/\type_of% @CI/\type_of% @Lj/\type_of% @TN/\type_of% @Th/\type_of% @Tg/\type_of% @Te/\type_of% @Td/\type_of% @cv/\type_of% @fW/\type_of% @Li/\type_of% @Lk/\type_of% @Ll/\type_of% @Ti/\type_of% @wK/\type_of% @S9/\type_of% @Ta/\type_of% @Tb/\type_of% @Tc/\type_of% @UZ/\type_of% @U0/\type_of% @Tf/\type_of% @UX/\type_of% @UW/\type_of% @UY/\type_of% @TM/\type_of% @NK/\type_of% @Vf/\type_of% @Vg/\type_of% @Vh/\type_of% @Vi/\type_of% @Vj/\type_of% @Vk/\type_of% @Vl/\type_of% @Vm/\type_of% @Vn/\type_of% @cq/\type_of% @J8/\type_of% @QG/\type_of% @Rq/\type_of% @QH/\type_of% @dh/\type_of% @ite_true.{1}/\type_of% @ite_false.{1}/\type_of% @if_true.{1}/\type_of% @if_false.{1}/\type_of% @X6/\type_of% @not_true_eq_false/\type_of% @not_false_eq_true/\type_of% @decide_true/\type_of% @decide_false/\type_of% @Wq/\type_of% @Bool.not_false/\type_of% @nR.{0}/\type_of% @iI.{0}/\type_of% @Xk.{0}/\type_of% @Xm.{0}/\type_of% @oI/\type_of% @RV/\type_of% @QT/\type_of% @Int.natCast_add/\type_of% @Int.cast_ofNat_Int/\type_of% @Jk/\type_of% @we/\type_of% @vX/\type_of% @AE/\type_of% @Pz/\type_of% @Px/\type_of% @PA/\type_of% @Py/\type_of% @Qk/\type_of% @Ql/\type_of% @Qh/\type_of% @Qm/\type_of% @Qi/\type_of% @true_and/\type_of% @and_true/\type_of% @false_and/\type_of% @and_false/\type_of% @true_or/\type_of% @or_true/\type_of% @false_or/\type_of% @or_false/\type_of% @Y6.{0}/\type_of% @Xn.{0}/\type_of% @Λ.{0}/\type_of% @b9.{0}/\type_of% @Zk.{0}/\type_of% @Gs/\type_of% @Nat.add_zero:=
 ⟨@aL.{0,0},@dL.{0,0},@cT,@cF,@Vd,@Vc,@Va,@U9,@gN,@pT,@pF,@bg.{1},@aS.{1},@xN,@xT,@AP,@TO,@qc,@CI,@Lj,@TN,@Th,@Tg,@Te,@Td,@cv,@fW,@Li,@Lk,@Ll,@Ti,@wK,@S9,@Ta,@Tb,@Tc,@UZ,@U0,@Tf,@UX,@UW,@UY,@TM,@NK,@Vf,@Vg,@Vh,@Vi,@Vj,@Vk,@Vl,@Vm,@Vn,@cq,@J8,@QG,@Rq,@QH,@dh,@ite_true.{1},@ite_false.{1},@if_true.{1},@if_false.{1},@X6,@not_true_eq_false,@not_false_eq_true,@decide_true,@decide_false,@Wq,@Bool.not_false,@nR.{0},@iI.{0},@Xk.{0},@Xm.{0},@oI,@RV,@QT,@Int.natCast_add,@Int.cast_ofNat_Int,@Jk,@we,@vX,@AE,@Pz,@Px,@PA,@Py,@Qk,@Ql,@Qh,@Qm,@Qi,@true_and,@and_true,@false_and,@and_false,@true_or,@or_true,@false_or,@or_false,@Y6.{0},@Xn.{0},@Λ.{0},@b9.{0},@Zk.{0},@Gs,@Nat.add_zero⟩
end
theorem pK(n:Int):nY (aO n):=vP (pM _ _) FW
theorem aaS(x:dZ):nY (dJ x):=(vP (pM _ _) (vP (SC _) (vP (pM _ _) (vP (pM _ _) FW))))
theorem Rx(x:cK):nY (eC x):=(vP (pM _ _) (vP (SC _) FW))
instance : Inhabited ByteArray := ⟨⟨#[]⟩⟩
instance : Inhabited Sk := ⟨⟨0, 0⟩⟩
instance : Inhabited Kk := ⟨⟨0, []⟩⟩
instance : Inhabited S6 := ⟨⟨0, 0, 0, 0, 0, ⟨0, []⟩⟩⟩
instance : Inhabited abw := ⟨⟨0, 0⟩⟩
instance : Inhabited mF := ⟨⟨0, 0, ⟨#[]⟩⟩⟩
instance : Inhabited gY := ⟨⟨⟨#[]⟩, 0, 0, 0, 0, θ, []⟩⟩
instance : Inhabited cO := ⟨⟨⟨#[]⟩, 0, []⟩⟩
instance : Inhabited dZ := ⟨⟨0, ⟨#[]⟩, 0, 0⟩⟩
instance : Inhabited cS := ⟨⟨[], []⟩⟩
instance : Inhabited cK := ⟨⟨0, ⟨#[]⟩⟩⟩
theorem Ro(a b:cK):YB (.s [0,2]) (.agg (eC a)) (.agg (eC b))=δ (decide (a=b)):=by obtain⟨x1,x2⟩:=a;obtain⟨x101,x102⟩:=b;simp only[YB,eC,Yu,A.kC,A.lz,A.tO,A.oc,if_true,aL,dL,bq];congr 1;rw[nS];simp [and_assoc]
instance : Inhabited pJ := ⟨⟨⟨0, ⟨#[]⟩⟩, 0⟩⟩
instance : Inhabited eE := ⟨⟨0, ⟨#[]⟩, []⟩⟩
instance : Inhabited aew := ⟨⟨[], 0, 0⟩⟩
instance : Inhabited Kl := ⟨⟨0, 0⟩⟩
instance : Inhabited Ge := ⟨⟨⟨0, ⟨#[]⟩⟩, ⟨0, 0⟩, θ, θ, 0, 0⟩⟩
instance : Inhabited uH := ⟨⟨0, ⟨#[]⟩, 0, 0, 0, 0, ⟨0, []⟩, θ, 0, []⟩⟩
instance : Inhabited acM := ⟨⟨⟨0, ⟨#[]⟩⟩, ⟨0, 0⟩, 0⟩⟩
instance : Inhabited adP := ⟨⟨0, 0, 0⟩⟩
instance : Inhabited S7 := ⟨⟨0, []⟩⟩
instance : Inhabited PI := ⟨⟨0, 0, 0⟩⟩
instance : Inhabited acP := ⟨⟨⟨[], []⟩, [], [], []⟩⟩
instance : Inhabited Rc := ⟨⟨0, 0, 0, 0, 0⟩⟩
instance : Inhabited acN := ⟨⟨0, ⟨0, 0, 0, 0, 0⟩⟩⟩
instance : Inhabited acQ := ⟨⟨0, 0, 0, 0⟩⟩
instance : Inhabited TL := ⟨⟨⟨0, ⟨#[]⟩⟩, ⟨0, 0, 0, 0, 0, ⟨0, []⟩⟩, 0, θ⟩⟩
instance : Inhabited ZI := ⟨⟨0, 0, 0, θ, 0, []⟩⟩
instance : Inhabited OL := ⟨⟨0, 0, 0⟩⟩
instance : Inhabited Re := ⟨⟨0, 0, 0, 0, 0, 0, θ, θ, []⟩⟩
instance : Inhabited S8 := ⟨⟨0, 0⟩⟩
instance : Inhabited aay := ⟨⟨⟨0, 0, 0, 0, 0, 0, θ, θ, []⟩, [], 0, [], 0, 0, 0⟩⟩
section
def Rf{β τ:Type}(M:Option β)(T:Option τ)(Q:τ->β->Prop):Prop:=∀t,T=δ t->∃b,M=δ b/\Q t b
section
variable {α β ω τ ζ : Type}
theorem au{M0:Option α}{K:α->Option β}{T:Option τ}{Q:τ->β->Prop}(a:α)(h:M0=δ a)(k:Rf (K a) T Q):Rf (M0.bind K) T Q:=by intro t ht;obtain⟨b,h1,h2⟩:=k t ht;exact⟨b,by rw[h];exact h1,h2⟩
theorem cE{M0:Option α}{K:α->Option β}{o:Option ω}{K':ω->Option τ}{Q:τ->β->Prop}(e:ω->α)(h:∀t,o=δ t->M0=δ (e t))(k:∀t,o=δ t->Rf (K (e t)) (K' t) Q):Rf (M0.bind K) (o.bind K') Q:=by intro t ht;obtain⟨x,h1,h2⟩:=bl.1 ht;obtain⟨b,h3,h4⟩:=k x h1 t h2;exact⟨b,by rw[h x h1];exact h3,h4⟩
theorem jt{M0:Option α}{K:α->Option β}{o:Option ω}{K':ω->Option τ}{Q:τ->β->Prop}(Q0:ω->α->Prop)(h:Rf M0 o Q0)(k:∀t a,Q0 t a->Rf (K a) (K' t) Q):Rf (M0.bind K) (o.bind K') Q:=by intro t ht;obtain⟨x,h1,h2⟩:=bl.1 ht;obtain⟨a,h3,h4⟩:=h x h1;obtain⟨b,h5,h6⟩:=k x a h4 t h2;exact⟨b,by rw[h3];exact h5,h6⟩
theorem bz{t:τ}{b:β}{Q:τ->β->Prop}(h:Q t b):Rf (δ b) (δ t) Q:=by intro u hu;cases hu;exact⟨b,rfl,h⟩
theorem cD{M:Option β}{t:τ}{Q:τ->β->Prop}(b:β)(e:M=δ b)(h:Q t b):Rf M (δ t) Q:=by rw[e];exact bz h
theorem acw{M:Option β}{Q:τ->β->Prop}:Rf M (η:Option τ) Q:=by intro u hu;cases hu
theorem aet{M:Option β}{p:Prop}[Decidable p]{T:Option τ}{Q:τ->β->Prop}(h:p->Rf M T Q):Rf M (if p then T else η) Q:=by
 split
 ·exact h ‹_›
 ·exact acw
theorem dF{p:Prop}[Decidable p]{X Y:Option β}{X' Y':Option τ}{Q:τ->β->Prop}(h1:p->Rf X X' Q)(h2:¬p->Rf Y Y' Q):Rf (χ (.bool (decide p)) X Y) (if p then X' else Y') Q:=by
 by_cases h:p
 ·simp only[h,decide_true,if_true];exact h1 h
 ·simp only[h,decide_false,if_false];exact h2 h
theorem gR{c:Bool}{X Y:Option β}{X' Y':Option τ}{Q:τ->β->Prop}(h1:c=ι->Rf X X' Q)(h2:c=θ->Rf Y Y' Q):Rf (χ (.bool c) X Y) (if c=ι then X' else Y') Q:=by
 cases c
 ·exact h2 rfl
 ·exact h1 rfl
theorem nN{X Y:Option β}{T:Option τ}{Q:τ->β->Prop}(h:Rf X T Q):Rf (χ (.bool ι) X Y) T Q:=h
theorem nM{X Y:Option β}{T:Option τ}{Q:τ->β->Prop}(h:Rf Y T Q):Rf (χ (.bool θ) X Y) T Q:=h
theorem gH{c:Bool}{X Y:Option β}{T:Option τ}{Q:τ->β->Prop}(e:c=ι)(h:Rf X T Q):Rf (bif c then X else Y) T Q:=by rw[e];exact h
theorem qM{c:Bool}{X Y:Option β}{T:Option τ}{Q:τ->β->Prop}(e:c=θ)(h:Rf Y T Q):Rf (bif c then X else Y) T Q:=by rw[e];exact h
def gv{α:Type}(g:Bool)(e:α->AV)(t:α):AV:=bif g then e t else .aN []
end
inductive Lr (S B R : Type) where
 |go(s:S)
 |brk(b:B)
 |ret(r:R)
def oP{α S B R:Type}(body:Nat->α->S->Option (Lr S B R))(fin:S->Option B):List α->Nat->S->Option (B ⊕ R)
 |[],_,s=>(fin s).map .inl
 |x::l,i,s=>(body i x s).bind λq=>match q with|.go s'=>oP body fin l (i+1) s'|.brk b=>δ (.inl b)|.ret r=>δ (.inr r)
def iJ{α S B R γ:Type}(l:List α)(body:Nat->α->S->Option (Lr S B R))(fin:S->Option B)(s:S)(K1:B->Option γ)(K2:R->Option γ):Option γ:=
 if l.length<=bD then(oP body fin l 0 s).bind λq=>q.elim K1 K2 else η
section
variable {α S B R β τ : Type}
abbrev LS:=AX×aq×Heap
def MJ(I:S->aq->Heap->Prop)(QB:B->LS->Prop)(QR:R->LS->Prop)(t:Lr S B R)(q:LS):Prop:=match t with
 |.go s=>q.1=.normal/\I s q.2.1 q.2.2
 |.brk b=>q.1≠.normal/\QB b q
 |.ret r=>q.1≠.normal/\QR r q
theorem nK{I:S->aq->Heap->Prop}{QB:B->LS->Prop}{QR:R->LS->Prop}{s:S}{v:aq}{σ:Heap}(h:I s v σ):MJ I QB QR (.go s) (.normal,v,σ):=⟨rfl,h⟩
theorem jG{I:S->aq->Heap->Prop}{QB:B->LS->Prop}{QR:R->LS->Prop}{r:R}{q:LS}(n:q.1≠.normal)(h:QR r q):MJ I QB QR (.ret r) q:=⟨n,h⟩
theorem nJ{f:aq->Heap->Option LS}{K:LS->Option β}{Q:τ->β->Prop}{l:List α}{body:Nat->α->S->Option (Lr S B R)}{fin:S->Option B}{s0:S}{K1:B->Option τ}{K2:R->Option τ}{v0:aq}{an:Heap}
  (I:Nat->S->aq->Heap->Prop) (QB:B->LS->Prop) (QR:R->LS->Prop)
  (hstep:l.length<=bD->∀i x s v σ,l[i]? =δ x->I i s v σ->Rf (f v σ) (body i x s) (MJ (I (i+1)) QB QR))
  (hend:l.length<=bD->∀s v σ,I l.length s v σ->Rf (f v σ) (fin s) (λb q=>q.1≠.normal/\QB b q))
  (h0:I 0 s0 v0 an) (k1:l.length<=bD->∀b q,QB b q->Rf (K q) (K1 b) Q) (k2:l.length<=bD->∀r q,QR r q->Rf (K q) (K2 r) Q):
  Rf ((s9 f v0 an).bind K) (iJ l body fin s0 K1 K2) Q:=by
 unfold iJ;refine aet λhl=>?_
 have hstep:=hstep hl;have hend:=hend hl
 have key:∀(rest pre:List α)(s:S)(v:aq)(σ:Heap),l=pre++rest->I pre.length s v σ->∀t,oP body fin rest pre.length s=δ t->∃q,(∃n,XX f n v σ=δ q)/\(match t with|.inl b=>QB b q|.inr r=>QR r q):=by
  intro rest;induction rest with
  |nil=>intro pre s v σ hl hI t ht;rw[X0]at hl;subst hl;simp only[oP]at ht;obtain⟨b,hb,rfl⟩:=bX.1 ht;obtain⟨q,h1,h2,h3⟩:=hend s v σ hI b hb;exact⟨q,um h1 h2,h3⟩
  |cons x rest ih=>
   intro pre s v σ hl hI t ht;simp only[oP]at ht;obtain⟨y,hy,h2⟩:=bl.1 ht;obtain⟨q,h3,h4⟩:=hstep pre.length x s v σ (by rw[hl];simp) hI y hy;obtain⟨e,v',σ'⟩:=q;cases y with
   |go s'=>obtain⟨rfl,Na⟩:=h4;obtain⟨q,h5,h6⟩:=ih (pre++[x]) s' v' σ' (by simpa using hl) (by simpa using Na) t (by simpa using h2);exact⟨q,Fk h3 h5,h6⟩
   |brk b=>simp only[ξ]at h2;subst h2;exact⟨_,um h3 h4.1,h4.2⟩
   |ret b=>simp only[ξ]at h2;subst h2;exact⟨_,um h3 h4.1,h4.2⟩
 intro t ht;obtain⟨y,hy,h2⟩:=bl.1 ht;obtain⟨q,⟨n,hn⟩,h3⟩:=key l [] s0 v0 an rfl h0 y hy;cases y with
 |inl b=>obtain⟨z,h4,h5⟩:=k1 hl b q h3 t h2;exact⟨z,by rw[BN hn];exact h4,h5⟩
 |inr b=>obtain⟨z,h4,h5⟩:=k2 hl b q h3 t h2;exact⟨z,by rw[BN hn];exact h4,h5⟩
theorem fJ{l:List α}{i:Nat}{x:α}(h:l[i]? =δ x):p9 (.ah (i:Int)) (.ah (l.length:Int))=δ (.bool ι):=by have:=(bB.1 h).1;rw[qc];simp;omega
theorem fL(l:List α):p9 (.ah (l.length:Int)) (.ah (l.length:Int))=δ (.bool θ):=by rw[qc];simp
theorem fM{l:List α}{i:Nat}{x:α}(h:l[i]? =δ x)(hl:l.length<=bD):o7 (.ah (i:Int)) (.ah 1)=δ (.ah ((i+1:Nat):Int)):=by have:=(bB.1 h).1;rw[xT,dY (by unfold bA;unfold bD at hl;omega)];simp
def nh(l:List α)(i:Int):Option α:=if 0<=i then l[i.toNat]? else η
theorem uC{sz:Nat}{c:α->aq}{l:List α}{i:Int}{x:α}(h:nh l i=δ x):EY sz (sl sz c l) (.ah i)=δ (.rp (c x)):=by
 unfold nh at h;split at h
 ·exact Z1 sz c l ‹_› h
 ·cases h
theorem gm{sz:Nat}{c:α->aq}{l:List α}{i:Nat}{x:α}(h:l[i]? =δ x):EY sz (sl sz c l) (.ah (i:Int))=δ (.rp (c x)):=nG sz c l h
end
theorem iR{M:aG}{v:AV}{σ:Heap}(h:M=δ (v,σ)):Wd M σ=δ v:=by rw[h,Jk]
def tq {α:Type} (p:Prop) (x:α):Option α:=open Classical in if p then δ x else η
theorem rS{α:Type}{p:Prop}{x:α}(h:p):tq p x=δ x:=aC h
theorem rW{α β:Type}{p:Prop}{x r:α}{M:Option β}{e:α->β}(h:p->M=δ (e x))(k:tq p x=δ r):M=δ (e r):=by
 unfold tq at k;split at k
 ·rename_i hp;injection k with k;subst k;exact h hp
 ·cases k
theorem iG(b t:Bool):l6 (.bool b) (bif b then .bool t else .aN []) (.bool θ)=δ (.bool (b&&t)):=by cases b<;>rfl
theorem kT(b t:Bool):l6 (.bool b) (.bool ι) (bif !b then .bool t else .aN [])=δ (.bool (b||t)):=by cases b<;>rfl
section
variable {α β ω τ : Type} {G b : Bool} {M0 : Option AV} {K : AV -> Option β} {T : Option τ} {K' : ω -> Option τ} {o : Option ω} {Q : τ -> β -> Prop}
theorem dU(a:AV)(h:b=ι->M0=δ a)(k:Rf (K (bif b then a else .aN [])) T Q):Rf ((μ (.bool b) ι M0 (δ (.aN []))).bind K) T Q:=by refine au _ ?_ k;cases b<;>simp_all [μ]
theorem bT(a:AV)(h:(!b)=ι->M0=δ a)(k:Rf (K (bif !b then a else .aN [])) T Q):Rf ((μ (.bool b) θ M0 (δ (.aN []))).bind K) T Q:=by refine au _ ?_ k;cases b<;>simp_all [μ]
theorem dX(a:AV)(h:(G&&b)=ι->M0=δ a)(k:Rf (K (bif G&&b then a else .aN [])) T Q):Rf ((μ (bif G then .bool b else .aN []) ι M0 (δ (.aN []))).bind K) T Q:=by refine au _ ?_ k;cases G<;>cases b<;>simp_all [μ]
theorem aes{g:Bool}{M:Option AV}{d:ω}(e:ω->AV)(hM:M=bif g then M0 else δ (.aN []))(h:g=ι->∀t,o=δ t->M0=δ (e t))(k:∀t,(g=ι->o=δ t)->Rf (K (bif g then e t else .aN [])) (K' t) Q):Rf (M.bind K) ((if g=ι then o else δ d).bind K') Q:=by
 subst hM;cases g
 ·exact k d (by simp)
 ·intro t ht;simp only[if_true]at ht;obtain⟨x,h1,h2⟩:=bl.1 ht;obtain⟨y,h3,h4⟩:=k x (λ_=>h1) t h2;refine⟨y,?_,h4⟩;simp only[bg,h rfl x h1,aL];exact h3
theorem Ga{d:ω}(e:ω->AV)(h:b=ι->∀t,o=δ t->M0=δ (e t))(k:∀t,(b=ι->o=δ t)->Rf (K (bif b then e t else .aN [])) (K' t) Q):Rf ((μ (.bool b) ι M0 (δ (.aN []))).bind K) ((if b=ι then o else δ d).bind K') Q:=aes e (by cases b<;>rfl) h k
end
theorem xF{ro:Bool}{cm:List Sh}{dn:Sh}{r:aq->Heap->aG}{args args':aq}{σ:Heap}(hn:Z3 cm args=Z3 cm args')(h1:args.any Z2=θ)(h2:args'.any Z2=θ):Φ ro cm dn r args σ=Φ ro cm dn r args' σ:=by unfold Φ;rw[h1,h2,hn,Zg,aS,aS]
theorem R5{τ:Type}{ro:Bool}{cm:List Sh}{dn:Sh}{r:aq->Heap->aG}{args args':aq}{σ:Heap}{T:Option τ}{enc:τ->AV}(hn:Z3 cm args=args')(h:args.any Z2=θ)(e:Rf (r args' σ) T (λt b=>XM dn b.1=enc t/\b.2=σ)):∀t,T=δ t->Φ ro cm dn r args σ=δ (enc t,σ):=by intro t ht;obtain⟨⟨v,σ'⟩,h1,h2,h3⟩:=e t ht;simp only at h2 h3;subst h3;exact wrap_eq h (by rw[hn];exact h1) h2
theorem vQ{τ:Type}{ro:Bool}{cm:List Sh}{dn:Sh}{f:AV->Heap->aG}{x0 y0:AV}{σ:Heap}{T:Option τ}{enc:τ->AV}(hn:Z3 cm [x0]=[y0])(h:([x0]:aq).any Z2=θ)(e:Rf (f y0 σ) T (λt b=>XM dn b.1=enc t/\b.2=σ)):∀t,T=δ t->Φ ro cm dn (XJ f) [x0] σ=δ (enc t,σ):=R5 hn h e
theorem JS{τ:Type}{ro:Bool}{cm:List Sh}{dn:Sh}{f:AV->AV->Heap->aG}{x0 x1 y0 y1:AV}{σ:Heap}{T:Option τ}{enc:τ->AV}(hn:Z3 cm [x0,x1]=[y0,y1])(h:([x0,x1]:aq).any Z2=θ)(e:Rf (f y0 y1 σ) T (λt b=>XM dn b.1=enc t/\b.2=σ)):∀t,T=δ t->Φ ro cm dn (XQ f) [x0,x1] σ=δ (enc t,σ):=R5 hn h e
end
section
inductive Ct where
 |s(sz:Nat)(es:List aq)
 |m(es:List (AV×AV))
 |b(cs:aq)
def tI:AV->Option Nat
 |.os id _ _ _ _=>δ id
 |.om id=>δ id
 |.op id _=>δ id
 |_=>η
def Own(n:Nat)(σ:Heap)(p:AV×Ct):Prop:=match p.2 with
 |.s sz es=>(p.1=.aH/\es=[])\/∃id g off a,p.1=.os id g sz off es.length/\n<=id/\σ[id]? =δ (.arr g sz a)/\off<=a.length/\a.drop off=es
 |.m es=>∃id,p.1=.om id/\n<=id/\σ[id]? =δ (.map es)
 |.b cs=>∃id,p.1=.op id 0/\n<=id/\σ[id]? =δ (.box cs)
structure Hp (an σ : Heap) (L : List (AV × Ct)) : Prop where
 pre:∃bs,σ=an++bs
 own:∀(i:Nat)p,L[i]? =δ p->Own an.length σ p
 sep:∀(i j:Nat)p q a,L[i]? =δ p->L[j]? =δ q->tI p.1=δ a->tI q.1=δ a->i=j
section
variable {an σ σ' : Heap} {L : List (AV × Ct)} {n : Nat}
theorem adg(σ:Heap):Hp σ σ []:=⟨⟨[],by simp⟩,by simp,by simp⟩
theorem Ku{p:AV×Ct}{a:Nat}(h:Own n σ p)(e:tI p.1=δ a):n<=a/\a<σ.length:=by
 obtain⟨v,c⟩:=p;cases c with
 |s sz es=>
  rcases h with⟨h1,_⟩|⟨id,g,off,x,h1,h2,h3,_⟩
  ·simp only at h1;subst h1;cases e
  ·simp only at h1;subst h1;injection e with e;subst e;exact⟨h2,(bB.1 h3).1⟩
 |m es=>obtain⟨id,h1,h2,h3⟩:=h;simp only at h1;subst h1;injection e with e;subst e;exact⟨h2,(bB.1 h3).1⟩
 |b es=>obtain⟨id,h1,h2,h3⟩:=h;simp only at h1;subst h1;injection e with e;subst e;exact⟨h2,(bB.1 h3).1⟩
theorem QW{p:AV×Ct}(h:Own n σ p)(k:∀a,tI p.1=δ a->σ'[a]? =σ[a]?):Own n σ' p:=by
 obtain⟨v,c⟩:=p;cases c with
 |s sz es=>
  rcases h with h|⟨id,g,off,x,h1,h2,h3,h4⟩
  ·exact .inl h
  ·simp only at h1;subst h1;exact .inr ⟨id,g,off,x,rfl,h2,by rw[k id rfl];exact h3,h4⟩
 |m es=>obtain⟨id,h1,h2,h3⟩:=h;simp only at h1;subst h1;exact⟨id,rfl,h2,by rw[k id rfl];exact h3⟩
 |b es=>obtain⟨id,h1,h2,h3⟩:=h;simp only at h1;subst h1;exact⟨id,rfl,h2,by rw[k id rfl];exact h3⟩
theorem acp(h:∃bs,σ=an++bs){id:Nat}(hn:an.length<=id)(b:aM):∃bs,σ.set id b=an++bs:=by obtain⟨bs,rfl⟩:=h;exact⟨bs.set (id-an.length) b,by rw[xQ _ _ hn]⟩
theorem adh(H:Hp an σ L){k id:Nat}{h h':AV}{c c':Ct}{b:aM}(hk:L[k]? =δ (h,c))(hi:tI h=δ id)(hi':tI h'=δ id)(ho:Own an.length (σ.set id b) (h',c')):Hp an (σ.set id b) (L.set k (h',c')):=by
 have hid:=Ku (H.own k _ hk) hi;have tQ:=(bB.1 hk).1;refine⟨acp H.pre hid.1 b,λi p hp=>?_,λi j p q a hp hq e1 e2=>?_⟩
 ·rw[fO]at hp;split at hp
  ·rename_i e;subst e;simp [tQ]at hp;subst hp;exact ho
  ·rename_i e;refine QW (H.own i p hp) λa ha=>?_
   rw[fO];split
   ·rename_i e';subst e';exact absurd (H.sep k i _ _ id hk hp hi ha) e
   ·rfl
 ·have key:∀(i:Nat)(p:AV×Ct),(L.set k (h',c'))[i]? =δ p->tI p.1=δ a->∃p',L[i]? =δ p'/\tI p'.1=δ a:=by
   intro i p hp e;rw[fO]at hp;split at hp
   ·rename_i e';subst e';simp [tQ]at hp;subst hp;exact⟨_,hk,by rw[hi];rw[hi']at e;exact e⟩
   ·exact⟨p,hp,e⟩
  obtain⟨p',hp',Ds⟩:=key i p hp e1;obtain⟨q',ve,yO⟩:=key j q hq e2;exact H.sep i j p' q' a hp' ve Ds yO
theorem ab5(H:Hp an σ L){h':AV}{c':Ct}{b:aM}(hi':tI h'=δ σ.length)(ho:Own an.length (σ++[b]) (h',c')):Hp an (σ++[b]) (L++[(h',c')]):=by
 refine⟨?_,λi p hp=>?_,λi j p q a hp hq e1 e2=>?_⟩
 ·obtain⟨bs,rfl⟩:=H.pre;exact⟨bs++[b],by simp⟩
 ·rw[List.getElem?_append]at hp;split at hp
  ·refine QW (H.own i p hp) λa ha=>?_
   have:=(Ku (H.own i p hp) ha).2;rw[fZ this]
  ·have hp':=(bB.1 hp).2;simp at hp';subst hp';exact ho
 ·have key:∀(i:Nat)(p:AV×Ct),(L++[(h',c')])[i]? =δ p->tI p.1=δ a->(i=L.length/\a=σ.length)\/(L[i]? =δ p/\a<σ.length):=by
   intro i p hp e;rw[List.getElem?_append]at hp;split at hp
   ·exact .inr ⟨hp,(Ku (H.own i p hp) e).2⟩
   ·obtain⟨h1,h2⟩:=bB.1 hp;simp at h1 h2;subst h2;rw[hi']at e;injection e with e;exact .inl ⟨by omega,e.symm⟩
  rcases key i p hp e1 with⟨a1,a2⟩|⟨a1,a2⟩<;>rcases key j q hq e2 with⟨b1,b2⟩|⟨b1,b2⟩
  ·omega
  ·omega
  ·omega
  ·exact H.sep i j p q a a1 b1 e1 e2
theorem aek(H:Hp an σ L):Hp an (σ++[.map []]) (L++[(.om σ.length,.m [])]):=by
 have hl:an.length<=σ.length:=by obtain⟨bs,rfl⟩:=H.pre;simp
 exact ab5 H rfl ⟨σ.length,rfl,hl,by simp⟩
theorem ab4(H:Hp an σ L){k:Nat}{h key v:AV}{ek:A.EK}{es es':List (AV×AV)}(hk:L[k]? =δ (h,.m es))(hok:A.eY ek key=ι)(he:A.upd ek key v es=δ es'):∃σ',Z9 ek h key v σ=δ σ'/\Hp an σ' (L.set k (h,.m es')):=by obtain⟨id,h1,h2,h3⟩:=H.own k _ hk;simp only at h1 h3;subst h1;have hid:=(bB.1 h3).1;exact⟨σ.set id (.map es'),by simp [Z9,hok,h3,he],adh H hk rfl rfl ⟨id,rfl,h2,by simp [hid]⟩⟩
def UU(an σ:Heap)(r r':AV):Prop:=(∀d,Ya σ an.length (d+1) r=δ r')/\(σ=an->r'=r)
theorem Cj(d:Nat):∀{es:List (AV×AV)},(∀p∈es,Fz p.1/\Fz p.2)->A.rT σ n d es=δ es
 |[],_=>by simp [A.rT]
 |(k,v)::es,h=>by have h1:=h (k,v) (by simp);simp only[A.rT,h1.1 σ n d,h1.2 σ n d,aL,Cj d (es:=es) (λp hp=>h p (by simp [hp])),dL]
theorem ac8(H:Hp an σ L){k:Nat}{h:AV}{es:List (AV×AV)}(hk:L[k]? =δ (h,.m es))(hc:∀p∈es,Fz p.1/\Fz p.2):UU an σ h (.fm es):=by
 obtain⟨id,h1,h2,h3⟩:=H.own k _ hk;simp only at h1 h3;subst h1;refine⟨λd=>?_,λe=>?_⟩
 ·simp only[Ya,Nat.not_lt.2 h2,if_false,h3,Cj d hc,dL]
 ·subst e;have:=(bB.1 h3).1;omega
theorem adf(H:Hp an σ L){r r':AV}(h:UU an σ r r'):e9 an r σ=δ (r',an):=by
 obtain⟨bs,hb⟩:=H.pre;subst hb;by_cases jN:bs=[]
 ·subst jN;rw[X0]at h ⊢;rw[cq,h.2 rfl]
 ·unfold e9;rw[aB (by simpa using jN),aC (by simp),h.1 7];rfl
end
section
variable {κ ν : Type} [DecidableEq κ]
def aV(k:κ):List (κ×ν)->Option ν
 |[]=>η
 |(k',v)::r=>if k=k' then δ v else aV k r
def eu(k:κ)(v:ν):List (κ×ν)->List (κ×ν)
 |[]=>[(k,v)]
 |(k',v')::r=>if k=k' then(k,v)::r else(k',v')::eu k v r
variable {ek : A.EK} {eK : κ -> AV} {eV : ν -> AV} (hq : ∀ a b, YB ek (eK a) (eK b) = δ (decide (a = b)))
include hq
theorem sZ(k:κ):∀l:List (κ×ν),ZD ek (eK k) (l.map λp=>(eK p.1,eV p.2))=δ ((aV k l).map eV)
 |[]=>rfl
 |(k',v)::r=>by
  simp only[bU,ZD,hq,aL,aV];by_cases h:k=k'
  ·simp [h]
  ·simp [h,sZ k r]
theorem wo(k:κ)(v:ν):∀l:List (κ×ν),A.upd ek (eK k) (eV v) (l.map λp=>(eK p.1,eV p.2))=δ ((eu k v l).map λp=>(eK p.1,eV p.2))
 |[]=>rfl
 |(k',v')::r=>by
  simp only[bU,A.upd,hq,aL,eu];by_cases h:k=k'
  ·simp [h]
  ·simp [h,wo k v r]
end
theorem kN(k:IntKind)(a b:Int):YB .i (.int k a) (.int k b)=δ (decide (a=b)):=by simp only[YB,A.lz,if_true];congr 1
theorem getD_map{α:Type}(o:Option α)(f:α->AV)(d:α):(o.map f).getD (f d)=f (o.getD d):=by cases o<;>rfl
theorem isSome_map{α:Type}(o:Option α)(f:α->AV):(o.map f).isSome=o.isSome:=by cases o<;>rfl
def gf{κ ν:Type}(eK:κ->AV)(eV:ν->AV)(l:List (κ×ν)):AV:=.fm (l.map λp=>(eK p.1,eV p.2))
section
variable {κ ν : Type} [DecidableEq κ] {ek : A.EK} {eK : κ -> AV} {eV : ν -> AV} {an σ : Heap} {L : List (AV × Ct)} {h : AV} {l : List (κ × ν)}
theorem ab6(H:Hp an σ L)(k:Nat)(hk:L[k]? =δ (h,.m (l.map λp=>(eK p.1,eV p.2)))) (hq:∀a b,YB ek (eK a) (eK b)=δ (decide (a=b))) (x:κ) (v:ν) (hok:A.eY ek (eK x)=ι):∃σ',Z9 ek h (eK x) (eV v) σ=δ σ'/\Hp an σ' (L.set k (h,.m ((eu x v l).map λp=>(eK p.1,eV p.2)))):=ab4 H hk hok (wo hq x v l)
theorem B8(hq:∀a b,YB ek (eK a) (eK b)=δ (decide (a=b)))(x:κ)(z:ν)(hok:A.eY ek (eK x)=ι):Z8 ek (gf eK eV l) (eK x) (eV z) σ=δ (eV ((aV x l).getD z)):=by simp only[Z8,gf,hok,bg,W9,aL,sZ hq,dL,getD_map]
theorem ai7(hq:∀a b,YB ek (eK a) (eK b)=δ (decide (a=b)))(x:κ)(z:ν)(hok:A.eY ek (eK x)=ι):A.nI ek (gf eK eV l) (eK x) (eV z) σ=δ (.aN [eV ((aV x l).getD z),.bool (aV x l).isSome]):=by simp only[A.nI,gf,hok,bg,W9,aL,sZ hq,dL,getD_map,isSome_map]
end
section
variable {α : Type} {c : α -> aq} {l ys : List α} {an σ : Heap} {L : List (AV × Ct)} {h : AV} {sz : Nat}
end
def Ed{α:Type}(l:List α)(lo hi:Option Int):Option (List α):=
 let h:=hi.getD l.length
 let k:=lo.getD 0
 if 0<=k/\k<=h/\h<=l.length then δ ((l.take h.toNat).drop k.toNat)else η
theorem adD{α:Type}{sz:Nat}{c:α->aq}{l r:List α}{lo hi:Option Int}{σ:Heap}(h:Ed l lo hi=δ r):A.gD sz (sl sz c l) (lo.map (.int Ξ)) (hi.map (.int Ξ)) σ=δ (sl sz c r):=by
 unfold Ed at h;simp only at h;split at h
 ·rename_i hc;injection h with h
  subst h;obtain⟨h1,h2,h3⟩:=hc;simp only[A.gD,sl,if_true,p7]
  have e1:Wf l.length l.length (hi.map (.int Ξ))=δ (hi.getD l.length).toNat:=by
   cases hi with
   |none=>simp [Wf]
   |some h=>simp only[Y6]at h2 h3;simp [Wf,show 0<=h by omega,h3]
  have e2:Wf (hi.getD l.length).toNat 0 (lo.map (.int Ξ))=δ (lo.getD 0).toNat:=by
   cases lo with
   |none=>simp [Wf]
   |some k=>
    simp only[Y6]at h1 h2;have:k<=((hi.getD l.length).toNat:Int):=by omega
    simp only[dL,Wf,Y6];rw[aC ⟨h1,this⟩]
  rw[e1,aL,e2,dL,List.map_drop,al4]
 ·cases h
def jv(a b:ByteArray):Option ByteArray:=if a.size+b.size<=9223372036854775807 then δ (a++b)else η
theorem mG{a b r:ByteArray}(h:jv a b=δ r):o7 (.str a) (.str b)=δ (.str r):=by
 unfold jv at h;split at h
 ·injection h with h;subst h;simp [o7, *]
 ·cases h
end
section
def HP:=(Nat->Option aM)->Prop
namespace HP
def emp:HP:=λh=>∀i,h i=η
def blk(id:Nat)(b:aM):HP:=λh=>∀i,h i=if i=id then δ b else η
def star(P Q:HP):HP:=λh=>∃f g,P f/\Q g/\(∀i,f i=η\/g i=η)/\∀i,h i=(f i).or (g i)
def pr(p:Prop):HP:=λh=>p/\∀i,h i=η
def ex{α:Type}(P:α->HP):HP:=λh=>∃x,P x h
instance : Mul HP := ⟨star⟩
theorem Qo(P Q:HP):P*Q=Q*P:=by
 have key:∀P Q:HP,∀h,(P*Q) h->(Q*P) h:=by rintro P Q h ⟨f,g,hf,hg,hd,hh⟩;refine⟨g,f,hg,hf,λi=>(hd i).symm,λi=>?_⟩;rw[hh i];rcases hd i with e|e<;>rw[e]<;>simp
 funext h;exact propext ⟨key P Q h,key Q P h⟩
theorem qG(P Q R:HP):P*Q*R=P*(Q*R):=by
 funext h;apply propext;constructor
 ·rintro⟨f,g,⟨f1,f2,h1,h2,Nh,hf⟩,hg,hd,hh⟩;refine⟨f1,λi=>(f2 i).or (g i),h1,⟨f2,g,h2,hg,λi=>?_,λi=>rfl⟩,λi=>?_,λi=>?_⟩
  ·have:=hd i;rw[hf i]at this;rcases this with e|e
   ·cases h:f1 i<;>simp [h]at e<;>exact .inl e
   ·exact .inr e
  ·have a:=hd i;have b:=Nh i;rw[hf i]at a;rcases b with b|b
   ·exact .inl b
   ·rcases a with a|a
    ·cases h:f1 i<;>simp [h]at a;exact .inl rfl
    ·exact .inr (show(f2 i).or (g i)=η by rw[b,a];rfl)
  ·rw[hh i,hf i];cases f1 i<;>simp
 ·rintro⟨f,g,hf,⟨g1,g2,h1,h2,Nh,hg⟩,hd,hh⟩;refine⟨λi=>(f i).or (g1 i),g2,⟨f,g1,hf,h1,λi=>?_,λi=>rfl⟩,h2,λi=>?_,λi=>?_⟩
  ·have:=hd i;rw[hg i]at this;rcases this with e|e
   ·exact .inl e
   ·cases h:g1 i<;>simp [h]at e;exact .inr rfl
  ·have a:=hd i;have b:=Nh i;rw[hg i]at a;rcases b with b|b
   ·rcases a with a|a
    ·exact .inl (show(f i).or (g1 i)=η by rw[a,b];rfl)
    ·rw[b]at a;exact .inr (by simpa using a)
   ·exact .inr b
  ·show h i=((f i).or (g1 i)).or (g2 i);rw[hh i,hg i];cases f i<;>simp
theorem B7(P:HP):emp*P=P:=by
 funext h;apply propext;constructor
 ·rintro⟨f,g,hf,hg,hd,hh⟩;have:h=g:=by funext i;rw[hh i,hf i];rfl
  rw[this];exact hg
 ·intro hp;exact⟨λ_=>η,h,λ_=>rfl,hp,λ_=>.inl rfl,λi=>by simp⟩
theorem Q8(P:HP):P*emp=P:=by rw[Qo,B7]
instance : Std.Associative (α := HP) (· * ·) := ⟨qG⟩
instance : Std.Commutative (α := HP) (· * ·) := ⟨Qo⟩
end HP
open HP
structure Hs (B : aM -> Prop) (an σ : Heap) (P : HP) : Prop where
 pre:∃bs,σ=an++bs/\∀b∈bs,B b
 own:∃h,P h/\∀i b,h i=δ b->an.length<=i/\σ[i]? =δ b
def aP:aM->Prop:=λ_=>True
section
variable {B : aM -> Prop} {an σ : Heap} {P Q R : HP} {id : Nat} {b b' : aM}
theorem bO(e:P=Q)(H:Hs B an σ P):Hs B an σ Q:=e▸H
theorem Ry(k:∀h,P h->Q h)(H:Hs B an σ (P*R)):Hs B an σ (Q*R):=by obtain⟨h1,h,⟨f,g,hf,hg,hd,hh⟩,h2⟩:=H;exact⟨h1,h,⟨f,g,k f hf,hg,hd,hh⟩,h2⟩
theorem dR(H:Hs B an σ (P*R)):Hs B an σ R:=by
 obtain⟨h1,h,⟨f,g,hf,hg,hd,hh⟩,h2⟩:=H;refine⟨h1,g,hg,λi b hb=>h2 i b ?_⟩;rw[hh i];rcases hd i with e|e
 ·rw[e,hb];rfl
 ·rw[e]at hb;cases hb
theorem rU{p:Prop}:Hs B an σ (pr p*R)↔p/\Hs B an σ R:=by
 constructor
 ·intro H;refine⟨?_,dR H⟩;obtain⟨h1,h,⟨f,g,hf,hg,hd,hh⟩,h2⟩:=H;exact hf.1
 ·rintro⟨hp,h1,h,hr,h2⟩;exact⟨h1,h,⟨λ_=>η,h,⟨hp,λ_=>rfl⟩,hr,λ_=>.inl rfl,λi=>by simp⟩,h2⟩
theorem TB{α:Type}{P:α->HP}:Hs B an σ (ex P*R)↔∃x,Hs B an σ (P x*R):=by
 constructor
 ·rintro⟨h1,h,⟨f,g,⟨x,hf⟩,hg,hd,hh⟩,h2⟩;exact⟨x,h1,h,⟨f,g,hf,hg,hd,hh⟩,h2⟩
 ·rintro⟨x,h1,h,⟨f,g,hf,hg,hd,hh⟩,h2⟩;exact⟨h1,h,⟨f,g,⟨x,hf⟩,hg,hd,hh⟩,h2⟩
theorem AF(σ:Heap):Hs B σ σ emp:=⟨⟨[],by simp,by simp⟩,λ_=>η,λ_=>rfl,λ_ _ h=>by cases h⟩
theorem SF(H:Hs B an σ P):an.length<=σ.length:=by obtain⟨⟨bs,rfl,_⟩,_⟩:=H;simp
theorem dS(H:Hs B an σ (blk id b*R)):an.length<=id/\σ[id]? =δ b:=by obtain⟨h1,h,⟨f,g,hf,hg,hd,hh⟩,h2⟩:=H;exact h2 id b (by rw[hh id,hf id];simp)
theorem af4(H:Hs B an σ (blk id b*R)):B b:=by obtain⟨h1,h2⟩:=dS H;obtain⟨⟨bs,rfl,hb⟩,_⟩:=H;rw[iH h1]at h2;exact hb b (bR h2)
theorem pN(H:Hs B an σ (blk id b*R))(hb:B b'):Hs B an (σ.set id b') (blk id b'*R):=by
 obtain⟨hid,gu⟩:=dS H;have hlt:=(bB.1 gu).1;obtain⟨⟨bs,rfl,hB⟩,h,⟨f,g,hf,hg,hd,hh⟩,h2⟩:=H;refine⟨⟨bs.set (id-an.length) b',by rw[xQ _ _ hid],λx hx=>?_⟩,λi=>if i=id then δ b' else g i,⟨λi=>if i=id then δ b' else η,g,λi=>rfl,hg,λi=>?_,λi=>?_⟩,λi x hx=>?_⟩
 ·rcases List.mem_or_eq_of_mem_set hx with hx|hx
  ·exact hB x hx
  ·subst hx;exact hb
 ·have:=hd i;rw[hf i]at this;by_cases e:i=id
  ·simp only[e,if_true]at this ⊢;rcases this with h|h
   ·cases h
   ·exact .inr h
  ·simp [e]
 ·by_cases e:i=id<;>simp [e]
 ·by_cases e:i=id
  ·subst e;simp only[if_true,ξ]at hx;subst hx;exact⟨hid,by rw[iU hlt]⟩
  ·simp only[e,if_false]at hx;rw[u9 (λe'=>e e'.symm)];have:=h2 i x (by rw[hh i,hf i];simp [e,hx]);exact this
theorem rP(H:Hs B an σ R)(hb:B b):Hs B an (σ++[b]) (blk σ.length b*R):=by
 have hl:=SF H;obtain⟨⟨bs,rfl,hB⟩,h,hr,h2⟩:=H;have hn:∀i x,h i=δ x->i<(an++bs).length:=λi x hx=>(bB.1 (h2 i x hx).2).1
 refine⟨⟨bs++[b],by simp,λx hx=>?_⟩,λi=>if i=(an++bs).length then δ b else h i,⟨λi=>if i=(an++bs).length then δ b else η,h,λi=>rfl,hr,λi=>?_,λi=>?_⟩,λi x hx=>?_⟩
 ·rcases eG.1 hx with hx|hx
  ·exact hB x hx
  ·simp at hx;subst hx;exact hb
 ·by_cases e:i=(an++bs).length
  ·right;cases hi:h i with
   |none=>rfl
   |some x=>have:=hn i x hi;omega
  ·simp only[e,if_false,true_or]
 ·by_cases e:i=(an++bs).length<;>simp only[e,if_true,if_false,Option.or_some,Option.none_or,Option.some_or]
 ·by_cases e:i=(an++bs).length
  ·subst e;simp only[if_true,ξ]at hx;subst hx;exact⟨hl,by simp⟩
  ·simp only[e,if_false]at hx;obtain⟨k1,k2⟩:=h2 i x hx;exact⟨k1,by rw[fZ (hn i x hx)];exact k2⟩
end
section
variable {α : Type} {E : aq -> α -> HP} {B : aM -> Prop} {an σ : Heap} {R : HP}
def els(E:aq->α->HP):List aq->List α->HP
 |[],[]=>emp
 |e::es,x::l=>E e x*els E es l
 |_,_=>pr False
theorem FT:∀{es:List aq}{l:List α}{R:HP},Hs B an σ (els E es l*R)->es.length=l.length
 |[],[],_,_=>rfl
 |[],_::_,_,H=>(rU.1 H).1.elim
 |_::_,[],_,H=>(rU.1 H).1.elim
 |e::es,x::l,R,H=>by have:=FT (es:=es) (l:=l) (R:=E e x*R) (bO (by rw[els];ac_rfl) H);simp [this]
theorem FR:∀{sC Ba:List aq}{l1 l2:List α},sC.length=l1.length->els E (sC++Ba) (l1++l2)=els E sC l1*els E Ba l2
 |[],Ba,[],l2,_=>by rw[els,B7];rfl
 |e::sC,Ba,x::l1,l2,h=>by simp only[iI,els];rw[FR (by simpa using h)];ac_rfl
theorem abO(e:aq)(x:α):els E [e] [x]=E e x:=by rw[els,els,Q8]
theorem Sr{es:List aq}{l:List α}{i:Nat}{e:aq}{x:α}(hl:es.length=l.length)(he:es[i]? =δ e)(hx:l[i]? =δ x):els E es l=els E (es.eraseIdx i) (l.eraseIdx i)*E e x:=by
 have h1:=(bB.1 he).1;have h2:=(bB.1 hx).1
 have e1:es=es.take i++e::es.drop (i+1):=by rw[<-(bB.1 he).2,List.getElem_cons_drop,WD]
 have e2:l=l.take i++x::l.drop (i+1):=by rw[<-(bB.1 hx).2,List.getElem_cons_drop,WD]
 conv=>lhs;rw[e1,e2]
 rw[FR (by simp;omega),els,am4,am4,FR (by simp;omega)];ac_rfl
def fl(c:α->aq):aq->α->HP:=λe x=>pr (e=c x)
theorem Cp{c:α->aq}:∀{es:List aq}{l:List α}{R:HP},Hs B an σ (els (fl c) es l*R)↔es=l.map c/\Hs B an σ R
 |[],[],R=>by rw[els,B7];simp
 |[],x::l,R=>by show Hs B an σ (pr False*R)↔_;rw[rU];simp
 |e::es,[],R=>by show Hs B an σ (pr False*R)↔_;rw[rU];simp
 |e::es,x::l,R=>by rw[els,fl,qG,rU,Cp,bU,List.cons.injEq,and_assoc]
def Sl(E:aq->α->HP)(sz:Nat)(v:AV)(l:List α):HP:=λh=>(l=[]/\(v=.aH\/v=.ez)/\emp h)\/∃id g seg,v=.os id g sz 0 l.length/\(blk id (.arr g sz seg)*els E seg l) h
variable {sz : Nat} {v : AV} {l : List α}
theorem Ao(H:Hs B an σ (Sl E sz v l*R)):(l=[]/\(v=.aH\/v=.ez)/\Hs B an σ R)\/∃id g seg,v=.os id g sz 0 l.length/\seg.length=l.length/\Hs B an σ (blk id (.arr g sz seg)*(els E seg l*R)):=by
 have H2:=dR H;obtain⟨h1,h,⟨f,g,hf,hg,hd,hh⟩,h2⟩:=H;rcases hf with⟨k1,k2,k3⟩|⟨id,gg,seg,k1,k2⟩
 ·exact .inl ⟨k1,k2,H2⟩
 ·have K:Hs B an σ (blk id (.arr gg sz seg)*(els E seg l*R)):=bO (qG _ _ _) ⟨h1,h,⟨f,g,k2,hg,hd,hh⟩,h2⟩;exact .inr ⟨id,gg,seg,k1,FT (R:=blk id (.arr gg sz seg)*R) (bO (by ac_rfl) K),K⟩
theorem ji(H:Hs B an σ R)(hv:v=.aH\/v=.ez):Hs B an σ (Sl E sz v []*R):=
 Ry (P:=emp) (λh k=>.inl ⟨rfl,hv,k⟩) (bO (B7 R).symm H)
theorem CE{id g:Nat}{seg:List aq}{n:Nat}(H:Hs B an σ (blk id (.arr g sz seg)*(els E seg l*R)))(hn:n=l.length:=by rfl):Hs B an σ (Sl E sz (.os id g sz 0 n) l*R):=
 Ry (P:=blk id (.arr g sz seg)*els E seg l) (λh k=>.inr ⟨id,g,seg,by rw[hn],k⟩) (bO (qG _ _ _).symm H)
theorem rR(H:Hs B an σ (Sl E sz v l*R)):WJ v=δ (.ah l.length):=by rcases Ao H with⟨rfl,rfl|rfl,_⟩|⟨id,g,seg,rfl,_⟩<;>rfl
theorem KA{ys:List aq}{xs:List α}{most:Nat}(H:Hs B an σ (Sl E sz v l*(els E ys xs*R)))(hm:l.length+xs.length<=most)(hB:∀g g' seg,(seg=[]\/B (.arr g sz seg))->B (.arr g' sz (seg++ys))):
  ∃v' σ',wh sz most v (.sl sz ys) σ=δ (v',σ')/\Hs B an σ' (Sl E sz v' (l++xs)*R):=by
 rcases Ao H with⟨rfl,hv,H⟩|⟨id,g,seg,rfl,hl,H⟩
 ·have hxl:=FT H;by_cases hy:ys=[]
  ·subst hy;have:xs=[]:=uG (by simpa using hxl.symm);subst this;refine⟨v,σ,?_,ji (dR H) hv⟩;rcases hv with rfl|rfl<;>simp [wh,WZ,A.kM]
  ·refine⟨.os σ.length ys.length sz 0 ys.length,σ++[.arr ys.length sz ys],?_,?_⟩
   ·have:ys.length<=most:=by simp at hm;omega
    rcases hv with rfl|rfl<;>simp [wh,WZ,A.kM,hy,this]
   ·have H2:=rP H (by simpa using hB 0 ys.length [] (.inl rfl):B (.arr ys.length sz ys));exact CE H2 (by simpa using hxl)
 ·have hxl:=FT (bO (show _=els E ys xs*(blk id (.arr g sz seg)*(els E seg l*R)) by ac_rfl) H);obtain⟨h1,h2⟩:=dS H;by_cases hy:ys=[]
  ·subst hy;have:xs=[]:=uG (by simpa using hxl.symm);subst this;refine⟨.os id g sz 0 l.length,σ,?_,?_⟩
   ·have:l.length<=most:=by simpa using hm
    simp [wh,WZ,A.kM,h2,hl,this]
   ·rw[X0];exact CE (bO (by rw[els,B7]) H)
  ·have hp:0<ys.length:=List.length_pos_iff.2 hy;refine⟨.os id (g+ys.length) sz 0 (l.length+ys.length),σ.set id (.arr (g+ys.length) sz (seg++ys)),?_,?_⟩
   ·have e1:l.length+ys.length<=most:=by omega
    have e2:seg.take l.length=seg:=lW (by omega);simp [wh,WZ,A.kM,h2,hl,e1,hy,e2,hp]
   ·have H2:=pN (b':=.arr (g+ys.length) sz (seg++ys)) H (hB g _ seg (.inr (af4 H)));exact CE (id:=id) (g:=g+ys.length) (seg:=seg++ys) (bO (by rw[FR hl];ac_rfl) H2) (by simp;omega)
end
end
section
open HP
section
variable {σ : Heap} {id g sz off len : Nat} {es : List aq}
theorem pR{α:Type}{X Y:Option α}:χ (.bool ι) X Y=X:=rfl
theorem mJ{α:Type}{X Y:Option α}:χ (.bool θ) X Y=Y:=rfl
theorem KL{y d k:Nat}(h:k<=y):Wf y d (δ (.ah (k:Int)))=δ k:=by
 have:(k:Int)<=y:=by omega
 simp [Wf,this]
theorem KK{y d:Nat}:Wf y d η=δ d:=rfl
theorem JU(h:σ[id]? =δ (.arr g sz es))(hl:off+len<=es.length):A.room σ id g sz off len=es.length-off:=by simp [A.room,h,hl]
theorem N2{lo hi:Option AV}{r h l:Nat}(hr:A.room σ id g sz off len=r)(hh:Wf r len hi=δ h)(hl:Wf h 0 lo=δ l):A.gD sz (.os id g sz off len) lo hi σ=δ (.os id g sz (off+l) (h-l)):=by simp [A.gD,hr,hh,hl]
theorem acT{a b:Nat}(h:a+b<9223372036854775808):o7 (.ah (a:Int)) (.ah (b:Int))=δ (.ah ((a+b:Nat):Int)):=by rw[xT,dY (by unfold bA;omega)];simp
theorem acS{a:Nat}(h:a+1<9223372036854775808):o7 (.ah (a:Int)) (.ah 1)=δ (.ah ((a+1:Nat):Int)):=acT (b:=1) h
end
section
variable {α : Type} {E : aq -> α -> HP} {an σ : Heap} {R : HP} {sz most : Nat} {zs : aq} {rot : aq -> Heap -> aG} {v : AV} {l : List α} {y : α} {ye : aq} {i : Nat}
end
end
section
def gI{α:Type}(f:Nat->α->Int):List α->Nat->Int
 |[],_=>0
 |x::l,i=>if f i x=0 then gI f l (i+1)else f i x
section
variable {α β γ S B R : Type}
theorem xy{f:Nat->α->Int}:∀(l:List α)(i:Nat),gI f l i=0↔∀j x,l[j]? =δ x->f (i+j) x=0
 |[],i=>by simp [gI]
 |y::l,i=>by
  rw[gI];by_cases h:f i y=0
  ·rw[aC h,xy l (i+1)];constructor
   ·intro k j x hx;cases j with
    |zero=>simp at hx;subst hx;exact h
    |succ j=>have:=k j x (by simpa using hx);rwa[show i+1+j=i+(j+1) by omega]at this
   ·intro k j x hx;have:=k (j+1) x (by simpa using hx);rwa[show i+(j+1)=i+1+j by omega]at this
  ·rw[aB h];exact⟨λe=>absurd e h,λk=>absurd (k 0 y rfl) h⟩
theorem J9{l:List α}{body:Nat->α->S->Option (Lr S B R)}{fin:S->Option B}{s:S}{K1:B->Option γ}{K2:R->Option γ}(hl:l.length<=bD):iJ l body fin s K1 K2=(oP body fin l 0 s).bind λq=>q.elim K1 K2:=aC hl
theorem xC{f:Nat->α->Int}{l:List α}{body:Nat->α->Unit->Option (Lr Unit Unit Int)}{fin:Unit->Option Unit}{s:Unit}{K1:Unit->Option γ}{K2:Int->Option γ}(hl:l.length<=bD)(hb:∀i x,l[i]? =δ x->body i x ()=δ (if f i x=0 then .go ()else .ret (f i x)))(hf:fin ()=δ ():=by rfl):iJ l body fin s K1 K2=if gI f l 0=0 then K1 ()else K2 (gI f l 0):=by
 rw[J9 hl]
 have key:∀(rest pre:List α),l=pre++rest->oP body fin rest pre.length ()=δ (if gI f rest pre.length=0 then .inl ()else .inr (gI f rest pre.length)):=by
  intro rest;induction rest with
  |nil=>intro pre _;simp [oP,hf,gI]
  |cons x rest ih=>
   intro pre hp;rw[oP,hb pre.length x (by rw[hp];simp),aL,gI];by_cases h:f pre.length x=0
   ·simp only[h,if_true];have:=ih (pre++[x]) (by simpa using hp);simpa using this
   ·simp only[h,if_false]
 have k:=key l [] rfl;rw[Zk]at k;rw[show s=()from rfl,k,aL];split<;>rfl
theorem RA{p:Prop}[Decidable p]{k f:Int}{Y:Option (Lr Unit Unit Int)}(hk:k≠0)(h:Y=δ (if f=0 then .go ()else .ret f)):(if p then δ (.ret k)else Y)=δ (if(if p then k else f)=0 then .go ()else .ret (if p then k else f)):=by
 by_cases hp:p
 ·simp [hp,hk]
 ·simp [hp,h]
theorem go_ret:(δ (.go ()):Option (Lr Unit Unit Int))=δ (if(0:Int)=0 then .go ()else .ret 0):=rfl
theorem QC(k:Int):(if k=0 then δ (.go ())else δ (.ret k):Option (Lr Unit Unit Int))=δ (if k=0 then .go ()else .ret k):=by split<;>rfl
theorem ZW{l:List α}{body:Nat->α->S->Option (Lr S B R)}{fin:S->Option B}{s:S}{K1:B->Option γ}{K2:R->Option γ}(g:S->α->S)(P:Nat->S->Prop)(hl:l.length<=bD)(h0:P 0 s)(hP:∀i x s,l[i]? =δ x->P i s->P (i+1) (g s x))(hb:∀i x s,l[i]? =δ x->P i s->body i x s=δ (.go (g s x))):iJ l body fin s K1 K2=(fin (l.foldl g s)).bind K1:=by
 rw[J9 hl]
 have key:∀(rest pre:List α)(s:S),l=pre++rest->P pre.length s->oP body fin rest pre.length s=(fin (rest.foldl g s)).map .inl:=by
  intro rest;induction rest with
  |nil=>intro pre s _ _;simp [oP]
  |cons x rest ih=>
   intro pre s hp hq;have hx:l[pre.length]? =δ x:=by rw[hp];simp
   rw[oP,hb pre.length x s hx hq,aL,Zc];have:=ih (pre++[x]) (g s x) (by simpa using hp) (by simpa using hP _ _ _ hx hq);simpa using this
 have k:=key l [] s rfl h0;rw[Zk]at k;rw[k];cases fin (l.foldl g s)<;>rfl
def pv [Inhabited α](l:List α)(i:Nat):α:=if 0<i then l.getD (i-1) default else default
theorem Sb{l:List α}{i:Int}{x:α}(h0:0<=i)(h:l[i.toNat]? =δ x):nh l i=δ x:=by rw[nh,aC h0,h]
theorem Kf [Inhabited α]{l:List α}{i:Nat}{x:α}(h:l[i]? =δ x)(hl:l.length<=bD):(if decide (0<(i:Int))=ι then nh l (Ξ.wrap ((i:Int) -1))else δ default)=δ (pv l i):=by
 have hi:=(bB.1 h).1;unfold pv;by_cases h0:0<i
 ·rw[aC (by simpa using h0),aC h0,dY (by unfold bA;unfold bD at hl;omega)];refine Sb (by omega) ?_;have:((i:Int) -1).toNat=i-1:=by omega
  rw[this,Yn,cA (by omega)];rfl
 ·rw[aB (by simpa using h0),aB h0]
theorem ad5{a b:Int}:(([a,b]:List Int).find? λn=>decide (¬n=0)).getD 0=if ¬(a=0)then a else b:=by
 by_cases ha:a=0
 ·by_cases hb:b=0<;>simp [ha,hb,XB]
 ·simp [ha,XB]
theorem ad6{a b c:Int}:(([a,b,c]:List Int).find? λn=>decide (¬n=0)).getD 0=if ¬(a=0)then a else if ¬(b=0)then b else c:=by
 by_cases ha:a=0
 ·by_cases hb:b=0
  ·by_cases hc:c=0<;>simp [ha,hb,hc,XB]
  ·simp [ha,hb,XB]
 ·simp [ha,XB]
end
theorem abp(s:ByteArray):s.toList=s.data.toList:=ByteArray.toList_eq s
theorem Rl:∀(a b:List UInt8),Xr a b<0↔alK a b=ι
 |[],[]=>by simp [Xr,alK]
 |[],_::_=>by simp [Xr,alK]
 |_::_,[]=>by simp [Xr,alK]
 |a::x,b::y=>by
  rw[Xr,alK];by_cases h1:a<b
  ·simp [h1]
  ·by_cases h2:b<a
   ·have:a≠b:=by rintro rfl;exact h1 h2
    simp [h1,h2,this]
   ·have:a=b:=UInt8.le_antisymm (UInt8.not_lt.1 h2) (UInt8.not_lt.1 h1);subst this;simp [UInt8.lt_irrefl,Rl x y]
def Bm(a b:cK):Bool:=decide (a.unit<b.unit)||(decide (a.unit=b.unit)&&alK a.param.toList b.param.toList)
end
def bu(n lo hi:Int):Bool:=decide (lo<=n/\n<=hi)
def Ht(c:UInt8):Bool:=decide (97<=c.toNat/\c.toNat<=122)||decide (48<=c.toNat/\c.toNat<=57)||decide (c.toNat=45)
def A1(s:ByteArray):Bool:=s.data.toList.all Ht&&decide (0<s.size)
def tr(s:ByteArray):Bool:=A1 s&&decide (s.size<=20)&&decide (97<=(s.data.toList.getD 0 0).toNat)&&decide ((s.data.toList.getD 0 0).toNat<=122)
def pc(c:UInt8):Bool:=decide (32<=c.toNat/\c.toNat<=126)
def Gj(s:ByteArray):Bool:=decide (0<s.size)&&decide (s.size<=60)&&(decide ((s.data.toList.getD 0 0).toNat≠32)&&decide ((s.data.toList.getD (s.size-1) 0).toNat≠32))
def KG(s:ByteArray):Bool:=s.data.toList.all pc&&Gj s
theorem ZY(s:ByteArray)(i:Nat)(h:i<s.size):s.data.toList.getD i 0=s[i]:=by rw[XR,cA (by simpa using h)];rfl
def Gx(pre:List mF):List mF->Int
 |[]=>0
 |r::rest=>
  if bu r.low 0 65535=θ\/bu r.high 0 65535=θ\/r.high<r.low then 1
  else if 0<pre.length/\r.low<=(pre.getLast?.map (·.high)).getD 0 then 7
  else if tr r.name=θ then 5
  else if gy r.name (pre.map (·.name))=ι then 6
  else Gx (pre++[r]) rest
def Ay(l:List mF):Int:=if 30<l.length then 2 else Gx [] l
def slotsOf(l:List gY):List Int:=l.flatMap λx=>if 0<x.kW then[x.mj,x.kW]else[x.mj]
theorem OJ(l:List gY)(x:gY):slotsOf (l++[x])=slotsOf l++(if 0<x.kW then[x.mj,x.kW]else[x.mj]):=by simp [slotsOf]
def Gw(size:Int)(pre:List gY):List gY->Int
 |[]=>0
 |x::rest=>
  if tr x.name=θ then 5
  else if gy x.name (pre.map (·.name))=ι then 6
  else if bu x.group 1 4=θ then 4
  else if bu x.mj 1 size=θ\/bu x.kW 0 size=θ\/bu x.default 0 65535=θ then 1
  else if x.mj=x.kW\/gy x.mj (slotsOf pre)=ι\/(0<x.kW/\gy x.kW (slotsOf pre)=ι)then 12
  else if Ay x.ranges=0 then Gw size (pre++[x]) rest else Ay x.ranges
def oH(p:cO):Int:=
 if tr p.name=θ then 5 else if bu p.size 1 512=θ then 1 else if p.params.length=0 then 8 else if 40<p.params.length then 2 else Gw p.size [] p.params
def wC(pre:List cO):List cO->Int
 |[]=>0
 |p::rest=>if oH p=0 then(if gy p.name (pre.map (·.name))=ι then 6 else wC (pre++[p]) rest)else oH p
def tJ(l:List cO):Int:=if 60<l.length then 2 else wC [] l
def gn(nm:ByteArray):List cO->cO×Bool
 |[]=>(⟨⟨#[]⟩,0,[]⟩,θ)
 |p::rest=>if p.name=nm then(p,ι)else gn nm rest
def qJ(f:Nat->Bool):Nat->Nat->Bool
 |0,_=>ι
 |n+1,a=>if 512<a\/f a=ι then θ else qJ f n (a+1)
def jX(f:Int->Nat->Bool)(u:Int)(a s:Nat):Int->Nat->Bool:=λv k=>if v=u/\a<=k/\k<a+s then ι else f v k
def yf(pre:List Int)(n:Int):Bool:=match pre.getLast? with|some m=>decide (n<=m)|none=>θ
def lU(fq:List cO)(u:dZ):Int:=u.address+(gn u.gM fq).1.size-1
def AD(fq:List cO)(u:dZ)(pre:List dZ):Bool:=pre.any λx=>decide (x.univ=u.univ/\x.address<=lU fq u/\u.address<=lU fq x)
def AQ(fq:List cO)(pre:List dZ):List dZ->Int
 |[]=>0
 |u::rest=>
  if bu u.aI 1 9999=θ then 1
  else if yf (pre.map (·.aI)) u.aI=ι then 7
  else if(gn u.gM fq).2=θ then 5
  else if bu u.univ 1 64=θ\/bu u.address 1 512=θ\/512<lU fq u then 1
  else if AD fq u pre=ι then 12
  else AQ fq (pre++[u]) rest
def gJ(r:cS):Int:=if tJ r.cB=0 then(if 400<r.eZ.length then 2 else AQ r.cB [] r.eZ)else tJ r.cB
def Ch(fq:List cO)(pre:List dZ):Prop:=∀x∈pre,1<=x.address/\x.address<=lU fq x/\lU fq x<=512
def vW(fq:List cO)(pre:List dZ)(f:Int->Nat->Bool):Prop:=∀v k,f v k=ι↔∃x∈pre,x.univ=v/\x.address<=(k:Int)/\(k:Int)<=lU fq x
theorem vW.nil(fq:List cO):vW fq [] (λ_ _=>θ):=λv k=>by simp
theorem vW.snoc{fq:List cO}{pre:List dZ}{f:Int->Nat->Bool}(h:vW fq pre f)(u:dZ)(a s:Nat)(ha:u.address=a)(hs:lU fq u=(a:Int)+s-1):vW fq (pre++[u]) (jX f u.univ a s):=by
 intro v k;unfold jX;by_cases e:v=u.univ/\a<=k/\k<a+s
 ·rw[aC e];refine⟨λ_=>⟨u,by simp,e.1.symm,by omega,by omega⟩,λ_=>rfl⟩
 ·rw[aB e,h v k];constructor
  ·rintro⟨x,hx,h1⟩;exact⟨x,by simp [hx],h1⟩
  ·rintro⟨x,hx,h1,h2,h3⟩;simp only[eG,X3]at hx;rcases hx with hx|rfl
   ·exact⟨x,hx,h1,h2,h3⟩
   ·exact absurd ⟨h1.symm,by omega,by omega⟩ e
theorem Jt(f:Nat->Bool):∀(s a:Nat),qJ f s a=ι↔∀k,a<=k->k<a+s->k<=512/\f k=θ
 |0,a=>by simp [qJ];intro k h1 h2;omega
 |s+1,a=>by
  rw[qJ];by_cases e:512<a\/f a=ι
  ·rw[aC e];simp only[X6,false_iff];intro h;have:=h a (bJ _) (by omega);rcases e with e|e
   ·omega
   ·rw[e]at this;simp at this
  ·rw[aB e,Jt f s (a+1)];constructor
   ·intro h k h1 h2;by_cases hk:k=a
    ·subst hk;refine⟨by omega,?_⟩;cases hf:f k
     ·rfl
     ·exact absurd (.inr hf) e
    ·exact h k (by omega) (by omega)
   ·intro h k h1 h2;exact h k (by omega) (by omega)
theorem Y7{fq:List cO}{pre:List dZ}{f:Int->Nat->Bool}(h:vW fq pre f)(hok:Ch fq pre)(u:dZ)(a s:Nat)(ha:u.address=a)(h1:1<=s)(hs:lU fq u=(a:Int)+s-1)(h2:lU fq u<=512):qJ (f u.univ) s a=!AD fq u pre:=by
 rw[nS,Jt];simp only[Bool.not_eq_true',AD,List.any_eq_false,decide_eq_true_eq,not_and];constructor
 ·intro hf x hx e1 e2 e3;have hx':=hok x hx;obtain⟨k,hk⟩:∃k:Nat,(k:Int)=max x.address a:=⟨(max x.address (a:Int)).toNat,by omega⟩
  have hf':=(hf k (by omega) (by omega)).2;have:f u.univ k=ι:=(h u.univ k).2 ⟨x,hx,e1,by omega,by omega⟩;rw[this]at hf';simp at hf'
 ·intro hf k h3 h4;refine⟨by omega,?_⟩;cases hfk:f u.univ k
  ·rfl
  ·obtain⟨x,hx,e1,e2,e3⟩:=(h u.univ k).1 hfk;exact absurd (show u.address<=lU fq x by omega) (hf x hx e1 (by omega))
theorem alh{p:cO}(h:oH p=0):1<=p.size/\p.size<=512:=by
 unfold oH at h;by_cases h1:tr p.name=θ
 ·rw[aC h1]at h;simp at h
 ·rw[aB h1]at h;by_cases h2:bu p.size 1 512=θ
  ·rw[aC h2]at h;simp at h
  ·simpa [bu]using h2
theorem O9:∀(l pre:List cO),wC pre l=0->∀p∈l,1<=p.size/\p.size<=512
 |[],pre,h,p,hp=>by simp at hp
 |q::rest,pre,h,p,hp=>by
  rw[wC]at h;by_cases e:oH q=0
  ·rw[aC e]at h;by_cases e2:gy q.name (pre.map (·.name))=ι
   ·rw[aC e2]at h;simp at h
   ·rw[aB e2]at h;simp only[eo]at hp;rcases hp with rfl|hp
    ·exact alh e
    ·exact O9 rest _ h p hp
  ·rw[aB e]at h;exact absurd h e
theorem akG{l:List cO}(h:tJ l=0):∀p∈l,1<=p.size/\p.size<=512:=by
 unfold tJ at h;by_cases e:60<l.length
 ·rw[aC e]at h;simp at h
 ·rw[aB e]at h;exact O9 l [] h
theorem Jj(nm:ByteArray):∀(l:List cO),(gn nm l).2=ι->(gn nm l).1∈l
 |[],h=>by simp [gn]at h
 |p::r,h=>by
  rw[gn]at h ⊢;by_cases e:p.name=nm
  ·rw[aC e];simp
  ·rw[aB e]at h ⊢;exact iB _ (Jj nm r h)
theorem Ch.snoc{fq:List cO}{pre:List dZ}(h:Ch fq pre){u:dZ}(h1:1<=u.address/\u.address<=lU fq u/\lU fq u<=512):Ch fq (pre++[u]):=λx hx=>by
 simp only[eG,X3]at hx;rcases hx with hx|rfl
 ·exact h x hx
 ·exact h1
theorem iQ(n lo hi:Int)(σ:Heap):iz [.ah n,.ah lo,.ah hi] σ=δ (.bool (bu n lo hi),σ):=by refine wrap_eq rfl ?_ rfl;show Il _ _ _ σ=_;unfold Il bu;by_cases h:lo<=n<;>simp only[aQ,reduceCtorEq,h,true_and,false_and]
theorem aby(b:Bool)(n:Int)(σ:Heap):IN [.bool b,.ah n] σ=δ (.ah (if b=ι then n else 0),σ):=by refine wrap_eq rfl ?_ rfl;show I3 _ _ σ=_;unfold I3;cases b<;>simp [aQ,reduceCtorEq]
theorem Kh(s:ByteArray){i:Nat}(h:i<s.size):A.oZ (.str s) (.ah (i:Int))=δ (.int .u8 (s.data.toList.getD i 0).toNat):=by
 have h1:s[i]? =δ s[i]:=by simp [h]
 simp [A.oZ,A.idx,h,ZY s i h];rfl
theorem Pf(s:ByteArray):(decide (¬s=⟨#[]⟩))=decide (0<s.size):=by
 rw[decide_eq_decide];constructor
 ·intro h;rcases Nat.eq_zero_or_pos s.size with e|e
  ·exact absurd (ByteArray.ext (Array.eq_empty_of_size_eq_zero e)) h
  ·exact e
 ·rintro h rfl;exact absurd h (by decide)
theorem acO(s:ByteArray)(hs:gW s)(σ:Heap):Jc [.str s] σ=δ (.bool (A1 s),σ):=by
 refine wrap_eq rfl ?_ rfl;show Jl _ σ=_;unfold Jl;simp only[aQ,reduceCtorEq];refine(Qt (p:=Ht) s (δ (.bool θ,σ)) ?_ ?_ ?_).trans ?_
 ·intro i c hi hc;have h1:bA ((i:Int)+1):=by unfold gW bD at hs;unfold bA;omega
  have h2:(i:Int)<s.size:=by omega
  simp only[aQ,reduceCtorEq,h2,hc,dY h1,Ht];clear hc h1
  repeat' ((first|rw[uX]|rw[uW]|rw[uU]|rw[uJ]|rw[uT]|rw[uS]);split<;>try simp only[aQ,reduceCtorEq, *])
  all_goals first|rfl|(refine(aC ?_).symm;simp;omega)|(refine(aB ?_).symm;simp;omega)|(refine congrArg δ (congrArg (λb=>(φ b,σ)) ?_);rw[nS];simp;omega)
 ·simp only[aQ,reduceCtorEq,YK]
 ·intro i;simp only[aQ,reduceCtorEq]
 ·simp only[aQ,reduceCtorEq,Pf,A1];cases s.data.toList.all Ht<;>simp
theorem abi{s:ByteArray}(h:A1 s=ι):0<s.size:=by simp only[A1,eF,decide_eq_true_eq]at h;exact h.2
theorem J2(s:ByteArray)(hs:gW s)(σ:Heap):BS [.str s] σ=δ (.bool (tr s),σ):=by
 refine wrap_eq rfl ?_ rfl;show I2 _ σ=_;unfold I2;simp only[aQ,reduceCtorEq,acO s hs];cases h:A1 s
 ·simp [aQ,reduceCtorEq,tr,h]
 ·have h0:=abi h;have:=Kh s h0;simp only[Int.ofNat_zero]at this;simp only[aQ,reduceCtorEq,this];simp only[tr,h,Bool.true_and];generalize s.data.toList.getD 0 0=c0 at *
  repeat' ((first|rw[uX]|rw[uW]|rw[uU]|rw[uJ]|rw[uT]|rw[uS]);split<;>try simp only[aQ,reduceCtorEq, *])
  all_goals first|rfl|(refine(aC ?_).symm;simp;omega)|(refine(aB ?_).symm;simp;omega)|(refine congrArg δ (congrArg (λb=>(φ b,σ)) ?_);rw[nS];simp;omega)
theorem aaz(s:ByteArray)(hs:gW s)(σ:Heap):Is [.str s] σ=δ (.bool (KG s),σ):=by
 refine wrap_eq rfl ?_ rfl;show IB _ σ=_;unfold IB;simp only[aQ,reduceCtorEq];refine(Qt (p:=pc) s (δ (.bool θ,σ)) ?_ ?_ ?_).trans ?_
 ·intro i c hi hc;have h1:bA ((i:Int)+1):=by unfold gW bD at hs;unfold bA;omega
  have h2:(i:Int)<s.size:=by omega
  simp only[aQ,reduceCtorEq,h2,hc,dY h1,pc];clear h1
  repeat' ((first|rw[uX]|rw[uW]|rw[uU]|rw[uJ]|rw[uT]|rw[uS]);split<;>try simp only[aQ,reduceCtorEq, *])
  all_goals first|rfl|(refine(aC ?_).symm;simp;omega)|(refine(aB ?_).symm;simp;omega)|(refine congrArg δ (congrArg (λb=>(φ b,σ)) ?_);rw[nS];simp;omega)
 ·simp only[aQ,reduceCtorEq,YK]
 ·intro i;simp only[aQ,reduceCtorEq]
 ·simp only[aQ,reduceCtorEq,Pf,KG];cases s.data.toList.all pc
  ·simp
  ·simp only[if_true,Bool.true_and];by_cases h0:0<s.size
   ·by_cases Bd:s.size<=60
    ·have e0:=Kh s h0;have e1:=Kh s (i:=s.size-1) (by omega);simp only[Int.ofNat_zero]at e0;rw[show((s.size-1:Nat):Int)=(s.size:Int) -1 by omega]at e1;have h1:bA ((s.size:Int) -1):=by unfold gW bD at hs;unfold bA;omega
     have wD:(s.size:Int)<=60:=by omega
     have hw:=dY h1;simp only[Gj,h0,Bd];generalize s.data.toList.getD 0 0=c0 at *
     generalize s.data.toList.getD (s.size-1) 0=c1 at *
     simp only[aQ,reduceCtorEq,h0,wD,e0,e1,hw]
     repeat' ((first|rw[uX]|rw[uW]|rw[uU]|rw[uJ]|rw[uT]|rw[uS]);split<;>try simp only[aQ,reduceCtorEq, *])
     all_goals first|rfl|(refine(aC ?_).symm;simp;omega)|(refine(aB ?_).symm;simp;omega)|(refine congrArg δ (congrArg (λb=>(φ b,σ)) ?_);rw[nS];simp;omega)
    ·have wD:¬(s.size:Int)<=60:=by omega
     simp [aQ,reduceCtorEq,h0,wD,Gj,Bd]
   ·simp [aQ,reduceCtorEq,h0,Gj]
theorem Qs(l:List Int)(hl:l.length<=bD)(σ:Heap):BP [sl 1 aO l] σ=δ (.ah ((l.find? λn=>decide (¬n=0)).getD 0),σ):=by
 refine wrap_eq rfl ?_ rfl;show IA (sl 1 aO l) σ=_;unfold IA;simp only[aQ,reduceCtorEq];refine(Z6 l (λn=>decide (¬n=0)) (λi=>[.ah 0,.ah (i:Int)]) σ (.exit 0,[.ah 0,.ah (l.length:Int)],σ) (λi n=>(.ret,[.ah n,.ah (i:Int)],σ)) (δ (ε 0,σ)) (λn=>δ (ε n,σ)) ?_ ?_ ?_ ?_).trans ?_
 ·intro i x hx;obtain⟨g1,g2,g3⟩:=aaW 1 aO hx;have g3:=g3 hl;simp only[aQ,reduceCtorEq,g1,g2,g3]
  repeat' ((first|rw[uX]|rw[uW]|rw[uU]|rw[uJ]|rw[uT]|rw[uS]);split<;>try simp only[aQ,reduceCtorEq, *])
  all_goals first|with_reducible rfl|(simp [*];done)|(simp_all;done)|(simp_all;omega)|rfl
 ·exact Cb _ _ _
 ·simp only[aQ,reduceCtorEq]
 ·intro i n;simp only[aQ,reduceCtorEq]
 ·cases l.find? (λn=>decide (¬n=0))<;>rfl
theorem zR(n:Int)(σ:Heap):BI [.ah n] σ=δ (.bool (bu n 0 65535),σ):=by refine wrap_eq rfl ?_ rfl;show Ib _ σ=_;unfold Ib;simp only[aQ,reduceCtorEq,iQ]
theorem alu(l:List mF)(hok:fD Ke l)(σ:Heap):HU [sl 3 lR l] σ=δ (.ah (Ay l),σ):=by
 refine wrap_eq rfl ?_ rfl;show HV (sl 3 lR l) σ=_;unfold HV Ay;simp only[aQ,reduceCtorEq];by_cases G1:30<l.length
 ·have CN:(30:Int)<l.length:=by omega
  simp only[aQ,reduceCtorEq,G1,CN]
 ·have CN:¬(30:Int)<l.length:=by omega
  simp only[aQ,reduceCtorEq,G1,CN]
  refine(oG (S:=Unit) (R:=Int) l (λpre x _=>
    if bu x.low 0 65535=θ\/bu x.high 0 65535=θ\/x.high<x.low then .out 1
    else if 0<pre.length/\x.low<=(pre.getLast?.map (·.high)).getD 0 then .out 7
    else if tr x.name=θ then .out 5
    else if gy x.name (pre.map (·.name))=ι then .out 6 else .go ())
   (λpre _=>[.ah 0,.ah (pre.length:Int)]) (λpre _=>σ++[j0 (jc (·.name) pre)])
   (λ_=>(.exit 0,[.ah 0,.ah (l.length:Int)],σ++[j0 (jc (·.name) l)])) (λpre _ r=>(.ret,[.ah r,.ah (pre.length:Int)],σ++[j0 (jc (·.name) pre)]))
   (λ_ _=>True) () (λ_=>δ (ε 0,σ)) (λr=>δ (ε r,σ)) ?_ ?_ trivial (λ_ _ _ _ _ _ _ _=>trivial) ?_ ?_).trans ?_
  ·intro pre x rest u hl _;have hx:=oJ hl;have hlt:=pP hl;have hi1:Ξ.wrap ((pre.length:Int)+1)=(pre.length:Int)+1:=dY (by unfold bA;omega);have hi2:Ξ.wrap ((pre.length:Int) -1)=(pre.length:Int) -1:=dY (by unfold bA;omega);have hlt':(pre.length:Int)<(l.length:Int):=by omega
   have hnm:=(hok.2 x (by rw[hl];simp)).2.2;have lC:=nG 3 lR l hx;have hN:=J2 _ hnm;by_cases h0:0<pre.length
   ·obtain⟨y,hy,hy2⟩:=QY hl h0;have LQ:=Pe 3 lR l h0 hy2;have mR:(0:Int)<pre.length:=by omega
    clear hl hx hlt hok G1 CN hy2 hnm;simp only[aQ,reduceCtorEq,E1,E3,E4,Fp,Fh,Fv,hlt',lC,zR,hi1,hi2,hN,mR,hy,h0]
    repeat' ((first|rw[uX]|rw[uW]|rw[uU]|rw[uJ]|rw[uT]|rw[uS]);split<;>try simp only[aQ,reduceCtorEq,E1,E3,E4,Fp,Fh,Fv,zR, *])
    all_goals first|with_reducible rfl|(simp [*];done)|(simp_all;done)|(simp_all;omega)|rfl
   ·have mR:¬(0:Int)<pre.length:=by omega
    clear hl hx hlt hok G1 CN hnm;simp only[aQ,reduceCtorEq,E1,E3,E4,Fp,Fh,Fv,hlt',lC,zR,hi1,hi2,hN,mR,h0]
    repeat' ((first|rw[uX]|rw[uW]|rw[uU]|rw[uJ]|rw[uT]|rw[uS]);split<;>try simp only[aQ,reduceCtorEq,E1,E3,E4,Fp,Fh,Fv,zR, *])
    all_goals first|with_reducible rfl|(simp [*];done)|(simp_all;done)|(simp_all;omega)|rfl
  ·intro u _;simp only[aQ,reduceCtorEq,YK]
  ·intro u _;simp only[aQ,reduceCtorEq]
  ·intros;simp only[aQ,reduceCtorEq]
  ·refine(Fc (qn:=Gx) ?_ ?_ (λn=>δ (ε n,σ)) l []).trans ?_
   ·intro pre;rfl
   ·intro pre x rest;rw[Gx];simp only[AE,vX,we]
   ·rfl
theorem akd(p:cO)(hok:Fm p)(σ:Heap):HR [.agg (fA p)] σ=δ (.ah (oH p),σ):=by
 refine wrap_eq rfl ?_ rfl;show HT (.agg (fA p)) σ=_;obtain⟨pn,ps,l⟩:=p;obtain⟨hnm,hps,LV⟩:=hok;simp only at hnm hps LV;have hN:=J2 _ hnm;unfold HT oH;simp only[aQ,reduceCtorEq,nw,nA,nB,nD,nC,nE,hN,iQ];cases hn:tr pn
 ·simp only[aQ,reduceCtorEq]
 cases hz:bu ps 1 512
 ·simp only[aQ,reduceCtorEq]
 by_cases h0:l.length=0
 ·obtain rfl:l=[]:=uG h0;simp [aQ,reduceCtorEq]
 have mR:¬(l.length:Int)=0:=by omega
 by_cases M8:40<l.length
 ·have GA:(40:Int)<l.length:=by omega
  simp only[aQ,reduceCtorEq,h0,mR,M8,GA]
 have GA:¬(40:Int)<l.length:=by omega
 simp only[aQ,reduceCtorEq,h0,mR,M8,GA]
 refine(oG (S:=Unit) (R:=Int) l (λpre x _=>
   if tr x.name=θ then .out 5
   else if gy x.name (pre.map (·.name))=ι then .out 6
   else if bu x.group 1 4=θ then .out 4
   else if bu x.mj 1 ps=θ\/bu x.kW 0 ps=θ\/bu x.default 0 65535=θ then .out 1
   else if x.mj=x.kW\/gy x.mj (slotsOf pre)=ι\/(0<x.kW/\gy x.kW (slotsOf pre)=ι)then .out 12
   else if Ay x.ranges=0 then .go ()else .out (Ay x.ranges))
  (λpre _=>[.lbx (fA ⟨pn,ps,l⟩),.ah 0,.ah (pre.length:Int)]) (λpre _=>σ++[j0 (jc (·.name) pre),j0 (mO id (slotsOf pre))])
  (λ_=>(.exit 1,[.lbx (fA ⟨pn,ps,l⟩),.ah 0,.ah (l.length:Int)],σ++[j0 (jc (·.name) l),j0 (mO id (slotsOf l))]))
  (λpre _ r=>(.ret,[.lbx (fA ⟨pn,ps,l⟩),.ah r,.ah (pre.length:Int)],σ++[j0 (jc (·.name) pre),j0 (mO id (slotsOf pre))]))
  (λ_ _=>True) () (λ_=>δ (ε 0,σ)) (λr=>δ (ε r,σ)) ?_ ?_ trivial (λ_ _ _ _ _ _ _ _=>trivial) ?_ ?_).trans ?_
 ·intro pre x rest u hl _;have hx:=oJ hl;have hlt:=pP hl;have hi1:Ξ.wrap ((pre.length:Int)+1)=(pre.length:Int)+1:=dY (by unfold bA;omega);have hi2:Ξ.wrap ((pre.length:Int) -1)=(pre.length:Int) -1:=dY (by unfold bA;omega);have hlt':(pre.length:Int)<(l.length:Int):=by omega
  obtain⟨k1,k2,k3,k4,k5,k6⟩:=LV.2 x (by rw[hl];simp);have hNx:=J2 _ k1;have hRx:=alu _ k6;have lC:=nG 7 iS l hx;clear hl hx hlt LV M8 GA h0 mR k1 k2 k3 k4 k5 k6 hnm hps hN hn hz;simp only[aQ,reduceCtorEq,IP,IQ,IS,IT,IU,IV,IW,Jy,Jq,JF,nw,nA,nB,nD,nC,nE,hlt',lC,iQ,zR,hi1,hi2,hNx,hRx,List.map_id]
  repeat' ((first|rw[uX]|rw[uW]|rw[uU]|rw[uJ]|rw[uT]|rw[uS]);split<;>try simp only[aQ,reduceCtorEq,IP,IQ,IS,IT,IU,IV,IW,Jy,Jq,JF,nw,nA,nB,nD,nC,nE,iQ,zR,List.map_id,Qg,akO,Bool.or_false, *])
  all_goals first|rfl|(simp_all;done)|(simp_all [OJ,Qg];done)|(simp only[OJ,ite_false,ite_true,if_false,if_true, *]<;>simp_all)
 ·intro u _;simp only[aQ,reduceCtorEq,YK]
 ·intro u _;simp only[aQ,reduceCtorEq]
 ·intros;simp only[aQ,reduceCtorEq]
 ·refine(Fc (qn:=Gw ps) ?_ ?_ (λn=>δ (ε n,σ)) l []).trans ?_
  ·intro pre;rfl
  ·intro pre x rest;rw[Gw];simp only[AE,vX,we]
  ·rfl
theorem Xf(l:List cO)(hok:fD Fm l)(σ:Heap):HQ [sl 3 fA l] σ=δ (.ah (tJ l),σ):=by
 refine wrap_eq rfl ?_ rfl;show HS (sl 3 fA l) σ=_;unfold HS tJ;simp only[aQ,reduceCtorEq];by_cases Bd:60<l.length
 ·have wD:(60:Int)<l.length:=by omega
  simp only[aQ,reduceCtorEq,Bd,wD]
 have wD:¬(60:Int)<l.length:=by omega
 simp only[aQ,reduceCtorEq,Bd,wD]
 refine(oG (S:=Unit) (R:=Int) l (λpre x _=>if oH x=0 then(if gy x.name (pre.map (·.name))=ι then .out 6 else .go ())else .out (oH x))
  (λpre _=>[.ah 0,.ah (pre.length:Int)]) (λpre _=>σ++[j0 (jc (·.name) pre)])
  (λ_=>(.exit 0,[.ah 0,.ah (l.length:Int)],σ++[j0 (jc (·.name) l)])) (λpre _ r=>(.ret,[.ah r,.ah (pre.length:Int)],σ++[j0 (jc (·.name) pre)]))
  (λ_ _=>True) () (λ_=>δ (ε 0,σ)) (λr=>δ (ε r,σ)) ?_ ?_ trivial (λ_ _ _ _ _ _ _ _=>trivial) ?_ ?_).trans ?_
 ·intro pre x rest u hl _;have hx:=oJ hl;have hlt:=pP hl;have hi1:Ξ.wrap ((pre.length:Int)+1)=(pre.length:Int)+1:=dY (by unfold bA;omega);have hi2:Ξ.wrap ((pre.length:Int) -1)=(pre.length:Int) -1:=dY (by unfold bA;omega);have hlt':(pre.length:Int)<(l.length:Int):=by omega
  have hP:=akd x (hok.2 x (by rw[hl];simp));have lC:=nG 3 fA l hx;clear hl hx hlt hok Bd wD;simp only[aQ,reduceCtorEq,nw,nA,nB,nD,nC,nE,hlt',lC,hi1,hP]
  repeat' ((first|rw[uX]|rw[uW]|rw[uU]|rw[uJ]|rw[uT]|rw[uS]);split<;>try simp only[aQ,reduceCtorEq,nw,nA,nB,nD,nC,nE, *])
  all_goals first|with_reducible rfl|(simp [*];done)|(simp_all;done)|(simp_all;omega)|rfl
 ·intro u _;simp only[aQ,reduceCtorEq,YK]
 ·intro u _;simp only[aQ,reduceCtorEq]
 ·intros;simp only[aQ,reduceCtorEq]
 ·refine(Fc (qn:=wC) ?_ ?_ (λn=>δ (ε n,σ)) l []).trans ?_
  ·intro pre;rfl
  ·intro pre x rest;rw[wC];simp only[AE,vX,we]
  ·rfl
theorem QS{α:Type}(p:α->Bool)(l:List α):decide (0<=mg p l)=l.any p:=by
 rcases BY p l with⟨h1,h2,_⟩|⟨k,x,h1,h2,h3,_⟩
 ·rw[h1,nS];simp only[decide_eq_true_eq,alW];exact⟨λh=>by omega,λ⟨x,hx,hp⟩=>by rw[h2 x hx]at hp;cases hp⟩
 ·rw[h3,nS];simp only[decide_eq_true_eq,alW];exact⟨λ_=>⟨x,bR h1,h2⟩,λ_=>by omega⟩
theorem adO(dyn:Nat->aq->Heap->aG)(l:List cO)(hl:l.length<=bD)(n:Nat)(caps:aq)(p:cO->Bool)(σ:Heap)(hd:∀x∈l,dyn n ((.agg (fA x):AV)::caps) σ=δ (.bool (p x),σ)):Ex dyn [sl 3 fA l,.fn n caps] σ=δ (.ah (mg p l),σ):=by
 refine wrap_eq rfl ?_ rfl;show Ez dyn (sl 3 fA l) (.fn n caps) σ=_;unfold Ez;simp only[aQ,reduceCtorEq]
 refine(oG (S:=Unit) (R:=Int) l (λpre x _=>if p x=ι then .out (pre.length:Int)else .go ())
  (λpre _=>[.ah 0,.ah (pre.length:Int)]) (λ_ _=>σ) (λ_=>(.exit 0,[.ah 0,.ah (l.length:Int)],σ)) (λpre _ r=>(.ret,[.ah (pre.length:Int),.ah (pre.length:Int)],σ))
  (λ_ _=>True) () (λ_=>δ (ε (-1),σ)) (λr=>δ (ε r,σ)) ?_ ?_ trivial (λ_ _ _ _ _ _ _ _=>trivial) ?_ ?_).trans ?_
 ·intro pre x rest u hl' _;have hx:=oJ hl';have hlt:=pP hl';have hi1:Ξ.wrap ((pre.length:Int)+1)=(pre.length:Int)+1:=dY (by unfold bA;unfold bD at hl;omega);have hlt':(pre.length:Int)<(l.length:Int):=by omega
  have lC:=nG 3 fA l hx;have DF:=hd x (by rw[hl'];simp);simp only[aQ,reduceCtorEq,nw,nA,nB,nD,nC,nE,hlt',lC,A.gP,iI,Xk,DF,hi1];cases p x<;>simp [aQ,reduceCtorEq]
 ·intro u _;simp only[aQ,reduceCtorEq,YK]
 ·intro u _;simp only[aQ,reduceCtorEq]
 ·intro pre x rest s q hl' _ hb
  have:q=(pre.length:Int):=by
   cases hpx:p x
   ·rw[hpx]at hb;cases hb
   ·rw[hpx]at hb;simp at hb;exact hb.symm
  simp only[aQ,reduceCtorEq,this]
 ·rw[Cc p _ _ l [] (by simp)];simp only[Xk];split
  ·rename_i h;rw[h]
  ·rfl
theorem WH(l:List Int)(hl:l.length<=bD)(k:Int)(σ:Heap):HZ [sl 1 aO l,.ah k] σ=δ (.ah (mg (λx=>decide (k=x)) l),σ):=by
 refine wrap_eq rfl ?_ rfl;show H9 (sl 1 aO l) (.ah k) σ=_;unfold H9;simp only[aQ,reduceCtorEq]
 refine(oG (S:=Unit) (R:=Int) l (λpre x _=>if(λx=>decide (k=x)) x=ι then .out (pre.length:Int)else .go ())
  (λpre _=>[.ah 0,.ah (pre.length:Int)]) (λ_ _=>σ) (λ_=>(.exit 0,[.ah 0,.ah (l.length:Int)],σ)) (λpre _ r=>(.ret,[.ah (pre.length:Int),.ah (pre.length:Int)],σ))
  (λ_ _=>True) () (λ_=>δ (ε (-1),σ)) (λr=>δ (ε r,σ)) ?_ ?_ trivial (λ_ _ _ _ _ _ _ _=>trivial) ?_ ?_).trans ?_
 ·intro pre x rest u hl' _;have hx:=oJ hl';have hlt:=pP hl';have hi1:Ξ.wrap ((pre.length:Int)+1)=(pre.length:Int)+1:=dY (by unfold bA;unfold bD at hl;omega);have hlt':(pre.length:Int)<(l.length:Int):=by omega
  have lC:=nG 1 aO l hx;simp only[aQ,reduceCtorEq,hlt',lC,hi1];by_cases hk:k=x<;>simp [aQ,reduceCtorEq,hk]
 ·intro u _;simp only[aQ,reduceCtorEq,YK]
 ·intro u _;simp only[aQ,reduceCtorEq]
 ·intro pre x rest s q hl' _ hb
  have:q=(pre.length:Int):=by
   by_cases hk:k=x
   ·simp [hk]at hb;exact hb.symm
   ·simp [hk]at hb
  simp only[aQ,reduceCtorEq,this]
 ·rw[Cc (λx=>decide (k=x)) _ _ l [] (by simp)];simp only[Xk];split
  ·rename_i h;rw[h]
  ·rfl
theorem Wr(l:List Int)(hl:l.length<=bD)(k:Int)(σ:Heap):BD [sl 1 aO l,.ah k] σ=δ (.bool (l.any λx=>decide (k=x)),σ):=by refine wrap_eq rfl ?_ rfl;show HX (sl 1 aO l) (.ah k) σ=_;unfold HX;simp only[aQ,reduceCtorEq,WH l hl k σ];refine congrArg δ (congrArg (λb=>(φ b,σ)) ?_);exact QS _ l
theorem Oh(dyn:Nat->aq->Heap->aG)(l:List Int)(hl:l.length<=bD)(n:Nat)(caps:aq)(p:Int->Bool)(σ:Heap)(hd:∀x∈l,dyn n ((.ah x:AV)::caps) σ=δ (.bool (p x),σ)):rD dyn [sl 1 aO l,.fn n caps] σ=δ (.ah (mg p l),σ):=by
 refine wrap_eq rfl ?_ rfl;show ED dyn (sl 1 aO l) (.fn n caps) σ=_;unfold ED;simp only[aQ,reduceCtorEq]
 refine(oG (S:=Unit) (R:=Int) l (λpre x _=>if p x=ι then .out (pre.length:Int)else .go ())
  (λpre _=>[.ah 0,.ah (pre.length:Int)]) (λ_ _=>σ) (λ_=>(.exit 0,[.ah 0,.ah (l.length:Int)],σ)) (λpre _ r=>(.ret,[.ah (pre.length:Int),.ah (pre.length:Int)],σ))
  (λ_ _=>True) () (λ_=>δ (ε (-1),σ)) (λr=>δ (ε r,σ)) ?_ ?_ trivial (λ_ _ _ _ _ _ _ _=>trivial) ?_ ?_).trans ?_
 ·intro pre x rest u hl' _;have hx:=oJ hl';have hlt:=pP hl';have hi1:Ξ.wrap ((pre.length:Int)+1)=(pre.length:Int)+1:=dY (by unfold bA;unfold bD at hl;omega);have hlt':(pre.length:Int)<(l.length:Int):=by omega
  have lC:=nG 1 aO l hx;have DF:=hd x (by rw[hl'];simp);simp only[aQ,reduceCtorEq,hlt',lC,A.gP,iI,Xk,DF,hi1];cases p x<;>simp [aQ,reduceCtorEq]
 ·intro u _;simp only[aQ,reduceCtorEq,YK]
 ·intro u _;simp only[aQ,reduceCtorEq]
 ·intro pre x rest s q hl' _ hb
  have:q=(pre.length:Int):=by
   cases hpx:p x
   ·rw[hpx]at hb;cases hb
   ·rw[hpx]at hb;simp at hb;exact hb.symm
  simp only[aQ,reduceCtorEq,this]
 ·rw[Cc p _ _ l [] (by simp)];simp only[Xk];split
  ·rename_i h;rw[h]
  ·rfl
theorem IZ(nm:ByteArray):∀(l:List cO),gn nm l=match l.find? (λx:cO=>decide (x.name=nm))with|some p=>(p,ι)|none=>(⟨⟨#[]⟩,0,[]⟩,θ)
 |[]=>rfl
 |p::l=>by
  rw[gn];by_cases h:p.name=nm
  ·simp [h]
  ·simp [h,IZ nm l]
theorem Xp(x:cO)(nm:ByteArray)(σ:Heap):BC [.agg (fA x),.rp [.str nm]] σ=δ (.bool (decide (x.name=nm)),σ):=by refine wrap_eq rfl ?_ rfl;show HW (.agg (fA x)) (.rp [.str nm]) σ=_;unfold HW;simp only[aQ,reduceCtorEq,nw,nA,nB,nD,nC,nE];show(δ (u5 nm)).bind _=_;simp only[aQ,reduceCtorEq]
theorem nnP(x:gY):Z3 [.k,.k,.k,.k,.k,.k,(.s 3)] (iS x)=iS x:=rfl
theorem adq(p:cO)(b:Bool):XM GW (.aN [.agg (fA p),.bool b])=.aN [.agg (fA p),.bool b]:=by show YM [.agg [.str p.name,.ah p.size,XM (.e 7 [.k,.k,.k,.k,.k,.k,(.s 3)]) (sl 7 iS p.params)],.bool b]=_;rw[agd nnP];rfl
theorem Pp(l:List cO)(hl:l.length<=bD)(nm:ByteArray)(σ:Heap):EM [sl 3 fA l,.str nm] σ=δ (.aN [.agg (fA (gn nm l).1),.bool (gn nm l).2],σ):=by
 have key:∃w,EN (sl 3 fA l) (.str nm) σ=δ (w,σ)/\XM GW w=.aN [.agg (fA (gn nm l).1),.bool (gn nm l).2]:=by
  unfold EN;simp only[aQ,reduceCtorEq];rw[adO _ l hl 64 [.rp [.str nm]] (λx=>decide (x.name=nm)) σ (λx _=>Xp x nm σ)];simp only[aQ,reduceCtorEq];rw[IZ];rcases BY (λx:cO=>decide (x.name=nm)) l with⟨h1,_,h3⟩|⟨k,x,h1,h2,h3,h4,_⟩
  ·refine⟨.aN [.agg [.str ⟨#[]⟩,.ah 0,.aH],.bool θ],?_,?_⟩
   ·rw[h1];simp only[aQ,reduceCtorEq,show((-1:Int)<0)from by decide];rfl
   ·rw[h3];rfl
  ·refine⟨.aN [.agg (fA x),.bool ι],?_,?_⟩
   ·rw[h3];simp only[aQ,reduceCtorEq,nw,nA,nB,nD,nC,nE,show ¬((k:Int)<0)from by omega,nG 3 fA l h1]
   ·rw[h4];exact adq x ι
 obtain⟨w,h1,h2⟩:=key;exact wrap_eq rfl h1 h2
def marks(f:Nat->Bool):aq:=(ami 513).map λk=>.bool (f k)
theorem Ae(f:Nat->Bool){k:Nat}(h:k<513):(marks f)[k]? =δ (.bool (f k)):=by simp [marks,h]
theorem xz(f:Nat->Bool):(marks f).length=513:=by simp [marks]
theorem PV(f:Nat->Bool){γ:Type}(K1 K2:γ):∀(s a:Nat)(pre:List Nat),(iC (λ_ k(_:Unit)=>if 512<k\/f k=ι then(Rd.out ():Rd Unit Unit)else .go ()) pre (al0 a s) ()).el (λ_=>K1) (λ_=>K2)=if qJ f s a=ι then K1 else K2
 |0,a,pre=>by simp [iC,qJ,Rd.el]
 |s+1,a,pre=>by
  rw[amB,iC,qJ];by_cases h:512<a\/f a=ι
  ·simp only[aC h,Rd.el];simp
  ·simp only[aB h];exact PV f K1 K2 s (a+1) _
theorem abV(a s:Int)(h:bA (a+s))(h':bA (a+s-1))(σ:Heap):zA [.np,.ah a,.ah s] σ=δ (.bool (decide (a+s-1<=512)),σ):=by refine wrap_eq rfl ?_ rfl;show BE .np (.ah a) (.ah s) σ=_;unfold BE;simp only[aQ,reduceCtorEq,show z7 .p amo amo=δ (.bool ι)from rfl,dY h,dY h']
theorem aaA(cs:aq){k:Nat}(h:k<513):A.th 513 1 (.rp cs) (.ah (k:Int))=δ (.rp (cs.drop k)):=by
 have h1:A.idx 513 (.ah (k:Int))=δ k:=by show(if(0:Int)<=(k:Int)/\(k:Int)<((513:Nat):Int)then δ (k:Int).toNat else η)=δ k;rw[aC ⟨by omega,by omega⟩];rfl
 unfold A.th;rw[h1];simp only[aL,Nat.mul_one]
theorem abX(f:Nat->Bool)(a s:Nat)(hs:a<=1024/\s<=1024)(σ:Heap):zA [.rp (marks f),.ah (a:Int),.ah (s:Int)] σ=δ (.bool (qJ f s a),σ):=by
 refine wrap_eq rfl ?_ rfl;show BE (.rp (marks f)) (.ah (a:Int)) (.ah (s:Int)) σ=_;unfold BE;have hw:Ξ.wrap ((a:Int)+s)=(a:Int)+s:=dY (by unfold bA;omega);simp only[aQ,reduceCtorEq,show z7 .p (Zh (marks f)) amo=δ (.bool θ)from rfl,hw]
 refine(oG (S:=Unit) (R:=Unit) (al0 a s) (λ_ k(_:Unit)=>if 512<k\/f k=ι then(Rd.out ():Rd Unit Unit)else .go ())
  (λpre _=>[.bool θ,.ah ((a:Int)+(pre.length:Int))]) (λ_ _=>σ) (λ_=>(.exit 0,[.bool θ,.ah ((a:Int)+s)],σ)) (λpre _ _=>(.ret,[.bool θ,.ah ((a:Int)+(pre.length:Int))],σ))
  (λ_ _=>True) () (λ_=>δ (φ ι,σ)) (λ_=>δ (φ θ,σ)) ?_ ?_ trivial (λ_ _ _ _ _ _ _ _=>trivial) ?_ ?_ (hv:=by simp)).trans ?_
 ·intro pre k rest u hl _;have hx:=oJ hl;have hlt:=pP hl;rw[Zf]at hlt
  obtain rfl:a+pre.length=k:=by have:=(bB.1 hx).2;simpa [List.getElem_range']using this
  have hlt':(a:Int)+(pre.length:Int)<(a:Int)+s:=by omega
  have hi1:Ξ.wrap ((a:Int)+(pre.length:Int)+1)=(a:Int)+((pre.length:Int)+1):=by rw[dY (by unfold bA;omega)];omega
  have ecast:(a:Int)+(pre.length:Int)=((a+pre.length:Nat):Int):=by omega
  clear hl hx;by_cases h5:512<a+pre.length
  ·have M9:(512:Int)<(a:Int)+(pre.length:Int):=by omega
   simp only[aQ,reduceCtorEq,hlt',h5,M9]
  have M9:¬(512:Int)<(a:Int)+(pre.length:Int):=by omega
  have hp:Θ 0 ((marks f).drop (a+pre.length))=δ (.bool (f (a+pre.length))):=by rw[NK];simp only[Θ,Nat.add_zero,Ae f (show a+pre.length<513 by omega)];rfl
  simp only[aQ,reduceCtorEq,hlt',h5,M9,show A.gZ (Zh (marks f))=δ (.rp (marks f))from rfl];rw[ecast,aaA _ (by omega)];simp only[aQ,reduceCtorEq,hp];cases hf:f (a+pre.length)
  ·simp only[aQ,reduceCtorEq,<-ecast,hi1]
  ·simp only[aQ,reduceCtorEq,<-ecast]
 ·intro u _;rw[Zf];exact Cb _ _ _
 ·intro u _;simp only[aQ,reduceCtorEq]
 ·intros;simp only[aQ,reduceCtorEq]
 ·rw[PV];cases qJ f s a<;>rfl
theorem abW(f:Nat->Bool)(a s:Nat)(hs:a<=1024/\s<=1024){σ:Heap}{id:Nat}(h:σ[id]? =δ (.box (marks f))):zA [.op id 0,.ah (a:Int),.ah (s:Int)] σ=δ (.bool (qJ f s a),σ):=by
 refine FO (args':=[.rp (marks f),.ah (a:Int),.ah (s:Int)]) rfl ?_ rfl (abX f a s hs []) rfl
 have e:A.qK σ 0 7 (marks f)=δ (marks f):=by
  have key:∀(l:List Nat),A.qK σ 0 7 (l.map λk=>φ (f k))=δ (l.map λk=>φ (f k)):=by
   intro l;induction l with
   |nil=>simp [A.qK]
   |cons x l ih=>simp [A.qK,Ya,ih]
  exact key _
 simp [XT,Ya,h,e]
def pG(b:Nat):List Int->List (AV×AV)
 |[]=>[]
 |v::r=>(.int Ξ v,.op b 0)::pG (b+1) r
def fu(σ:Heap)(vs:List Int)(f:Int->Nat->Bool):Heap:=σ++(j0 (pG (σ.length+1) vs)::vs.map λv=>WE (marks (f v)))
theorem Rb(v:Int):∀(vs:List Int)(b:Nat),pG b (vs++[v])=pG b vs++[(.ah v,.op (b+vs.length) 0)]
 |[],b=>rfl
 |w::r,b=>by simp only[iI,pG,Rb v r (b+1),b9];rw[show b+1+r.length=b+(r.length+1) by omega]
theorem FN(v:Int):∀(vs:List Int)(b:Nat),ZD .i (.ah v) (pG b vs)=δ (if v∈vs then δ (.op (b+vs.idxOf v) 0)else η)
 |[],b=>rfl
 |w::r,b=>by
  simp only[pG,ZD,YB,A.lz,if_true,aL];by_cases h:v=w
  ·subst h;simp
  ·have h1:(v==w)=θ:=by simpa using h
   have h2:(w==v)=θ:=by simpa using λe:w=v=>h e.symm
   simp only[h1,aS,FN v r (b+1),eo,h,false_or,List.idxOf_cons,h2];rw[show b+1+r.idxOf v=b+(r.idxOf v+1) by omega]
theorem Sf(v:Int)(w:AV):∀(vs:List Int)(b:Nat),v∉vs->A.upd .i (.ah v) w (pG b vs)=δ (pG b vs++[(.ah v,w)])
 |[],b,_=>rfl
 |x::r,b,h=>by
  simp only[eo,not_or]at h;have h1:(v==x)=θ:=by simpa using h.1
  simp only[pG,A.upd,YB,A.lz,if_true,aL,h1,aS,Sf v w r (b+1) h.2,dL,iI]
theorem Si(σ:Heap)(vs:List Int)(f:Int->Nat->Bool):(fu σ vs f).length=σ.length+1+vs.length:=by simp [fu];omega
theorem F2(σ:Heap)(vs:List Int)(f:Int->Nat->Bool):(fu σ vs f)[σ.length]? =δ (.map (pG (σ.length+1) vs)):=by simp [fu]
theorem Sg(σ:Heap){vs:List Int}(f:Int->Nat->Bool){v:Int}(h:v∈vs):(fu σ vs f)[σ.length+1+vs.idxOf v]? =δ (.box (marks (f v))):=by
 unfold fu;rw[iH (by omega),show σ.length+1+vs.idxOf v-σ.length=vs.idxOf v+1 by omega,XC,wu]
 have:vs[vs.idxOf v]? =δ v:=by have hl:=List.idxOf_lt_length_of_mem h;rw[cA hl,List.getElem_idxOf hl]
 rw[this];rfl
theorem acJ(σ:Heap){vs:List Int}(hn:vs.Nodup){f f':Int->Nat->Bool}{v:Int}(h:v∈vs)(ho:∀w,w≠v->f' w=f w):(fu σ vs f).set (σ.length+1+vs.idxOf v) (.box (marks (f' v)))=fu σ vs f':=by
 unfold fu;rw[xQ _ _ (by omega),show σ.length+1+vs.idxOf v-σ.length=vs.idxOf v+1 by omega,List.set_cons_succ];refine congrArg (λz=>σ++(j0 (pG (σ.length+1) vs)::z)) ?_;clear σ;induction vs with
 |nil=>cases h
 |cons w r ih=>
  rw[xR]at hn;rw[List.idxOf_cons];by_cases e:w=v
  ·subst e;simp only[beq_self_eq_true,bg,bU,amk];exact congrArg (WE (marks (f' w))::·) (Wk λx hx=>by rw[ho x (λe=>hn.1 (e▸hx))])
  ·have e2:(w==v)=θ:=by simpa using e
   simp only[e2,aS,bU,List.set_cons_succ];rw[ih hn.2 ((eo.1 h).resolve_left λq=>e q.symm),ho w e]
theorem acI(σ:Heap)(vs:List Int){f:Int->Nat->Bool}{v:Int}(h:∀k,f v k=θ):((fu σ vs f)++[WE (e8 513 aZ)]).set σ.length (.map (pG (σ.length+1) (vs++[v])))=fu σ (vs++[v]) f:=by
 have e:marks (f v)=e8 513 aZ:=by rw[show f v=λ_=>θ from funext h];refine List.eq_replicate_iff.2 ⟨xz _,λb hb=>?_⟩;obtain⟨k,_,rfl⟩:=fK.1 hb;rfl
 unfold fu;simp only[nR,iI];rw[xQ _ _ (bJ _),ama,amk,Tm,bU,e];rfl
theorem ai9(g g':Nat->Bool){k:Nat}(hk:k<513)(h1:g' k=ι)(h2:∀j,j≠k->g' j=g j):y9 k [φ ι] (marks g)=δ (marks g'):=by
 unfold y9;rw[aC (by rw[xz];simp;omega)];refine congrArg δ (List.ext_getElem? λj=>?_);simp only[nR,iI,Xk,b9,Zk];by_cases hj:j<k
 ·rw[fZ (by rw[nT,xz];omega),Wo hj,Ae _ (by omega),Ae _ (by omega),h2 j (by omega)]
 ·rw[iH (by rw[nT,xz];omega),nT,xz,Nat.min_eq_left (by omega)];by_cases e:j=k
  ·subst e;rw[ama,Xw,Ae _ hk,h1]
  ·rw[show j-k=(j-k-1)+1 by omega,XC,WI,show k+(0+1)+(j-k-1)=j by omega];by_cases hj2:j<513
   ·rw[Ae _ hj2,Ae _ hj2,h2 j e]
   ·rw[iW (by rw[xz];omega),iW (by rw[xz];omega)]
theorem Gb{α γ:Type}(K1:Unit->γ)(K2:Unit->γ):∀(l pre:List α),(iC (λ_(x:α)(_:Unit)=>(Rd.go ():Rd Unit Unit)) pre l ()).el K1 K2=K1 ()
 |[],pre=>rfl
 |x::l,pre=>by rw[iC];exact Gb K1 K2 l _
theorem Pr{α S:Type}{body:List α->α->S->Rd S Int}{qn:List α->List α->Int}(h0:∀pre,qn pre []=0)(h:∀pre x rest s,qn pre (x::rest)=(body pre x s).el (λ_=>qn (pre++[x]) rest) (λr=>r)) {γ:Type} (K:Int->γ):
  ∀(l pre:List α)(s:S),(iC body pre l s).el (λ_=>K 0) K=K (qn pre l)
 |[],pre,s=>by rw[iC,h0];rfl
 |x::l,pre,s=>by
  rw[iC,h pre x l s];cases body pre x s with
  |go s'=>exact Pr h0 h K l (pre++[x]) s'
  |out r=>rfl
theorem Zi(f:Int->Nat->Bool)(v:Int)(a:Nat):jX f v a 0=f:=by funext w k;unfold jX;rw[aB (by omega)]
theorem Qp{γ:Type}(σ:Heap){vs:List Int}(hn:vs.Nodup)(f:Int->Nat->Bool)(u:dZ)(a s:Nat)(ha:u.address=a)(hs:a+s<=513)(hm:u.univ∈vs)(K:aq->Heap->Option γ):
  (s9 (λv11 zc=>
   ((l9 (aj v11 0)).bind λ_=>δ (3)).bind λp13=>
   ((l9 (aj v11 0)).bind λiu=>Θ p13 iu).bind λdz=>
   (o7 dz (.ah (s:Int))).bind λcu=>
   (p9 (aj v11 1) cu).bind λdD=>
   χ dD (
    ((l9 (aj v11 0)).bind λ_=>δ (2)).bind λp18=>
    ((l9 (aj v11 0)).bind λuQ=>Θ p18 uQ).bind λeW=>
    (Z8 .i (.om σ.length) eW amo zc).bind λdA=>
    (A.gZ dA).bind λdO=>
    (A.th 513 1 dO (aj v11 1)).bind λcV=>
    (u7 cV [φ ι] zc).bind λjd=>
    (o7 (aj v11 1) (ε 1)).bind λfS=>
    δ (ir,[(aj v11 0),fS],jd)) (
    δ (Γ 0,[(aj v11 0),(aj v11 1)],zc))) [.lbx (dJ u),.ah (a:Int)] (fu σ vs f)).bind (λjf=>
 bif decide (jf.1=Γ 0)then K jf.2.1 jf.2.2 else η)=K [.lbx (dJ u),.ah ((a:Int)+s)] (fu σ vs (jX f u.univ a s)):=by
 have hw:Ξ.wrap ((a:Int)+s)=(a:Int)+s:=dY (by unfold bA;omega)
 refine(oG (S:=Unit) (R:=Unit) (al0 a s) (λ_ k(_:Unit)=>(Rd.go ():Rd Unit Unit))
  (λpre _=>[.lbx (dJ u),.ah ((a:Int)+(pre.length:Int))]) (λpre _=>fu σ vs (jX f u.univ a pre.length)) (λ_=>(.exit 0,[.lbx (dJ u),.ah ((a:Int)+s)],fu σ vs (jX f u.univ a s))) (λpre _ _=>(.ret,[],σ))
  (λ_ _=>True) () (λ_=>K [.lbx (dJ u),.ah ((a:Int)+s)] (fu σ vs (jX f u.univ a s))) (λ_=>η) ?_ ?_ trivial (λ_ _ _ _ _ _ _ _=>trivial) ?_ ?_ (hv:=by simp) (ew:=by rw[Zk,Zi])).trans (Gb _ _ _ _)
 ·intro pre k rest t hl _;have hx:=oJ hl;have hlt:=pP hl;rw[Zf]at hlt
  obtain rfl:a+pre.length=k:=by have:=(bB.1 hx).2;simpa [List.getElem_range']using this
  have hlt':(a:Int)+(pre.length:Int)<(a:Int)+s:=by omega
  have hi1:Ξ.wrap ((a:Int)+(pre.length:Int)+1)=(a:Int)+((pre.length:Int)+1):=by rw[dY (by unfold bA;omega)];omega
  have ecast:(a:Int)+(pre.length:Int)=((a+pre.length:Nat):Int):=by omega
  clear hl hx
  have Cx:Z8 .i (.om σ.length) (.ah u.univ) amo (fu σ vs (jX f u.univ a pre.length))=δ (.op (σ.length+1+vs.idxOf u.univ) 0):=by rw[xE .i rfl (F2 σ vs _),FN,aC hm];rfl
  have afQ:A.th 513 1 (.op (σ.length+1+vs.idxOf u.univ) 0) (.ah ((a+pre.length:Nat):Int))=δ (.op (σ.length+1+vs.idxOf u.univ) (a+pre.length)):=by
   have h1:A.idx 513 (.ah ((a+pre.length:Nat):Int))=δ (a+pre.length):=by show(if(0:Int)<=((a+pre.length:Nat):Int)/\((a+pre.length:Nat):Int)<((513:Nat):Int)then δ ((a+pre.length:Nat):Int).toNat else η)=_;rw[aC ⟨by omega,by omega⟩];rfl
   unfold A.th;rw[h1];simp only[aL,Nat.mul_one,Gs]
  have hst:u7 (.op (σ.length+1+vs.idxOf u.univ) (a+pre.length)) [.bool ι] (fu σ vs (jX f u.univ a pre.length))=δ (fu σ vs (jX f u.univ a (pre.length+1))):=by
   simp only[u7,Sg σ _ hm]
   rw[ai9 _ (jX f u.univ a (pre.length+1) u.univ) (by omega) (by unfold jX;rw[aC ⟨rfl,by omega,by omega⟩]) (λj hj=>by
    unfold jX;by_cases q:a<=j/\j<a+pre.length
    ·rw[aC ⟨rfl,by omega,by omega⟩,aC ⟨rfl,q.1,q.2⟩]
    ·rw[aB (by omega),aB (by omega)])]
   simp only[dL];rw[acJ σ hn hm (λw hw=>by funext j;unfold jX;rw[aB (λq=>hw q.1),aB (λq=>hw q.1)])]
  simp only[aQ,reduceCtorEq,jU,lH,lI,lJ,kK,jW,kL,ha,hw,hlt',Cx,show A.gZ (.op (σ.length+1+vs.idxOf u.univ) 0)=δ (.op (σ.length+1+vs.idxOf u.univ) 0)from rfl];rw[ecast,afQ];simp only[aQ,reduceCtorEq,hst,<-ecast,hi1]
 ·intro t _;rw[Zf];simp only[aQ,reduceCtorEq,jU,lH,lI,lJ,kK,jW,kL,ha,hw,YK]
 ·intro t _;simp only[aQ,reduceCtorEq]
 ·intro pre x rest t r _ _ hb;cases hb
theorem acF(σ:Heap){vs:List Int}(hn:vs.Nodup)(f:Int->Nat->Bool)(u:dZ)(a s:Nat)(ha:u.address=a)(hs:a+s<=513)(hf:u.univ∉vs->∀k,f u.univ k=θ):
  EP [.om σ.length,.agg (dJ u),.ah (s:Int)] (fu σ vs f)=δ (.aN [],fu σ (if u.univ∈vs then vs else vs++[u.univ]) (jX f u.univ a s)):=by
 have e:BL (.om σ.length) (.agg (dJ u)) (.ah (s:Int)) (fu σ vs f)=δ (.aN [],fu σ (if u.univ∈vs then vs else vs++[u.univ]) (jX f u.univ a s)):=by
  unfold BL
  have Cx:Z8 .i (.om σ.length) (.ah u.univ) amo (fu σ vs f)=δ (if u.univ∈vs then .op (σ.length+1+vs.idxOf u.univ) 0 else .np):=by rw[xE .i rfl (F2 σ vs _),FN];by_cases hm:u.univ∈vs<;>simp [hm]
  simp only[aQ,reduceCtorEq,jU,lH,lI,lJ,kK,jW,kL,Cx];by_cases hm:u.univ∈vs
  ·simp only[aC hm,show z7 .p (.op (σ.length+1+vs.idxOf u.univ) 0) amo=δ (.bool θ)from rfl,aQ,reduceCtorEq,jU,lH,lI,lJ,kK,jW,kL,ha];exact Qp σ hn f u a s ha hs hm λ_ h=>δ (YM [],h)
  ·have Ny:Z9 .i (.om σ.length) (.ah u.univ) (.op (fu σ vs f).length 0) (fu σ vs f++[WE (e8 513 aZ)])=δ (fu σ (vs++[u.univ]) f):=by rw[Cm .i rfl (es:=pG (σ.length+1) vs) (by rw[fZ (by rw[Si];omega)];exact F2 σ vs f),Sf _ _ _ _ hm];rw[dL,Si,<-Rb,acI σ vs (hf hm)]
   simp only[aB hm,show z7 .p amo amo=δ (.bool ι)from rfl,aQ,reduceCtorEq,jU,lH,lI,lJ,kK,jW,kL,Ny,ha];exact Qp σ (by rw[List.nodup_append];exact⟨hn,by simp,λx hx y hy e=>hm (by simp at hy;rw[<-hy,<-e];exact hx)⟩) f u a s ha hs (by simp) λ_ h=>δ (YM [],h)
 unfold EP Φ;rw[Wt,aS];show(BL (.om σ.length) (.agg (dJ u)) (.ah (s:Int)) (fu σ vs f)).map _=_;rw[e];rfl
theorem Zm{α:Type}(f:α->Int){l pre rest:List α}{x:α}(h:l=pre++x::rest)(n:Int):(∃y,0<pre.length/\l[pre.length-1]? =δ y/\yf (pre.map f) n=decide (n<=f y))\/(¬0<pre.length/\yf (pre.map f) n=θ):=by
 by_cases h0:0<pre.length
 ·obtain⟨y,hy,hy2⟩:=QY h h0;exact .inl ⟨y,h0,hy2,by simp [yf,List.getLast?_map,hy]⟩
 ·obtain rfl:pre=[]:=uG (by omega);exact .inr ⟨h0,rfl⟩
theorem abr(σ:Heap)(vs:List Int)(f:Int->Nat->Bool)(v:Int):Z8 .i (.om σ.length) (.ah v) amo (fu σ vs f)=δ (if v∈vs then .op (σ.length+1+vs.idxOf v) 0 else .np):=by rw[xE .i rfl (F2 σ vs _),FN];by_cases hm:v∈vs<;>simp [hm]
theorem Rr(σ:Heap)(vs:List Int)(f:Int->Nat->Bool)(n:Int):e9 σ (.ah n) (fu σ vs f)=δ (.ah n,σ):=J8 _ _ _ _
theorem IF(r:cS)(hok:pW r)(σ:Heap):EH [.agg (cZ r)] σ=δ (.ah (gJ r),σ):=by
 refine wrap_eq rfl ?_ rfl;show H6 (.agg (cZ r)) σ=_;obtain⟨LU,hus⟩:=hok;have Nq:=LU.1;unfold H6 gJ;simp only[aQ,reduceCtorEq,sR,rG,rN,rM,sX,Xf _ LU];by_cases hf:tJ r.cB=0;case neg=>simp only[aQ,reduceCtorEq,hf]
 by_cases h4:400<r.eZ.length
 ·have h4':(400:Int)<r.eZ.length:=by omega
  simp only[aQ,reduceCtorEq,sR,rG,rN,rM,sX,hf,h4,h4']
 have h4':¬(400:Int)<r.eZ.length:=by omega
 simp only[aQ,reduceCtorEq,sR,rG,rN,rM,sX,hf,h4,h4'];have SG:=akG hf;generalize He:r.eZ=l at *
 refine(oG (S:=List Int×(Int->Nat->Bool)) (R:=Int) l (λpre u s=>if bu u.aI 1 9999=θ then .out 1
    else if yf (pre.map (·.aI)) u.aI=ι then .out 7
    else if(gn u.gM r.cB).2=θ then .out 5
    else if bu u.univ 1 64=θ\/bu u.address 1 512=θ\/512<lU r.cB u then .out 1
    else if AD r.cB u pre=ι then .out 12 else .go (if u.univ∈s.1 then s.1 else s.1++[u.univ],jX s.2 u.univ u.address.toNat (gn u.gM r.cB).1.size.toNat))
  (λpre _=>[.lbx (cZ r),.ah 0,.ah (pre.length:Int)]) (λpre s=>fu σ s.1 s.2)
  (λs=>(.exit 0,[.lbx (cZ r),.ah 0,.ah (l.length:Int)],fu σ s.1 s.2)) (λpre s n=>(.ret,[.lbx (cZ r),.ah n,.ah (pre.length:Int)],fu σ s.1 s.2))
  (λpre s=>Ch r.cB pre/\vW r.cB pre s.2/\s.1.Nodup/\∀v,v∉s.1->∀k,s.2 v k=θ) ([],λ_ _=>θ) (λ_=>δ (ε 0,σ)) (λn=>δ (ε n,σ)) ?_ ?_ ⟨(by intro x hx;simp at hx),vW.nil _,ZX,λ_ _ _=>rfl⟩ ?_ ?_ ?_).trans ?_
 ·intro pre u rest s hl hP;have hx:=oJ hl;have hlt:=pP hl;have hi1:Ξ.wrap ((pre.length:Int)+1)=(pre.length:Int)+1:=dY (by unfold bA;omega);have hi2:Ξ.wrap ((pre.length:Int) -1)=(pre.length:Int) -1:=dY (by unfold bA;omega);have hlt':(pre.length:Int)<(l.length:Int):=by omega
  have hmp:pre.length<=bD:=by unfold bD;omega
  have lC:=nG 4 dJ l hx;have G4:=Pp r.cB Nq u.gM;have ho:=Zm (·.aI) hl u.aI;obtain⟨vs,f⟩:=s;obtain⟨DA,DB,Be,Bf⟩:=hP;dsimp only at DA DB Be Bf ⊢;clear hus h4 h4' hl hx;simp only[aQ,reduceCtorEq,jU,lH,lI,lJ,kK,jW,kL,sR,rG,rN,rM,sX,He,hlt',lC,G4,nw,nA,nB,nD,nC,nE,iQ];cases h1:bu u.aI 1 9999
  ·simp only[aQ,reduceCtorEq]
  simp only[aQ,reduceCtorEq];rcases ho with⟨y,h0,hy,ho⟩|⟨h0,ho⟩
  case' inl=>
   have mR:(0:Int)<pre.length:=by omega
   have LQ:=Pe 4 dJ l h0 hy;by_cases hq:u.aI<=y.aI
   ·simp only[aQ,reduceCtorEq,jU,lH,lI,lJ,kK,jW,kL,sR,rG,rN,rM,sX,He,mR,hi2,LQ,ho,hq]
   simp only[aQ,reduceCtorEq,jU,lH,lI,lJ,kK,jW,kL,sR,rG,rN,rM,sX,He,mR,hi2,LQ,ho,hq]
  case' inr=>
   have mR:¬(0:Int)<pre.length:=by omega
   simp only[aQ,reduceCtorEq,mR,ho]
  all_goals
   try simp only[aQ,reduceCtorEq,jU,lH,lI,lJ,kK,jW,kL,sR,rG,rN,rM,sX,He,G4]
   cases hp:(gn u.gM r.cB).2
   ·simp only[aQ,reduceCtorEq,nw,nA,nB,nD,nC,nE]
   have hsz:=SG _ (Jj _ _ hp);try simp only[aQ,reduceCtorEq,jU,lH,lI,lJ,kK,jW,kL,nw,nA,nB,nD,nC,nE,iQ]
   cases hu:bu u.univ 1 64
   ·simp only[aQ,reduceCtorEq]
   cases ha:bu u.address 1 512
   ·simp only[aQ,reduceCtorEq,jU,lH,lI,lJ,kK,jW,kL,iQ,ha]
   have ha':1<=u.address/\u.address<=512:=by simpa [bu]using ha
   have hw1:Ξ.wrap (u.address+(gn u.gM r.cB).1.size)=u.address+(gn u.gM r.cB).1.size:=dY (by unfold bA;omega);have VM:Ξ.wrap (u.address+(gn u.gM r.cB).1.size-1)=lU r.cB u:=dY (by unfold bA;omega);have hlu:lU r.cB u=u.address+(gn u.gM r.cB).1.size-1:=rfl;by_cases h5:512<lU r.cB u
   ·simp only[aQ,reduceCtorEq,jU,lH,lI,lJ,kK,jW,kL,nw,nA,nB,nD,nC,nE,iQ,ha,hw1,VM,h5]
   obtain⟨a,Nc⟩:∃a:Nat,u.address=a:=⟨u.address.toNat,by omega⟩
   obtain⟨n,hne⟩:∃n:Nat,(gn u.gM r.cB).1.size=n:=⟨(gn u.gM r.cB).1.size.toNat,by omega⟩
   have G8:=Y7 DB DA u a n Nc (by omega) (by omega) (by omega)
   have hfree:zA [if u.univ∈vs then .op (σ.length+1+vs.idxOf u.univ) 0 else .np,.ah (a:Int),.ah (n:Int)] (fu σ vs f)=δ (.bool (!AD r.cB u pre),fu σ vs f):=by
    by_cases hm:u.univ∈vs
    ·rw[aC hm,abW (f u.univ) a n (by omega) (Sg σ f hm),G8]
    ·rw[aB hm,abV a n (by unfold bA;omega) (by unfold bA;omega),<-G8];have e:qJ (f u.univ) n a=ι:=(Jt _ _ _).2 λk h1 h2=>⟨by omega,Bf _ hm k⟩
     rw[e,show decide ((a:Int)+n-1<=512)=ι from ga (by omega)]
   have oq:=acF σ Be f u a n Nc (by omega) (Bf u.univ);simp only[aQ,reduceCtorEq,jU,lH,lI,lJ,kK,jW,kL,nw,nA,nB,nD,nC,nE,iQ,ha,hw1,VM,h5,abr];rw[Nc,hne];simp only[aQ,reduceCtorEq,hfree];cases hc:AD r.cB u pre
   ·simp only[aQ,reduceCtorEq,jU,lH,lI,lJ,kK,jW,kL,nw,nA,nB,nD,nC,nE,hne,oq,hi1,amV]
   ·simp only[aQ,reduceCtorEq]
 ·intro s _;exact Cb _ _ _
 ·intro pre u rest s s' hl hP hb;obtain⟨vs,f⟩:=s;obtain⟨DA,DB,Be,Bf⟩:=hP;dsimp only at DA DB Be Bf hb;split at hb
  ·cases hb
  split at hb
  ·cases hb
  split at hb
  ·cases hb
  rename_i hp;split at hb
  ·cases hb
  rename_i hw;split at hb
  ·cases hb
  injection hb with hb
  subst hb;simp only[not_or,Bool.not_eq_false,bu,eF,decide_eq_true_eq]at hw hp;have hsz:=SG _ (Jj _ _ (by simpa using hp));have hlu:lU r.cB u=u.address+(gn u.gM r.cB).1.size-1:=rfl;refine⟨DA.snoc ⟨hw.2.1.1,by omega,by omega⟩,DB.snoc u u.address.toNat _ (by omega) (by omega),?_,?_⟩
  ·dsimp only;split
   ·exact Be
   ·rename_i hm;rw[List.nodup_append];exact⟨Be,by simp,λx hx y hy e=>hm (by simp at hy;rw[<-hy,<-e];exact hx)⟩
  ·intro v hv k;dsimp only at hv ⊢
   have h1:v≠u.univ/\v∉vs:=by
    split at hv
    ·rename_i hm;exact⟨λe=>hv (e▸hm),hv⟩
    ·simp only[eG,X3,not_or]at hv;exact⟨hv.2,hv.1⟩
   unfold jX;rw[aB (λq=>h1.1 q.1)];exact Bf v h1.2 k
 ·intro s _;simp only[aQ,reduceCtorEq,Rr]
 ·intros;simp only[aQ,reduceCtorEq,Rr]
 ·refine(Pr (qn:=AQ r.cB) ?_ ?_ (λn=>δ (ε n,σ)) l [] _).trans ?_
  ·intro pre;rfl
  ·intro pre x rest s;rw[AQ];simp only[AE,vX,we]
  ·rfl
def nH(fq:List cO)(u:dZ):List cK:=(gn u.gM fq).1.params.map λx=>⟨u.aI,x.name⟩
def pO(r:cS):List cK:=r.eZ.flatMap (nH r.cB)
theorem Xi{p:cO}(h:oH p=0):p.params.length<=40:=by
 unfold oH at h
 repeat' split at h
 all_goals first|(simp at h;done)|omega
theorem O8:∀(l pre:List cO),wC pre l=0->∀p∈l,oH p=0
 |[],pre,h,p,hp=>by simp at hp
 |q::rest,pre,h,p,hp=>by
  rw[wC]at h;by_cases e:oH q=0
  ·rw[aC e]at h;by_cases e2:gy q.name (pre.map (·.name))=ι
   ·rw[aC e2]at h;simp at h
   ·rw[aB e2]at h;simp only[eo]at hp;rcases hp with rfl|hp
    ·exact e
    ·exact O8 rest _ h p hp
  ·rw[aB e]at h;exact absurd h e
theorem abh{r:cS}(h:gJ r=0):tJ r.cB=0:=by
 unfold gJ at h;split at h
 ·assumption
 ·rename_i h2;exact absurd h h2
theorem alw{l:List cO}(h:tJ l=0):∀p∈l,oH p=0:=by
 unfold tJ at h;by_cases e:60<l.length
 ·rw[aC e]at h;simp at h
 ·rw[aB e]at h;exact O8 l [] h
theorem Po{r:cS}(h:gJ r=0)(nm:ByteArray):(gn nm r.cB).1.params.length<=40:=by
 rw[IZ];cases hf:r.cB.find? (λx:cO=>decide (x.name=nm))with
 |none=>exact jK _
 |some p=>exact Xi (alw (abh h) p (al2 hf))
theorem IE{r:cS}(h:gJ r=0):∀(l:List dZ),(l.flatMap (nH r.cB)).length<=l.length*40
 |[]=>by simp
 |u::l=>by
  have h1:=Po h u.gM;have h2:=IE h l;rw[Yw,Λ,b9,Nat.succ_mul];have h3:(nH r.cB u).length=(gn u.gM r.cB).1.params.length:=by simp [nH]
  omega
theorem adp(l:List cK)(n:Int):XM (.t [(.s 2),.k]) (.aN [if l=[]then .aH else sl 2 eC l,.ah n])=.aN [sl 2 eC l,.ah n]:=by show YM [XM (.s 2) (if l=[]then .aH else sl 2 eC l),.ah n]=_;rw[ads]
theorem Pq{r:cS}(h:gJ r=0):r.eZ.length<=400:=by
 unfold gJ at h;split at h
 ·split at h
  ·cases h
  ·omega
 ·rename_i h2;exact absurd h h2
theorem abx(r:cS)(hok:pW r)(σ:Heap):Ic [.agg (cZ r)] σ=δ (.aN [sl 2 eC (if gJ r=0 then pO r else[]),.ah (gJ r)],σ):=by
 by_cases hf:gJ r=0
 ·refine wrap_eq rfl (v:=.aN [if pO r=[]then .aH else sl 2 eC (pO r),.ah 0]) ?_ (by rw[aC hf,hf];exact adp _ _);show BK (.agg (cZ r)) σ=_;unfold BK;have hu:=Pq hf;have LU:=hok.1.2;simp only[aQ,reduceCtorEq,sR,rG,rN,rM,sX,IF r hok,hf]
  refine(oG (S:=Unit) (R:=Unit) r.eZ (λpre u _=>(Rd.go ():Rd Unit Unit))
   (λpre _=>[.lbx (cZ r),qP σ.length 2 (pre.flatMap (nH r.cB)),.ah (pre.length:Int)]) (λpre _=>σ++nX 2 eC (pre.flatMap (nH r.cB)))
   (λ_=>(.exit 0,[.lbx (cZ r),qP σ.length 2 (pO r),.ah (r.eZ.length:Int)],σ++nX 2 eC (pO r))) (λpre _ _=>(.ret,[],σ))
   (λ_ _=>True) () (λ_=>δ (YM [if pO r=[]then .aH else sl 2 eC (pO r),.ah 0],σ)) (λ_=>η) ?_ ?_ trivial (λ_ _ _ _ _ _ _ _=>trivial) ?_ ?_ (ew:=by simp [aa7])).trans (Gb _ _ _ _)
  ·intro pre u rest s hl _;have hx:=oJ hl;have hlt:=pP hl;have hi1:Ξ.wrap ((pre.length:Int)+1)=(pre.length:Int)+1:=dY (by unfold bA;omega);have hlt':(pre.length:Int)<(r.eZ.length:Int):=by omega
   have lC:=nG 4 dJ r.eZ hx;have G4:=Pp r.cB hok.1.1 u.gM;have hps:=Po hf u.gM;have tQ:=IE hf pre;have hsn:(pre++[u]).flatMap (nH r.cB)=pre.flatMap (nH r.cB)++nH r.cB u:=by simp
   have ajC:pre.length<=399:=by omega
   generalize hK:pre.flatMap (nH r.cB)=K at *
   generalize hq:(gn u.gM r.cB).1=p at *
   simp only[aQ,reduceCtorEq,jU,lH,lI,lJ,kK,jW,kL,sR,rG,rN,rM,sX,hlt',lC,G4,hq,nw,nA,nB,nD,nC,nE]
   refine(oG (S:=Unit) (R:=Unit) p.params (λpre u _=>(Rd.go ():Rd Unit Unit))
    (λsG _=>[.lbx (cZ r),qP σ.length 2 (K++sG.map λx=>(⟨u.aI,x.name⟩:cK)),.lbx (dJ u),.ah (sG.length:Int)]) (λsG _=>σ++nX 2 eC (K++sG.map λx=>(⟨u.aI,x.name⟩:cK)))
    (λ_=>(.exit 2,[.lbx (cZ r),qP σ.length 2 (K++nH r.cB u),.lbx (dJ u),.ah (p.params.length:Int)],σ++nX 2 eC (K++nH r.cB u))) (λpre _ _=>(.ret,[],σ))
    (λ_ _=>True) () (λ_=>δ (.normal,[.lbx (cZ r),qP σ.length 2 (K++nH r.cB u),.ah ((pre.length:Int)+1)],σ++nX 2 eC (K++nH r.cB u))) (λ_=>η) ?_ ?_ trivial (λ_ _ _ _ _ _ _ _=>trivial) ?_ ?_ (hv:=by simp) (ew:=by simp)).trans ((Gb _ _ _ _).trans ?_)
   ·intro sG x rest' s hl' _;have gx:=oJ hl';have glt:=pP hl';have Vo:Ξ.wrap ((sG.length:Int)+1)=(sG.length:Int)+1:=dY (by unfold bA;omega);have afM:(sG.length:Int)<(p.params.length:Int):=by omega
    have gia:=nG 7 iS p.params gx
    have hap:=Zn (most:=140737488355328 / 24) (sz:=2) eC (K++sG.map λx=>(⟨u.aI,x.name⟩:cK)) ⟨u.aI,x.name⟩ σ (by
     rw[Λ,p7]
     omega)
    have af7:(K++(sG++[x]).map λx=>(⟨u.aI,x.name⟩:cK))=(K++sG.map λx=>(⟨u.aI,x.name⟩:cK))++[⟨u.aI,x.name⟩]:=by simp
    clear hl gx glt hx hlt tQ hl';rw[af7];have hch:WV 2 (eO 2 1 [ε u.aI,u5 x.name])=.sl 2 [eC ⟨u.aI,x.name⟩]:=rfl;simp only[aQ,reduceCtorEq,IP,IQ,IS,IT,IU,IV,IW,Jy,Jq,JF,jU,lH,lI,lJ,kK,jW,kL,afM,gia,Vo];show(wh 2 _ _ (WV 2 [eC ⟨u.aI,x.name⟩]) _).bind _=_;rw[hap];simp only[aQ,reduceCtorEq,Vo]
   ·intro s _;refine(Cb _ _ _).trans ?_;subst hq;rfl
   ·intro s _;simp only[aQ,reduceCtorEq,hi1]
   ·intros;rename_i hb;cases hb
   ·rw[hsn]
  ·intro s _;exact Cb _ _ _
  ·intro s _;simp only[aQ,reduceCtorEq,aaP Rx]
  ·intros;rename_i hb;cases hb
 ·refine wrap_eq rfl (v:=.aN [.aH,.ah (gJ r)]) ?_ (by rw[aB hf];rfl);show BK (.agg (cZ r)) σ=_;unfold BK;simp only[aQ,reduceCtorEq,sR,rG,rN,rM,sX,IF r hok,hf]
theorem Yz(n:Int)(σ:Heap):Ie [.ah n] σ=δ (.bool (bu n 0 65535),σ):=by refine wrap_eq rfl ?_ rfl;show Ig (.ah n) σ=_;unfold Ig;simp only[aQ,reduceCtorEq,iQ]
def F6(s:ByteArray):Bool:=if s=⟨#[]⟩then ι else KG s
theorem aaB(s:ByteArray)(hs:gW s)(σ:Heap):Ip [.str s] σ=δ (.bool (F6 s),σ):=by
 refine wrap_eq rfl ?_ rfl;show Iy (.str s) σ=_;unfold Iy F6;by_cases h:s=⟨#[]⟩
 ·simp only[aQ,reduceCtorEq,h]
 ·simp only[aQ,reduceCtorEq,h,aaz s hs]
def S4:gY:=⟨⟨#[]⟩,0,0,0,0,θ,[]⟩
def Kw(p:cO)(nm:ByteArray):gY×Bool:=(p.params.find? λx=>decide (x.name=nm)).elim (S4,θ) λx=>(x,ι)
def RY(r:cS)(k:cK):gY×Bool:=(r.eZ.find? λu=>decide (u.aI=k.unit)).elim (S4,θ) λu=>Kw (gn u.gM r.cB).1 k.param
section
def zU (a0:cS):Option (List (cK×Bool)):=
 (tq (pW a0) (((if gJ a0=0 then pO a0 else[]:List cK),gJ a0))).bind λr1=>
 iJ r1.1 (λ(qu:Nat)iD(s4:(List (cK×Bool)))=>(show Option (Lr (List (cK×Bool)) (List (cK×Bool)) Unit)from
   δ (.go (eu iD ι s4)))) (λs4=>δ s4) ([]:List (cK×Bool)) (λb5=>
  δ b5) (λb5=>
  η)
theorem ak6{a0:cS}{σ:Heap}{r:(List (cK×Bool))}(h:zU a0=δ r):IJ [(l8 (cZ a0))] σ=δ ((gf (λx=>(l8 (eC x))) (λx=>(φ x)) r),σ):=by
 refine vQ (f:=I1) (y0:=(l8 (cZ a0))) (enc:=λr:(List (cK×Bool))=>(gf (λx=>(l8 (eC x))) (λx=>(φ x)) r)) (T:=zU a0) rfl rfl ?_ r h;unfold I1 zU;refine au _ rfl<|au _ rfl ?_;refine cE (λr1:((List cK)×Int)=>((YM [(sl 2 eC r1.1),(ε r1.2)]),σ)) (λr1 mz=>(rW (e:=λr:((List cK)×Int)=>((YM [(sl 2 eC r.1),(ε r.2)]),σ)) (λhs=>abx a0 hs σ)) mz) (λr1 mz=>?_);refine au (sl 2 eC r1.1) rfl<|au _ rfl ?_;have hp2:Hp σ σ []:=adg σ;have hp3:Hp σ (σ++[j0 []]) [((Wu σ.length),(Ct.m (alX (λp=>((λx=>(l8 (eC x))) p.1,(λx=>(φ x)) p.2)) ([]:List (cK×Bool)))))]:=aek hp2;refine au _ (dh _ _ _) ?_;refine nJ (B:=(List (cK×Bool))) (R:=Unit) (λ(qu:Nat)(s4:(List (cK×Bool)))v w6=>v=[(ε (qu:Int))]/\Hp σ w6 [((Wu σ.length),(Ct.m (alX (λp=>((λx=>(l8 (eC x))) p.1,(λx=>(φ x)) p.2)) s4)))]) (λ(b5:(List (cK×Bool)))(q:LS)=>∃u16 w7,q=((Γ 0),([u16]:aq),w7)/\Hp σ w7 [((Wu σ.length),(Ct.m (alX (λp=>((λx=>(l8 (eC x))) p.1,(λx=>(φ x)) p.2)) b5)))]) (λ(b5:Unit)(q:LS)=>False) ?_ ?_ ⟨rfl,hp3⟩ ?_ ?_
 ·intro KU qu iD s4 v w6 xY hI;obtain⟨rfl,vc⟩:=hI;refine au _ (fJ xY)<|nN<|au _ (gm xY)<|au _ rfl<|au _ rfl<|au _ (acB _ _ rfl)<|au _ rfl ?_;obtain⟨Wa,e14,TW⟩:=ab6 (ek:=(.s [0,2])) (eK:=(λx=>(l8 (eC x)))) (eV:=(λx=>(φ x))) vc 0 rfl Ro iD ι rfl;change Hp σ Wa [((Wu σ.length),(Ct.m (alX (λp=>((λx=>(l8 (eC x))) p.1,(λx=>(φ x)) p.2)) (eu iD ι s4))))]at TW;refine au Wa e14<|au _ (fM xY KU) ?_;exact bz (nK ⟨rfl,TW⟩)
 ·intro hl s4 v w6 hI;obtain⟨rfl,vc⟩:=hI;refine au _ (fL _)<|nM ?_;exact bz ⟨by simp,⟨_,_,rfl,vc⟩⟩
 ·intro hl b5 q hq;obtain⟨u16,w7,rfl,VF⟩:=hq;refine gH rfl ?_;exact cD _ (adf VF (ac8 VF (k:=0) rfl (by intro p hp;obtain⟨x,_,rfl⟩:=fK.1 hp;exact⟨(SB (Rx _)),(FX _)⟩))) ⟨rfl,rfl⟩
 ·intro hl b5 q hq;exact False.elim hq
def zI (a0:cK) (a1:cK):Option Bool:=
 if ¬(a0.unit=a1.unit)then
  δ (decide (a0.unit<a1.unit))
 else
 δ (decide ((Xr a0.param.data.toList a1.param.data.toList)<0))
theorem akD{a0:cK}{a1:cK}{σ:Heap}{r:Bool}(h:zI a0 a1=δ r):Ij [(l8 (eC a0)),(l8 (eC a1))] σ=δ ((φ r),σ):=by
 refine JS (f:=Ik) (y0:=(l8 (eC a0))) (y1:=(l8 (eC a1))) (enc:=λr:Bool=>(φ r)) (T:=zI a0 a1) rfl rfl ?_ r h;unfold Ik zI;refine au _ rfl<|au _ rfl<|au _ rfl<|au _ rfl<|au _ (fW _ _ _) ?_;refine dF (p:=¬(a0.unit=a1.unit)) (λc1=>?_) (λc1=>?_)
 ·refine au _ rfl<|au _ rfl<|au _ rfl ?_;exact cD _ (cq _ _) ⟨rfl,rfl⟩
 refine au _ rfl<|au _ rfl<|au _ rfl<|au _ rfl ?_;exact cD _ (cq _ _) ⟨rfl,rfl⟩
def BF (a0:cS) (a1:(List eE)):Option Int:=
 (tq (pW a0) (gJ a0)).bind λr1=>
 (tq (([r1,(if(decide (200<(a1.length:Int)))=ι then 2 else 0)]:(List Int)).length<=bD) ((([r1,(if(decide (200<(a1.length:Int)))=ι then 2 else 0)]:(List Int)).find? λn=>decide (¬n=0)).getD 0)).bind λr2=>
 if ¬(r2=0)then
  δ r2
 else
 (zU a0).bind λr3=>
 iJ a1 (λ(qu:Nat)iD(s4:Unit)=>(show Option (Lr Unit Unit Int)from
   if(!(bu iD.aI 1 999))=ι then
    δ (.ret 1)
   else
   (if decide (0<(qu:Int))=ι then nh a1 (Ξ.wrap ((qu:Int) -1))else δ default).bind λdB=>
   if((decide (0<(qu:Int)))&&(decide (iD.aI<=dB.aI)))=ι then
    δ (.ret 7)
   else
   (tq (gW iD.title) (F6 iD.title)).bind λqw=>
   if(!qw)=ι then
    δ (.ret 3)
   else
   if 2000<(iD.gC.length:Int)then
    δ (.ret 2)
   else
   iJ iD.gC (λ(i21:Nat)uV(HA:Unit)=>(show Option (Lr Unit Unit Int)from
     if(!((aV uV.key r3).getD θ))=ι then
      δ (.ret 8)
     else
     if(!(bu uV.level 0 65535))=ι then
      δ (.ret 1)
     else
     (if decide (0<(i21:Int))=ι then nh iD.gC (Ξ.wrap ((i21:Int) -1))else δ default).bind λdO=>
     (if decide (0<(i21:Int))=ι then zI dO.key uV.key else δ default).bind λkE=>
     if((decide (0<(i21:Int)))&&(!kE))=ι then
      δ (.ret 7)
     else
     δ (.go ()))) (λHA=>δ ()) () (λyz=>
    δ (.go ())) (λyz=>
    δ (.ret yz)))) (λs4=>δ ()) () (λb5=>
  δ 0) (λb5=>
  δ b5)
theorem akF{a0:cS}{a1:(List eE)}{σ:Heap}{r:Int}(h:BF a0 a1=δ r):EF [(l8 (cZ a0)),(sl 3 eA a1)] σ=δ ((ε r),σ):=by
 refine JS (f:=HY) (y0:=(l8 (cZ a0))) (y1:=(sl 3 eA a1)) (enc:=λr:Int=>(ε r)) (T:=BF a0 a1) rfl rfl ?_ r h;unfold HY BF;refine au _ rfl<|au _ rfl ?_;refine cE (λr1:Int=>((ε r1),σ)) (λr1 mz=>(rW (e:=λr:Int=>((ε r),σ)) (λhs=>IF a0 hs σ)) mz) (λr1 mz=>?_);refine au _ (dh _ _ _)<|au _ rfl<|au _ (aby (decide (200<(a1.length:Int))) 2 σ)<|au (sl 1 aO ([r1,(if(decide (200<(a1.length:Int)))=ι then 2 else 0)]:(List Int))) rfl ?_;refine cE (λr2:Int=>((ε r2),σ)) (λr2 jQ=>(rW (e:=λr:Int=>((ε r),σ)) (λhs=>Qs ([r1,(if(decide (200<(a1.length:Int)))=ι then 2 else 0)]:(List Int)) hs σ)) jQ) (λr2 jQ=>?_);refine au _ (fW _ _ _) ?_;refine dF (p:=¬(r2=0)) (λsB=>?_) (λsB=>?_)
 ·exact cD _ (cq _ _) ⟨rfl,rfl⟩
 refine au _ rfl ?_;refine cE (λr3:(List (cK×Bool))=>((gf (λx=>(l8 (eC x))) (λx=>(φ x)) r3),σ)) (λr3 VI=>ak6 VI) (λr3 VI=>?_);refine au _ (dh _ _ _) ?_;refine nJ (B:=Unit) (R:=Int) (λ(qu:Nat)(s4:Unit)v w6=>∃u4,v=[u4,(ε (qu:Int))]/\σ=w6) (λ(b5:Unit)(q:LS)=>∃u4 Eg,q=((Γ 0),([u4,Eg]:aq),σ)) (λ(b5:Int)(q:LS)=>∃Eg,q=(l7,([(ε b5),Eg]:aq),σ)) ?_ ?_ ⟨_,rfl,rfl⟩ ?_ ?_
 ·intro KU qu iD s4 v w6 xY hI;obtain⟨u4,rfl,rfl⟩:=hI;refine au _ (fJ xY)<|nN<|au _ (gm xY)<|au _ rfl<|au _ rfl<|au _ (PB _ _ rfl)<|au _ rfl<|au _ (iQ iD.aI 1 999 σ)<|au _ rfl ?_;refine gR (c:=(!(bu iD.aI 1 999))) (λMM=>?_) (λMM=>?_)
  ·exact bz (jG (by simp) ⟨_,rfl⟩)
  refine au _ rfl<|dU (ε iD.aI) (λhg=>rfl)<|dU (sl 3 eA a1) (λhg=>rfl)<|dU (ε (qu:Int)) (λhg=>rfl)<|dU (ε (Ξ.wrap ((qu:Int) -1))) (λhg=>by(try rw[hg]);exact rfl) ?_;refine Ga (ω:=eE) (λdB=>(Zh (eA dB))) (λhg dB Uf=>by(try rw[hg]);exact uC Uf) (λdB Uf=>?_);refine dU (Zh (eA dB)) (λhg=>by(try rw[hg]);exact rfl)<|dU (ε dB.aI) (λhg=>by(try rw[hg]);exact rfl)<|dU (φ (decide (iD.aI<=dB.aI))) (λhg=>by(try rw[hg]);exact rfl)<|au _ (iG _ _) ?_;refine gR (c:=((decide (0<(qu:Int)))&&(decide (iD.aI<=dB.aI)))) (λyG=>?_) (λyG=>?_)
  ·exact bz (jG (by simp) ⟨_,rfl⟩)
  refine au _ rfl ?_;refine cE (λqw:Bool=>((φ qw),σ)) (λqw TZ=>(rW (e:=λr:Bool=>((φ r),σ)) (λhs=>aaB iD.title hs σ)) TZ) (λqw TZ=>?_);refine au _ rfl ?_;refine gR (c:=(!qw)) (λc28=>?_) (λc28=>?_)
  ·exact bz (jG (by simp) ⟨_,rfl⟩)
  refine au (sl 3 jV iD.gC) rfl<|au _ (dh _ _ _)<|au _ rfl ?_;refine dF (p:=2000<(iD.gC.length:Int)) (λc27=>?_) (λc27=>?_)
  ·exact bz (jG (by simp) ⟨_,rfl⟩)
  refine au (sl 3 jV iD.gC) rfl<|au _ (dh _ _ _) ?_;refine nJ (B:=Unit) (R:=Int) (λ(i21:Nat)(HA:Unit)v N4=>∃u4,v=[u4,(Z4 (eA iD)),(ε (i21:Int))]/\σ=N4) (λ(yz:Unit)(q:LS)=>∃u4 u8 Ej,q=((Γ 3),([u4,u8,Ej]:aq),σ)) (λ(yz:Int)(q:LS)=>∃u8 Ej,q=(l7,([(ε yz),u8,Ej]:aq),σ)) ?_ ?_ ⟨_,rfl,rfl⟩ ?_ ?_
  ·intro aeb i21 uV HA v N4 LI hI;obtain⟨u4,rfl,rfl⟩:=hI;refine au _ (fJ LI)<|nN<|au _ (gm LI)<|au _ rfl<|au _ rfl<|au _ (O4 _ _ rfl)<|au _ rfl<|au _ (B8 (ek:=(.s [0,2])) (eK:=(λx=>(l8 (eC x)))) (eV:=(λx=>(φ x))) Ro uV.key θ rfl)<|au _ rfl ?_;refine gR (c:=(!((aV uV.key r3).getD θ))) (λmo=>?_) (λmo=>?_)
   ·exact bz (jG (by simp) ⟨_,_,rfl⟩)
   refine au _ rfl<|au _ (Yz uV.level σ)<|au _ rfl ?_;refine gR (c:=(!(bu uV.level 0 65535))) (λjd=>?_) (λjd=>?_)
   ·exact bz (jG (by simp) ⟨_,_,rfl⟩)
   refine au _ rfl<|au _ rfl<|dU (sl 3 jV iD.gC) (λhg=>rfl)<|dU (ε (i21:Int)) (λhg=>rfl)<|dU (ε (Ξ.wrap ((i21:Int) -1))) (λhg=>by(try rw[hg]);exact rfl) ?_;refine Ga (ω:=pJ) (λdO=>(Zh (jV dO))) (λhg dO Uo=>by(try rw[hg]);exact uC Uo) (λdO Uo=>?_);refine dU (Zh (jV dO)) (λhg=>by(try rw[hg]);exact rfl)<|dU (l8 (eC dO.key)) (λhg=>by(try rw[hg]);exact rfl)<|dU (l8 (eC uV.key)) (λhg=>rfl) ?_;refine Ga (ω:=Bool) (λkE=>(φ kE)) (λhg kE T6=>by(try rw[hg]);exact(iR (akD T6))) (λkE T6=>?_);refine dU (φ (!kE)) (λhg=>by(try rw[hg]);exact rfl)<|au _ (iG _ _) ?_;refine gR (c:=((decide (0<(i21:Int)))&&(!kE))) (λgV=>?_) (λgV=>?_)
   ·exact bz (jG (by simp) ⟨_,_,rfl⟩)
   refine au _ (fM LI aeb) ?_;exact bz (nK ⟨_,rfl,rfl⟩)
  ·intro hl HA v N4 hI;obtain⟨u4,rfl,rfl⟩:=hI;refine au _ (fL _)<|nM ?_;exact bz ⟨by simp,⟨_,_,_,rfl⟩⟩
  ·intro hl yz q hq;obtain⟨u4,u8,Ej,rfl⟩:=hq;refine gH rfl<|au _ (fM xY KU) ?_;exact bz (nK ⟨_,rfl,rfl⟩)
  ·intro hl yz q hq;obtain⟨u8,Ej,rfl⟩:=hq;refine qM rfl<|gH rfl ?_;exact bz (jG (by simp) ⟨_,rfl⟩)
 ·intro hl s4 v w6 hI;obtain⟨u4,rfl,rfl⟩:=hI;refine au _ (fL _)<|nM ?_;exact bz ⟨by simp,⟨_,_,rfl⟩⟩
 ·intro hl b5 q hq;obtain⟨u4,Eg,rfl⟩:=hq;refine gH rfl ?_;exact cD _ (cq _ _) ⟨rfl,rfl⟩
 ·intro hl b5 q hq;obtain⟨Eg,rfl⟩:=hq;refine qM rfl<|gH rfl ?_;exact cD _ (cq _ _) ⟨rfl,rfl⟩
end
abbrev SmK:={k:cK // 0<=k.unit/\k.unit<=1000000}
instance : Inhabited SmK := ⟨⟨⟨0, ⟨#[]⟩⟩, by decide⟩⟩
section
section
variable {κ ν : Type} [DecidableEq κ]
theorem Fg(k a:κ)(v:ν):∀(l:List (κ×ν)),aV k (eu a v l)=if k=a then δ v else aV k l
 |[]=>by simp [eu,aV]
 |(b,w)::l=>by
  rw[eu];by_cases h:a=b
  ·subst h;rw[aC rfl,aV,aV];split<;>rfl
  ·rw[aB h,aV,aV,Fg k a v l];by_cases h2:k=b
   ·subst h2;rw[aC rfl,aC rfl,aB (λe=>h e.symm)]
   ·rw[aB h2,aB h2]
theorem Qq(k:κ):∀(l:List κ)(s:List (κ×Bool)),(aV k (l.foldl (λs x=>eu x ι s) s)).getD θ=(decide (k∈l)||(aV k s).getD θ)
 |[],s=>by simp
 |x::l,s=>by
  rw[Zc,Qq k l,Fg];by_cases h:k=x
  ·simp [h]
  ·simp [h]
end
theorem YQ{l:List Int}{n:Int}(h:l.Pairwise (·<·))(k:yf l n=θ):(l++[n]).Pairwise (·<·):=by
 rw[List.pairwise_append];refine⟨h,by simp,λa ha b hb=>?_⟩;simp at hb;subst hb;unfold yf at k;cases hl:l.getLast? with
 |none=>rw[amS]at hl;subst hl;simp at ha
 |some m=>
  rw[hl]at k;simp at k;obtain⟨ys,rfl⟩:=List.getLast?_eq_some_iff.1 hl;rw[List.pairwise_append]at h;rcases eG.1 ha with ha|ha
  ·have:=h.2.2 a ha m (by simp);omega
  ·simp at ha;omega
theorem OO{fq:List cO}:∀(rest pre:List dZ),AQ fq pre rest=0->(pre.map (·.aI)).Pairwise (·<·)->((pre++rest).map (·.aI)).Pairwise (·<·)
 |[],pre,_,h=>by simpa using h
 |u::rest,pre,hc,h=>by
  rw[AQ]at hc;split at hc
  ·cases hc
  split at hc
  ·cases hc
  rename_i ho;split at hc
  ·cases hc
  split at hc
  ·cases hc
  split at hc
  ·cases hc
  have:=OO rest (pre++[u]) hc (by rw[Tm];exact YQ h (by simpa using ho));simpa using this
theorem O0{r:cS}(h:gJ r=0):(r.eZ.map (·.aI)).Pairwise (·<·):=by
 unfold gJ at h;split at h
 ·split at h
  ·cases h
  ·simpa using OO r.eZ [] h (by simp)
 ·rename_i h2;exact absurd h h2
theorem alp(p:cO)(nm:ByteArray):(Kw p nm).2=ι↔∃x∈p.params,x.name=nm:=by
 unfold Kw;cases h:p.params.find? λx=>decide (x.name=nm)with
 |none=>simp only[Option.elim_none,X6,false_iff];rintro⟨x,hx,e⟩;have:=List.find?_eq_none.1 h x hx;simp [e]at this
 |some x=>simp only[Option.elim_some,true_iff];exact⟨x,al2 h,by simpa using List.find?_some h⟩
theorem aau{l:List dZ}(h:(l.map (·.aI)).Pairwise (·<·)){u v:dZ}(hu:u∈l)(hv:v∈l)(e:u.aI=v.aI):u=v:=by
 induction l with
 |nil=>simp at hu
 |cons x l ih=>
  rw[bU,List.pairwise_cons]at h;rcases eo.1 hu with DO|DO<;>rcases eo.1 hv with DP|DP
  ·rw[DO,DP]
  ·have:=h.1 v.aI (fK.2 ⟨v,DP,rfl⟩);rw[<-DO]at this;omega
  ·have:=h.1 u.aI (fK.2 ⟨u,DO,rfl⟩);rw[<-DP]at this;omega
  ·exact ih h.2 DO DP
def wF(r:cS)(k:cK):Bool:=(RY r k).2
theorem QO{r:cS}(h:gJ r=0)(k:cK):wF r k=decide (k∈pO r):=by
 rw[nS,decide_eq_true_iff];unfold wF RY pO;rw[List.mem_flatMap];cases hf:r.eZ.find? λu=>decide (u.aI=k.unit)with
 |none=>simp only[Option.elim_none,X6,false_iff];rintro⟨u,hu,hk⟩;obtain⟨x,_,rfl⟩:=fK.1 hk;have:=List.find?_eq_none.1 hf u hu;simp at this
 |some u=>
  have hu:=al2 hf;have hn:u.aI=k.unit:=by simpa using List.find?_some hf
  simp only[Option.elim_some,alp];constructor
  ·rintro⟨x,hx,e⟩;exact⟨u,hu,fK.2 ⟨x,hx,by rw[hn,e]⟩⟩
  ·rintro⟨v,hv,hk⟩;obtain⟨x,hx,rfl⟩:=fK.1 hk;obtain rfl:=aau (O0 h) hu hv hn;exact⟨x,hx,rfl⟩
theorem aaX{r:cS}(h:gJ r=0):(pO r).length<=16000:=by have h1:=IE h r.eZ;have h2:=Pq h;show(r.eZ.flatMap (nH r.cB)).length<=_;omega
theorem ak4{α β:Type}{p:Prop}[Decidable p](a b:α)(f:α->Option β):(if p then δ a else δ b).bind f=f (if p then a else b):=by split<;>rfl
theorem before_eq(a b:cK):zI a b=δ (Bm a b):=by
 unfold zI Bm;by_cases h:a.unit=b.unit
 ·simp [h,abp,Rl]
 ·by_cases h2:a.unit<b.unit<;>simp [h,h2]
def Gp(has:cK->Bool)(l:List pJ)(i:Nat)(x:pJ):Int:=
 if(!has x.key)=ι then 8
 else if(!(bu x.level 0 65535))=ι then 1
 else if(decide (0<(i:Int))&&!Bm (pv l i).key x.key)=ι then 7 else 0
def Ax(has:cK->Bool)(l:List eE)(i:Nat)(p:eE):Int:=
 if(!(bu p.aI 1 999))=ι then 1
 else if(decide (0<(i:Int))&&decide (p.aI<=(pv l i).aI))=ι then 7
 else if(!(F6 p.title))=ι then 3
 else if 2000<(p.gC.length:Int)then 2
 else gI (Gp has p.gC) p.gC 0
def lM(r:cS)(l:List eE):Int:=
 if ¬(gJ r=0)then gJ r else if 200<(l.length:Int)then 2 else gI (Ax (wF r) l) l 0
theorem ala(c:Bool)(a b:cK):(c&&!(if c=ι then Bm a b else(default:Bool)))=(c&&!Bm a b):=by cases c<;>rfl
theorem Xl(r:cS)(l:List eE)(hr:pW r)(hl:fD uq l):BF r l=δ (lM r l):=by
 unfold BF lM;simp only[rS hr,aL];rw[rS (by show 2<=bD;unfold bD;omega)];simp only[ad5,aL];by_cases h0:gJ r=0;case neg=>simp [h0]
 by_cases h1:200<(l.length:Int)
 ·simp [h0,h1]
 have hk:zU r=δ ((pO r).foldl (λs x=>eu x ι s) []):=by unfold zU;have:=aaX h0;simp only[rS hr,aL,h0,if_true];rw[ZW (λs x=>eu x ι s) (λ_ _=>True) (by unfold bD;omega) trivial (λ_ _ _ _ _=>trivial) (λ_ _ _ _ _=>rfl)];rfl
 simp only[h0,h1,not_true_eq_false,if_false,decide_false,X6,hk,aL]
 have has:∀k,(aV k ((pO r).foldl (λs x=>eu x ι s) [])).getD θ=wF r k:=by intro k;rw[Qq,QO h0];simp [aV]
 rw[xC (f:=Ax (wF r) l) hl.1 ?_]
 ·split
  ·rename_i h;rw[h]
  ·rfl
 intro i p hp;have hpm:=hl.2 p (bR hp);obtain⟨_,ht,hs⟩:=hpm;simp only[Kf hp hl.1,aL,rS ht,has];rw[xC (f:=Gp (wF r) p.gC) hs.1 ?_]
 ·unfold Ax;repeat first|exact QC _|exact go_ret|refine RA (by decide) ?_
 intro j x hx;simp only[Kf hx hs.1,aL,before_eq,ak4,ala];unfold Gp;repeat first|exact go_ret|refine RA (by decide) ?_
end
theorem UJ{a b:Nat}(h:a+b<9223372036854775808):o7 (.ah (a:Int)) (.ah (b:Int))=δ (.ah ((a+b:Nat):Int)):=by rw[xT,dY (by unfold bA;omega)];simp
theorem Gq{a:Nat}(h:a+1<9223372036854775808):o7 (.ah (a:Int)) (.ah 1)=δ (.ah ((a+1:Nat):Int)):=UJ (b:=1) h
theorem UK(a b:Nat):p9 (.ah (a:Int)) (.ah (b:Int))=δ (.bool (decide (a<b))):=by rw[qc];have:((a:Int)<(b:Int))=(a<b):=propext ⟨λh=>by omega,λh=>by omega⟩;simp only[this]
theorem U7{α:Type}{X Y:α}:(bif (Γ 0==Γ 0)then X else Y)=X:=rfl
def UH(l:List Ge):Prop:=l.Pairwise λa b=>Bm a.key b.key=ι
structure Good (l : List uH) : Prop where
 len:l.length<=300
 num:∀c∈l,1<=c.aI/\c.aI<=9999999
 srt:l.Pairwise λa b=>a.aI<b.aI
 mv:∀c∈l,c.Gn.length<=2000/\UH c.Gn
 pts:∀c∈l,c.KN.ady.length<=20
section
structure ajv (l : List uH) : Prop where
 len:l.length<=300
 num:∀c∈l,1<=c.aI/\c.aI<=9999999
 srt:l.Pairwise λa b=>a.aI<b.aI
section
variable {α R γ S B : Type}
end
end
section
open HP
def Lt(σ:Heap)(sh:Sh)(v t:AV):Prop:=(∃v',Ya σ 0 8 v=δ v'/\Z2 v'=θ/\XM sh v'=XM sh t)/\Z2 t=θ/\(Z2 v=θ->XM sh v=XM sh t)
def A7(σ:Heap):List Sh->aq->aq->Prop
 |_,[],[]=>True
 |[],a::bQ,t::ts=>Lt σ .k a t/\A7 σ [] bQ ts
 |s::ss,a::bQ,t::ts=>Lt σ s a t/\A7 σ ss bQ ts
 |_,_,_=>False
theorem kY(v:AV):XM .k v=v:=by simp [XM]
theorem Hq{σ:Heap}:∀{ss:List Sh}{bQ ts:aq},A7 σ ss bQ ts->(∃wz,XT σ 0 8 bQ=δ wz/\wz.any Z2=θ/\Z3 ss wz=Z3 ss ts)/\ts.any Z2=θ/\(bQ.any Z2=θ->Z3 ss bQ=Z3 ss ts)
 |ss,[],[],_=>⟨⟨[],by simp [XT],rfl,rfl⟩,rfl,λ_=>rfl⟩
 |[],a::bQ,t::ts,h=>by obtain⟨⟨⟨v',h1,h2,h3⟩,h4,h5⟩,h6⟩:=h;obtain⟨⟨wz,k1,k2,k3⟩,k4,k5⟩:=Hq h6;rw[kY,kY]at h3;simp only[Z3]at k3 k5;refine⟨⟨v'::wz,by simp [XT,h1,k1],by simp [h2,k2],by simp [Z3,h3,k3]⟩,by simp [h4,k4],λh=>?_⟩;simp only[amZ,jZ]at h;have:=h5 h.1;rw[kY,kY]at this;simp [Z3,this,k5 h.2]
 |s::ss,a::bQ,t::ts,h=>by obtain⟨⟨⟨v',h1,h2,h3⟩,h4,h5⟩,h6⟩:=h;obtain⟨⟨wz,k1,k2,k3⟩,k4,k5⟩:=Hq h6;refine⟨⟨v'::wz,by simp [XT,h1,k1],by simp [h2,k2],by simp [Z3,h3,k3]⟩,by simp [h4,k4],λh=>?_⟩;simp only[amZ,jZ]at h;simp [Z3,h5 h.1,k5 h.2]
 |_,[],_::_,h=>by cases h
 |[],_::_,[],h=>by cases h
 |_::_,_::_,[],h=>by cases h
theorem GG{cm:List Sh}{dn:Sh}{r:aq->Heap->aG}{bQ ts:aq}{σ:Heap}{v:AV}(h:A7 σ cm bQ ts)(e:∀σ,Φ ι cm dn r ts σ=δ (v,σ))(hs:A.yl v=ι):Φ ι cm dn r bQ σ=δ (v,σ):=by
 obtain⟨⟨wz,k1,k2,k3⟩,k4,k5⟩:=Hq h;cases ho:bQ.any Z2
 ·rw[xF (k5 ho) ho k4];exact e σ
 ·exact FO ho k1 k2 (by rw[xF k3 k2 k4];exact e []) hs
theorem Gm{σ:Heap}{sh:Sh}{v:AV}(h:Fz v)(ho:Z2 v=θ):Lt σ sh v v:=⟨⟨v,h σ 0 8,ho,rfl⟩,ho,λ_=>rfl⟩
theorem SH{σ:Heap}(n:Int):Lt σ .k (.ah n) (.ah n):=Gm (pM _ _) rfl
section
variable {α : Type} {c : α -> aq} {sz : Nat} {B : aM -> Prop} {an σ : Heap} {R : HP} {v : AV} {l : List α}
theorem nF(H:Hs B an σ (Sl (fl c) sz v l*R)):(l=[]/\(v=.aH\/v=.ez)/\Hs B an σ R)\/∃id g,v=.os id g sz 0 l.length/\Hs B an σ (blk id (.arr g sz (l.map c))*R):=by
 rcases Ao H with h|⟨id,g,seg,rfl,hl,H⟩
 ·exact .inl h
 ·have K:=Cp.1 (bO (show _=els (fl c) seg l*(blk id (.arr g sz seg)*R) by ac_rfl) H);obtain⟨rfl,K⟩:=K;exact .inr ⟨id,g,rfl,K⟩
theorem Gc{id g:Nat}{n:Nat}(H:Hs B an σ (blk id (.arr g sz (l.map c))*R))(hn:n=l.length:=by rfl):Hs B an σ (Sl (fl c) sz (.os id g sz 0 n) l*R):=
 CE (id:=id) (g:=g) (seg:=l.map c) (bO (show els (fl c) (l.map c) l*(blk id (.arr g sz (l.map c))*R)=_ by ac_rfl) (Cp.2 ⟨rfl,H⟩)) hn
theorem Kq(hc:∀x,nY (c x)){id g:Nat}(h:σ[id]? =δ (.arr g sz (l.map c))){n:Nat}(hn:¬id<n)(d:Nat):Ya σ n (d+1) (.os id g sz 0 l.length)=δ (sl sz c l):=by simp only[Ya,aB hn,h];rw[aC (by simp),Xm,lW (by simp),Aj,LC hc];rfl
theorem KB(H:Hs B an σ (Sl (fl c) sz v l*R))(hc:∀x,nY (c x)){n:Nat}(hn:n<=an.length)(d:Nat):∃v',Ya σ n (d+1) v=δ v'/\A.L6 v'=θ/\XM (.s sz) v'=sl sz c l:=by
 rcases nF H with⟨rfl,rfl|rfl,_⟩|⟨id,g,rfl,K⟩
 ·exact⟨.aH,by simp [Ya],rfl,rfl⟩
 ·exact⟨.ez,by simp [Ya],rfl,rfl⟩
 ·obtain⟨h1,h2⟩:=dS K;exact⟨_,Kq hc h2 (by omega) d,rfl,rfl⟩
structure Cl (p : AV) (F : aq -> HP) : Prop where
 nc:A.gZ p=δ p
 ow:Z2 p=ι
 ld:∀{an σ:Heap}{e:aq}{R:HP},Hs aP an σ (F e*R)->ψ p σ=δ e
 fa:∀(o:Nat),∃q,WN o p=δ q/\(∀{an σ:Heap}{e:aq}{R:HP},Hs aP an σ (F e*R)->ψ q σ=δ (e.drop o))/\
  ∀{an σ:Heap}{e:aq}{R:HP}{new e':aq},Hs aP an σ (F e*R)->y9 o new e=δ e'->∃σ',u7 q new σ=δ σ'/\Hs aP an σ' (F e'*R)
 st:∀{an σ:Heap}{e:aq}{R:HP}{new e':aq},Hs aP an σ (F e*R)->y9 0 new e=δ e'->∃σ',u7 p new σ=δ σ'/\Hs aP an σ' (F e'*R)
 fc:∀(o o':Nat)(q:AV),WN o p=δ q->WN o' q=WN (o+o') p
theorem Kr{P:HP}(H:Hs B an σ P):Hs aP an σ P:=⟨by obtain⟨bs,h,_⟩:=H.pre;exact⟨bs,h,λ_ _=>trivial⟩,H.own⟩
end
section
variable {α : Type} {E : aq -> α -> HP} {sz : Nat} {an σ : Heap} {R : HP} {v : AV} {l : List α}
theorem R9(H:Hs aP an σ (Sl E sz v l*R)){i:Nat}{x:α}(hx:l[i]? =δ x):∃p F e,EY sz v (.ah (i:Int))=δ p/\Cl p F/\Hs aP an σ (F e*(E e x*R))/\
  ∀{σ:Heap}{e:aq}{y:α}{R:HP},Hs aP an σ (F e*(E e y*R))->Hs aP an σ (Sl E sz v (l.set i y)*R):=by
 have hi:=(bB.1 hx).1;rcases Ao H with⟨rfl,_,_⟩|⟨id,g,seg,rfl,hl,H⟩
 ·simp at hx
 ·have he:seg[i]? =δ seg[i]:=cA (by omega)
  have rd:∀{an σ:Heap}{e:aq}{R:HP}(o:Nat),Hs aP an σ (blk id (.arr g sz (seg.set i e))*els E (seg.eraseIdx i) (l.eraseIdx i)*R)->ψ (.oe id g i o) σ=δ (e.drop o):=by intro an σ e R o K;obtain⟨_,k2⟩:=dS (bO (qG _ _ _) K);simp only[ψ,k2,if_true];rw[iU (by omega)];rfl
  have wr:∀{an σ:Heap}{e:aq}{R:HP}{new e':aq}(o:Nat),Hs aP an σ (blk id (.arr g sz (seg.set i e))*els E (seg.eraseIdx i) (l.eraseIdx i)*R)->y9 o new e=δ e'->
    ∃σ',u7 (.oe id g i o) new σ=δ σ'/\Hs aP an σ' (blk id (.arr g sz (seg.set i e'))*els E (seg.eraseIdx i) (l.eraseIdx i)*R):=by
   intro an σ e R new e' o K hs;have K':=bO (qG _ _ _) K;obtain⟨_,k2⟩:=dS K';refine⟨σ.set id (.arr g sz (seg.set i e')),?_,?_⟩
   ·simp only[u7,k2,if_true];rw[iU (by omega),aL,hs,dL,List.set_set]
   ·exact bO (qG _ _ _).symm (pN (b':=.arr g sz (seg.set i e')) K' trivial)
  refine⟨.oe id g i 0,λe=>blk id (.arr g sz (seg.set i e))*els E (seg.eraseIdx i) (l.eraseIdx i),seg[i],?_,⟨rfl,rfl,λK=>by have:=rd 0 K;simpa using this,λo=>⟨.oe id g i o,by simp [WN],λK=>rd o K,λK hs=>wr o K hs⟩,λK hs=>wr 0 K hs,λo o' q hq=>by simp [WN]at hq;subst hq;simp [WN]⟩,?_,?_⟩
  ·have hi':((i:Int)<(l.length:Int)):=by omega
   simp [EY,A.idx,hi']
  ·refine bO ?_ H;have e1:seg.set i seg[i]=seg:=List.set_getElem_self (by omega);simp only[e1];rw[Sr hl he hx];ac_rfl
  ·intro σ e y R K;refine CE (id:=id) (g:=g) (seg:=seg.set i e) (bO ?_ K) (by simp)
   have e1:els E (seg.set i e) (l.set i y)=els E (seg.eraseIdx i) (l.eraseIdx i)*E e y:=by rw[Sr (i:=i) (e:=e) (x:=y) (by simp [hl]) (by rw[iU (by omega)]) (by rw[iU hi])];rw[List.eraseIdx_set_eq,List.eraseIdx_set_eq]
   rw[e1];ac_rfl
end
def adV(x:uH)(vp vm:AV):aq:=[.ah x.aI,.str x.title,.ah x.KO,.ah x.up,.ah x.down,.ah x.other,.ah x.KN.kind,vp,.bool x.block,.ah x.SA,vm]
section
variable {B : aM -> Prop} {an σ : Heap} {R : HP} {M : AV -> List Ge -> HP} {e : aq} {x : uH}
variable {v : AV} {l : List uH}
end
end
section
open HP
theorem kP{α:Type}{f:aq->Heap->Option LS}{Q:LS->Prop}(l:List α)(I:Nat->aq->Heap->Prop){v0:aq}{σ:Heap}
  (hstep:∀i x v σ,l[i]? =δ x->I i v σ->∃v' σ',f v σ=δ (.normal,v',σ')/\I (i+1) v' σ')
  (hend:∀v σ,I l.length v σ->∃q,f v σ=δ q/\q.1≠.normal/\Q q) (h0:I 0 v0 σ):∃q,s9 f v0 σ=δ q/\Q q:=by
 have key:∀(k i:Nat)v σ,l.length-i<=k->i<=l.length->I i v σ->∃q,(∃n,XX f n v σ=δ q)/\Q q:=by
  intro k;induction k with
  |zero=>
   intro i v σ hk hle hI;have:i=l.length:=by omega
   subst this;obtain⟨q,h1,h2,h3⟩:=hend v σ hI;exact⟨q,um h1 h2,h3⟩
  |succ k ih=>
   intro i v σ hk hle hI;by_cases hi:i<l.length
   ·obtain⟨v',σ',h1,h2⟩:=hstep i _ v σ (cA hi) hI;obtain⟨q,hq,hQ⟩:=ih (i+1) v' σ' (by omega) (by omega) h2;exact⟨q,Fk h1 hq,hQ⟩
   ·have:i=l.length:=by omega
    subst this;obtain⟨q,h1,h2,h3⟩:=hend v σ hI;exact⟨q,um h1 h2,h3⟩
 obtain⟨q,⟨n,hn⟩,hQ⟩:=key _ 0 v0 σ (bJ _) (jK _) h0;exact⟨q,BN hn,hQ⟩
theorem oL{β:Type}{f:aq->Heap->Option LS}{K:LS->Option β}{v0:aq}{σ:Heap}{P:β->Prop}{Q:LS->Prop}(h:∃q,s9 f v0 σ=δ q/\Q q)(k:∀q,Q q->∃b,K q=δ b/\P b):∃b,(s9 f v0 σ).bind K=δ b/\P b:=by obtain⟨q,h1,h2⟩:=h;obtain⟨b,h3,h4⟩:=k q h2;exact⟨b,by rw[h1];exact h3,h4⟩
section
variable {α : Type} {c : α -> aq} {sz : Nat} {B : aM -> Prop} {an σ : Heap} {R : HP} {v : AV} {l : List α}
theorem xJ(H:Hs B an σ (Sl (fl c) sz v l*R)){i:Nat}{x:α}(hx:l[i]? =δ x):∃p,EY sz v (.ah (i:Int))=δ p/\ψ p σ=δ (c x):=by
 have hi:=(bB.1 hx).1;rcases nF H with⟨rfl,_,_⟩|⟨id,g,rfl,K⟩
 ·simp at hx
 ·obtain⟨h1,h2⟩:=dS K;have hi':((i:Int)<(l.length:Int)):=by omega
  exact⟨.oe id g i 0,by simp [EY,A.idx,hi'],by simp [ψ,h2,hx]⟩
theorem Rj{most:Nat}{m r:aq->Heap->aG}{r0:AV->Heap->aG}(hm:m=A.F7 (Φ ι [(.s sz)] .k (XJ r0)))(hr:∀a σ,r0 a σ=(A.GZ a .aH).bind λx1=>χ x1 (δ (.aH,σ)) ((wh sz most .ez a σ).bind λr2=>δ (r2.1,r2.2)))
  (hl:l.length<=most) (hB:∀g g' seg,(seg=[]\/B (.arr g sz seg))->B (.arr g' sz (seg++l.map c))) (H:Hs B an σ R):∃v σ',m [sl sz c l] σ=δ (v,σ')/\l5 v=δ v/\Hs B an σ' (Sl (fl c) sz v l*R):=by
 subst hm;cases l with
 |nil=>exact⟨.ez,σ,rfl,rfl,ji H (.inr rfl)⟩
 |cons x l=>
  obtain⟨v',σ',e1,H2⟩:=KA (B:=B) (E:=fl c) (sz:=sz) (v:=.ez) (l:=[]) (ys:=(x::l).map c) (xs:=x::l) (most:=most) (ji (Cp.2 ⟨rfl,H⟩) (.inr rfl)) (by simpa using hl) hB
  have hv:l5 v'=δ v':=by
   rcases nF H2 with⟨h,_,_⟩|⟨id,g,rfl,_⟩
   ·cases h
   ·rfl
  refine⟨v',σ',?_,hv,H2⟩;show Φ ι [(.s sz)] .k (XJ r0) [sl sz c (x::l)] σ=_;refine wrap_eq rfl ?_ rfl;show r0 (sl sz c (x::l)) σ=_;rw[hr,show A.GZ (sl sz c (x::l)) .aH=δ (.bool θ)from rfl,aL,mJ,show sl sz c (x::l)=.sl sz ((x::l).map c)from rfl,e1];rfl
end
section
variable {an σ : Heap} {R : HP}
theorem abJ{α:Type}{E:aq->α->HP}{sz:Nat}{B:aM->Prop}{v:AV}{l:List α}(H:Hs B an σ (Sl E sz v l*R)):l5 v=δ v:=by rcases Ao H with⟨_,rfl|rfl,_⟩|⟨id,g,seg,rfl,_⟩<;>rfl
end
end
section
open HP
section
variable {an σ : Heap} {R : HP}
theorem Kp{v v':AV}(H:Hs aP an σ R)(h:Ya σ an.length 8 v=δ v')(hv:σ=an->v'=v):e9 an v σ=δ (v',an):=by
 obtain⟨⟨bs,rfl,_⟩,_⟩:=H;by_cases jN:bs=[]
 ·subst jN;rw[X0]at h ⊢;rw[cq,hv (by simp)]
 ·unfold e9;rw[aB (by simpa using jN),aC (by simp),h];rfl
end
end
section
open HP
def Inv(k:Nat)(l:List uH):Prop:=l.length<=1000/\∀c∈l,UH c.Gn/\c.Gn.length<=2000+k
section
variable {an σ : Heap} {R : HP}
end
end
section
open HP
section
variable {α β : Type} {E : aq -> β -> HP} {f : α -> β} {B : aM -> Prop} {an σ : Heap} {R : HP} {sz : Nat} {v : AV}
end
section
variable {an σ : Heap} {R : HP} {v : AV}
theorem AH{α:Type}{c:α->aq}{sz:Nat}{l:List α}{vm:AV}(hc:∀x,nY (c x))(H:Hs aP an σ (Sl (fl c) sz vm l*R)):Lt σ (.s sz) vm (sl sz c l):=by
 obtain⟨v',h1,h2,h3⟩:=KB H hc (jK _) 7;refine⟨⟨v',h1,?_,by rw[h3];rfl⟩,rfl,λho=>?_⟩
 ·rcases nF H with⟨rfl,rfl|rfl,_⟩|⟨id,g,rfl,K⟩
  ·simp [Ya]at h1;subst h1;rfl
  ·simp [Ya]at h1;subst h1;rfl
  ·cases v'<;>first|rfl|(cases h2;done)|(simp only[XM]at h3;cases h3)
 ·rcases nF H with⟨rfl,rfl|rfl,_⟩|⟨id,g,rfl,K⟩
  ·rfl
  ·rfl
  ·cases ho
end
end
section
open HP
theorem su(a b:AV):WG 0 (.aN [a,b])=δ a:=rfl
theorem ext1(a b:AV):WG 1 (.aN [a,b])=δ b:=rfl
theorem aey(a:Int):XP .i (.ah a) (.ah 0)=δ (.bool (decide (¬(a=0)))):=by rw[fW]
end
section
open HP
def mw:aM->Prop:=λb=>A.xH b=ι
section
variable {α : Type} {c : α -> aq} {sz : Nat} {an σ : Heap} {R : HP}
theorem Cr{B:aM->Prop}(H:Hs B an σ R)(bs:Heap)(jN:∀b∈bs,B b):Hs B an (σ++bs) R:=by obtain⟨⟨b0,rfl,hb0⟩,h,hr,h2⟩:=H;exact⟨⟨b0++bs,by simp,λb hb=>(eG.1 hb).elim (hb0 b) (jN b)⟩,h,hr,λi b hb=>⟨(h2 i b hb).1,by rw[fZ (bB.1 (h2 i b hb).2).1];exact(h2 i b hb).2⟩⟩
theorem SE{B:aM->Prop}(H:Hs B an σ R){bs:Heap}(jN:∀b∈bs,B b){j:Nat}{b:aM}(hj:σ.length<=j)(hb:(σ++bs)[j]? =δ b):Hs B an (σ++bs) (blk j b*R):=by
 have hl:=SF H;have H2:=Cr H bs jN;obtain⟨_,h,hr,h2⟩:=H
 have hn:h j=η:=by
  cases hh:h j with
  |none=>rfl
  |some x=>have:=(bB.1 (h2 j x hh).2).1;omega
 refine⟨H2.pre,λi=>if i=j then δ b else h i,⟨λi=>if i=j then δ b else η,h,λi=>rfl,hr,λi=>?_,λi=>?_⟩,λi x hx=>?_⟩
 ·by_cases e:i=j
  ·subst e;exact .inr hn
  ·simp [e]
 ·by_cases e:i=j<;>simp [e]
 ·by_cases e:i=j
  ·subst e;simp only[if_true,ξ]at hx;subst hx;exact⟨by omega,hb⟩
  ·simp only[e,if_false]at hx;obtain⟨k1,k2⟩:=h2 i x hx;exact⟨k1,by rw[fZ (bB.1 k2).1];exact k2⟩
def KS(m:aq->Heap->aG)(args:aq)(c:α->aq)(sz:Nat)(l:List α):Prop:=∀(an σ:Heap)(R:HP),Hs mw an σ R->∃v σ',m args σ=δ (v,σ')/\Hs mw an σ' (Sl (fl c) sz v l*R)
theorem TD{B:aM->Prop}(G2:∀b,mw b->B b){m:aq->Heap->aG}{args:aq}{l:List α}(h:KS m args c sz l)(H:Hs B an σ R):∃v σ',m args σ=δ (v,σ')/\Hs B an σ' (Sl (fl c) sz v l*R):=by
 obtain⟨v,σ',e1,K⟩:=h σ σ emp (AF σ);refine⟨v,σ',e1,?_⟩;obtain⟨⟨bs,jN,hfr⟩,_⟩:=id K;subst jN;have uY:∀b∈bs,B b:=λb hb=>G2 b (hfr b hb)
 rcases nF K with⟨rfl,hv,_⟩|⟨id,g,rfl,K2⟩
 ·exact ji (Cr H bs uY) hv
 ·obtain⟨k1,k2⟩:=dS K2;exact Gc (SE H uY k1 k2)
theorem CB{B:aM->Prop}(G2:∀b,mw b->B b){cm:List Sh}{r:aq->Heap->aG}{uP ts:aq}{l:List α}(h:A7 σ cm uP ts)(e:KS (Φ ι cm .k r) ts c sz l)(H:Hs B an σ R):
  ∃v σ',Φ ι cm .k r uP σ=δ (v,σ')/\Hs B an σ' (Sl (fl c) sz v l*R):=by
 obtain⟨⟨as',k1,k2,k3⟩,k4,k5⟩:=Hq h;cases ho:uP.any Z2
 ·obtain⟨v,σ',e1,K⟩:=TD G2 e H;exact⟨v,σ',by rw[xF (k5 ho) ho k4];exact e1,K⟩
 ·obtain⟨v,σ1,e1,K⟩:=e [] [] emp (AF [])
  have e2:r (Z3 cm ts) []=δ (v,σ1):=by unfold Φ at e1;rw[k4,Zg,aS]at e1;obtain⟨⟨q1,q2⟩,f1,f2⟩:=bX.1 e1;simp only[Δ,kY]at f2;obtain⟨rfl,rfl⟩:=f2;exact f1
  have hfr:∀b∈σ1,mw b:=by obtain⟨⟨bs,jN,hB⟩,_⟩:=K;rw[Xk]at jN;subst jN;exact hB
  have hb:σ1.all A.xH=ι:=iX.2 hfr;have uY:∀b∈σ1,B b:=λb hb=>G2 b (hfr b hb)
  have hw:∀v',A.tc v=ι->A.rQ σ.length v=v'->Φ ι cm .k r uP σ=δ (v',σ++σ1):=by intro v' h1 h2;unfold Φ;rw[ho,amY,bg,k1,aL,k3,e2,aL,kY];simp only[h1,hb,amY,bg,h2]
  rcases nF K with⟨rfl,rfl|rfl,_⟩|⟨id,g,rfl,K2⟩
  ·exact⟨.aH,_,hw _ rfl rfl,ji (Cr H σ1 uY) (.inl rfl)⟩
  ·exact⟨.ez,_,hw _ rfl rfl,ji (Cr H σ1 uY) (.inr rfl)⟩
  ·obtain⟨_,k2⟩:=dS K2;refine⟨.os (id+σ.length) g sz 0 l.length,_,hw _ rfl rfl,Gc (SE H uY (by omega) ?_)⟩;rw[iH (by omega),Nat.add_sub_cancel];exact k2
theorem Rs{c:α->aq}(hc:∀x,(c x).all A.nO=ι)(l:List α):∀g g' seg,(seg=[]\/mw (.arr g sz seg))->mw (.arr g' sz (seg++l.map c)):=by
 intro g g' seg h;show((seg++l.map c).all λe=>e.all A.nO)=ι;rw[List.all_append,eF];refine⟨?_,?_⟩
 ·rcases h with rfl|h
  ·rfl
  ·exact h
 ·rw[List.all_map,iX];intro x _;exact hc x
end
end
theorem ab1(σ:Heap):xg [.aH,.ah 0] σ=δ (.aH,σ):=by unfold xg Φ;rw[Wt,aS];show(xh .aH (.ah 0) σ).map _=_;rw[show xh .aH (.ah 0) σ=δ (.aH,σ)from rfl];simp [XM]
def qR:aq:=[(ε 0)]
theorem ab2{n:Nat}(h0:0<n)(h1:n<=4398046511104)(σ:Heap):xg [.aH,.ah (n:Int)] σ=δ (.os σ.length n 1 0 0,σ++[.arr n 1 (e8 n qR)]):=by
 unfold xg Φ;rw[Wt,aS];show(xh .aH (.ah (n:Int)) σ).map _=_
 have run:xh .aH (.ah (n:Int)) σ=δ (.os σ.length n 1 0 0,σ++[.arr n 1 (e8 n qR)]):=by
  unfold xh;have hc:∀{k:AV->aG}{u:aG},A.tD (A.xX .aH) k u=k (.ah 0):=rfl;have jO:∀{k:AV->Option (aq×Heap)}{u:Option (aq×Heap)},A.tD (A.xX .aH) k u=k (.ah 0):=rfl;have e1:p9 (.ah (n:Int)) (.ah 0)=δ (.bool θ):=by rw[qc,ia (by omega)]
  have e2:Yd (.ah (n:Int)) (.ah 0)=δ (.ah (n:Int)):=by rw[AP,Int.sub_zero,dY (by unfold bA;omega)]
  have e3:W7 (.ah (n:Int)) (.ah 0)=δ (.bool ι):=by simp [W7];omega
  rw[e1,aL,mJ,aL,hc,show WJ .aH=δ (.ah 0)from rfl,aL,show Yd (.ah 0) (.ah 0)=δ (.ah 0)from rfl,aL,e2,aL,e3,aL,pR,jO];have e4:A.gD 1 .aH η (δ (.ah 0)) σ=δ .aH:=by simp [A.gD,Wf]
  have e5:A.rK 1 (140737488355328 / 8) qR .aH (.ah (n:Int)) σ=δ (.os σ.length n 1 0 n,σ++[.arr n 1 (e8 n qR)]):=by
   have q:(0:Int)<=(n:Int)/\(n:Int)<=((140737488355328 / 8:Nat):Int):=by omega
   simp only[A.rK,aC q,A.kM,amV,ZM];rw[aB (by intro h;have:=congrArg Xg h;simp at this;omega),aC (by omega)]
  have e6:(σ++[aM.arr n 1 (e8 n qR)])[σ.length]? =δ (.arr n 1 (e8 n qR)):=by simp
  simp only;rw[e4,aL,show[(ε 0)]=qR from rfl,e5,aL,aL,show(.ah 0:AV)=.ah ((0:Nat):Int)from rfl,N2 (JU e6 (by simp)) (KL (k:=0) (by omega)) KK,aL];rfl
 rw[run];simp [XM]
abbrev sj:=AV×List aq
def CH(p:sj):Prop:=WJ p.1=δ (.ah (p.2.length:Int))/\(∀σ,WZ 1 p.1 σ=δ p.2)/\l5 p.1=δ p.1
def uB(p:sj):aq:=[p.1]
theorem Kv{p:sj}(h:CH p):Θ 0 (uB p)=δ p.1:=h.2.2
abbrev kD(L:List sj):List aq:=(L.map (·.2)).flatten
def ij(L:List sj):Nat:=(kD L).length
theorem JI{L:List sj}{i:Nat}{x:sj}(h:L[i]? =δ x):kD (L.take (i+1))=kD (L.take i)++x.2:=by rw[u6,h];simp [kD]
theorem Sc{L:List sj}(i:Nat):ij (L.take i)<=ij L:=by
 have:L=L.take i++L.drop i:=(WD _ _).symm;unfold ij;conv=>rhs;rw[this]
 simp only[kD,Tm,amy,Λ];omega
theorem ZP{L:List sj}(hr:∀p∈L,CH p)(hl:L.length<=bD)(h:ij L<=4398046511104)(σ:Heap):∃b:AV×Heap,wZ (sl 1 uB L) σ=δ b/\((b.1=.aH/\b.2=σ/\kD L=[])\/(b.1=.os σ.length (ij L) 1 0 (ij L)/\b.2=σ++[.arr (ij L) 1 (kD L)])):=by
 unfold wZ;rw[dh,aL];refine oL (Q:=λq=>∃w,q=(.exit 0,[.ah (ij L:Int),w],σ)) (kP L (λi v s=>v=[.ah (ij (L.take i):Int),.ah (i:Int)]/\s=σ) ?_ ?_ ⟨rfl,rfl⟩) ?_
 ·rintro i x v s hx ⟨rfl,rfl⟩;have hle:=Sc (L:=L) (i+1);have hs:ij (L.take (i+1))=ij (L.take i)+x.2.length:=by unfold ij;rw[JI hx,Λ]
  simp only[bW,eM];rw[fJ hx,aL,pR,gm hx,aL];simp only[ψ,aL];rw[Kv (hr x (bR hx)),aL,(hr x (bR hx)).1,aL,UJ (by omega),aL];rw[show p9 (.ah ((ij (L.take i)+x.2.length:Nat):Int)) (.ah 0)=δ (.bool θ) by rw[qc,ia (by omega)],aL,mJ,aL,fM hx hl,aL];exact⟨_,_,rfl,by rw[hs],rfl⟩
 ·rintro v s ⟨rfl,rfl⟩;simp only[bW,eM];rw[fL,aL,mJ];refine⟨_,rfl,by simp,.ah (L.length:Int),?_⟩;rw[VZ]
 ·rintro q ⟨w,rfl⟩;simp only[U7,bW];by_cases h0:ij L=0
  ·have GC:(kD L)=[]:=uG h0;rw[h0,show(((0:Nat):Int))=0 from rfl,ab1,aL,aL];refine oL (Q:=λq=>∃w,q=(.exit 2,[.aH,w],σ)) (kP L (λi v s=>v=[.aH,.ah (i:Int)]/\s=σ) ?_ ?_ ⟨rfl,rfl⟩) ?_
   ·rintro i x v s hx ⟨rfl,rfl⟩;have hxn:x.2=[]:=List.flatten_eq_nil_iff.1 GC x.2 (fK.2 ⟨x,bR hx,rfl⟩);have DN:=hr x (bR hx);simp only[bW,eM];rw[fJ hx,aL,pR,gm hx,aL];simp only[ψ,aL];rw[Kv DN,aL,show wh 1 (140737488355328 / 8) .aH x.1 s=δ (.aH,s) by simp [wh,DN.2.1,hxn,A.kM],aL,fM hx hl,aL];exact⟨_,_,rfl,rfl,rfl⟩
   ·rintro v s ⟨rfl,rfl⟩;simp only[bW,eM];rw[fL,aL,mJ];exact⟨_,rfl,by simp,_,rfl⟩
   ·rintro q ⟨w,rfl⟩;exact⟨_,rfl,.inl ⟨rfl,rfl,GC⟩⟩
  ·have hpos:0<ij L:=by omega
   rw[ab2 hpos (by omega),aL,aL];obtain⟨n,hn⟩:∃n,n=ij L:=⟨_,rfl⟩
   rw[<-hn]at hpos h ⊢;refine oL (Q:=λq=>∃w,q=(.exit 2,[.os σ.length n 1 0 n,w],σ++[.arr n 1 (kD L)])) (kP L (λi v s=>v=[.os σ.length n 1 0 (ij (L.take i)),.ah (i:Int)]/\s=σ++[.arr n 1 ((kD (L.take i))++e8 (n-ij (L.take i)) qR)]) ?_ ?_ ⟨rfl,by simp [ij]⟩) ?_
   ·rintro i x v s hx ⟨rfl,rfl⟩;have hle:=Sc (L:=L) (i+1);have hs:ij (L.take (i+1))=ij (L.take i)+x.2.length:=by unfold ij;rw[JI hx,Λ]
    obtain⟨k,hk⟩:∃k,k=ij (L.take i):=⟨_,rfl⟩
    have hfl:(kD (L.take i)).length=k:=hk.symm;simp only[bW,eM];rw[fJ hx,aL,pR,gm hx,aL];simp only[ψ,aL];have DN:=hr x (bR hx);rw[Kv DN,aL];rw[hs,JI hx,<-hk];have hg:(σ++[aM.arr n 1 ((kD (L.take i))++e8 (n-k) qR)])[σ.length]? =δ (.arr n 1 ((kD (L.take i))++e8 (n-k) qR)):=by simp
    have afR:wh 1 (140737488355328 / 8) (.os σ.length n 1 0 k) x.1 (σ++[.arr n 1 ((kD (L.take i))++e8 (n-k) qR)])=δ (.os σ.length n 1 0 (k+x.2.length),σ++[.arr n 1 ((kD (L.take i))++x.2++e8 (n-(k+x.2.length)) qR)]):=by
     simp only[wh,DN.2.1,if_true,aL,A.kM,hg];rw[aC (by simp [hfl];omega)];by_cases hx0:x.2=[]
     ·rw[hx0];simp
     ·rw[aB hx0,aC (by simp [hfl];omega)];congr 2;rw[xQ _ _ (bJ _),ama];simp only[amk,Gs];congr 3;rw[am6 (by omega),lW (by omega)];congr 1;rw[List.drop_append,List.drop_of_length_le (by omega),Xk,hfl,List.drop_replicate];congr 1;omega
    rw[afR,aL,fM hx hl,aL];exact⟨_,_,rfl,rfl,rfl⟩
   ·rintro v s ⟨rfl,rfl⟩;simp only[bW,eM];rw[fL,aL,mJ];refine⟨_,rfl,by simp,.ah (L.length:Int),?_⟩;rw[VZ,<-hn];simp
   ·rintro q ⟨w,rfl⟩;refine⟨(.os σ.length n 1 0 n,σ++[.arr n 1 (kD L)]),rfl,.inr ⟨?_,?_⟩⟩
    ·rfl
    ·rfl
theorem Km{L:List sj}{l:List Int}(hr:∀p∈L,CH p)(hl:L.length<=bD)(h:l.length<=4398046511104)(hf:kD L=l.map aO):KS (Φ ι [(.s 1)] .k (XJ wZ)) [sl 1 uB L] aO 1 l:=by
 intro an σ R H;have ht:ij L=l.length:=by unfold ij;rw[hf,p7]
 obtain⟨⟨b1,b2⟩,h1,h2⟩:=ZP hr hl (by omega) σ;have hw:Φ ι [(.s 1)] .k (XJ wZ) [sl 1 uB L] σ=δ (b1,b2):=wrap_eq rfl h1 (kY _);rcases h2 with⟨rfl,rfl,h3⟩|⟨rfl,rfl⟩
 ·have:l=[]:=by rw[hf]at h3;simpa using h3
  subst this;exact⟨_,_,hw,ji H (.inl rfl)⟩
 ·refine⟨_,_,hw,?_⟩;rw[ht,hf];refine Gc (rP H ?_) rfl;show((l.map aO).all λe=>e.all A.nO)=ι;rw[List.all_map,iX];intro x _;rfl
section
open HP
def adn(n:Int):uH:=⟨n,⟨#[]⟩,0,0,0,0,⟨1,[]⟩,θ,-1,[]⟩
def newRow(n:Int):aq:=adV (adn n) .aH .aH
section
variable {an σ : Heap} {R : HP}
end
end
section
open HP
theorem aak{id g sz k:Nat}{es:List aq}{σ σ':Heap}{args:aq}(h:σ'[id]? =δ (.arr g sz es))(hk:k<=es.length)(hid:id<σ.length)(hg:g<A.gen args+1):A.renew args σ (.os id g sz 0 k) σ'=δ (.os id (A.gen args+1) sz 0 k,σ'.set id (.arr (A.gen args+1) sz (es.take k))):=by simp only[A.renew,h];rw[aC ⟨trivial,trivial,by omega,hg⟩,aC (.inl hid),Xm]
theorem Qe{α:Type}{c:α->aq}{sz id g k:Nat}{l:List α}{an σ σ':Heap}{R:HP}{qo:AV}(hid:id<σ.length)(hk:k<=l.length)(yT:k<=l.length)(hg:A.gen [AV.os id g sz 0 l.length,qo]=g+l.length)(H:Hs aP an σ' (blk id (.arr g sz (l.map c))*R)):
  ∃v' s,A.renew [.os id g sz 0 l.length,qo] σ (.os id g sz 0 k) σ'=δ (v',s)/\Hs aP an s (Sl (fl c) sz v' (l.take k)*R):=by
 obtain⟨h1,h2⟩:=dS H;refine⟨_,_,aak h2 (by simp;omega) hid (by rw[hg];omega),?_⟩;have H2:=pN (b':=.arr (A.gen [AV.os id g sz 0 l.length,qo]+1) sz ((l.map c).take k)) H trivial;have e:(l.map c).take k=(l.take k).map c:=al4.symm;rw[e]at H2 ⊢;exact Gc H2 (by simp;omega)
section
variable {an σ : Heap} {R : HP}
end
end
section
open HP
theorem RG{f:aq->Heap->Option LS}{Q:LS->Prop}(I:Nat->aq->Heap->Prop)(hstep:∀n v σ,I n v σ->(∃m v' σ',m<n/\f v σ=δ (.normal,v',σ')/\I m v' σ')\/∃q,f v σ=δ q/\q.1≠.normal/\Q q){n:Nat}{v0:aq}{σ:Heap}(h0:I n v0 σ):∃q,s9 f v0 σ=δ q/\Q q:=by
 have key:∀(k n:Nat)v σ,n<=k->I n v σ->∃q,(∃m,XX f m v σ=δ q)/\Q q:=by
  intro k;induction k with
  |zero=>
   intro n v σ hn hI;rcases hstep n v σ hI with⟨m,_,_,hm,_⟩|⟨q,h1,h2,h3⟩
   ·omega
   ·exact⟨q,um h1 h2,h3⟩
  |succ k ih=>
   intro n v σ hn hI;rcases hstep n v σ hI with⟨m,v',σ',hm,h1,h2⟩|⟨q,h1,h2,h3⟩
   ·obtain⟨q,hq,hQ⟩:=ih m v' σ' (by omega) h2;exact⟨q,Fk h1 hq,hQ⟩
   ·exact⟨q,um h1 h2,h3⟩
 obtain⟨q,⟨m,hm⟩,hQ⟩:=key n n v0 σ (bJ _) h0;exact⟨q,BN hm,hQ⟩
theorem gT(X d:Option AV):μ (.bool ι) ι X d=X:=by have h:μ (.bool ι) ι X d=X:=rfl;exact h.trans (amH X)
theorem gF(X d:Option AV):μ (.bool θ) θ X d=X:=by have h:μ (.bool θ) θ X d=X:=rfl;exact h.trans (amH X)
theorem Ve(X d:Option AV):μ (.bool θ) ι X d=d:=by have h:μ (.bool θ) ι X d=d:=rfl;exact h.trans (amH d)
theorem Vb(X d:Option AV):μ (.bool ι) θ X d=d:=by have h:μ (.bool ι) θ X d=d:=rfl;exact h.trans (amH d)
theorem bS{α β:Type}(a:α)(f:α->Option β):(δ a).bind f=f a:=by have h:(δ a).bind f=f a:=rfl;exact h.trans (amH (f a))
theorem mQ(cs:aq)(σ:Heap):ψ (.rp cs) σ=δ cs:=by have h:ψ (.rp cs) σ=δ cs:=rfl;exact h.trans (amH _)
theorem mu(n:Nat){α:Type}{X Y:α}:(bif (Γ n==Γ n)then X else Y)=X:=by rw[show(Γ n==Γ n)=ι from beq_self_eq_true _];rfl
theorem D1(x y:AV):l6 (.bool θ) x y=δ y:=rfl
theorem Hu(x y:AV):l6 (.bool ι) x y=δ x:=rfl
theorem ya:Wc (.bool ι)=δ (.bool θ):=rfl
theorem CT:Wc (.bool θ)=δ (.bool ι):=rfl
end
def kZ{α:Type}(sz:Nat)(c:α->aq):List α->AV
 |[]=>.aH
 |x::l=>.sl sz ((x::l).map c)
theorem aci{α:Type}{sz:Nat}{c:α->aq}{l:List α}(h:l≠[]):kZ sz c l=sl sz c l:=by
 cases l with
 |nil=>exact absurd rfl h
 |cons x l=>rfl
theorem RF{α:Type}(sz:Nat)(c:α->aq)(l:List α):WJ (kZ sz c l)=δ (.ah (l.length:Int)):=by
 cases l with
 |nil=>rfl
 |cons x l=>exact dh sz c (x::l)
theorem RB{α:Type}{sz:Nat}{c:α->aq}{l:List α}{i:Nat}{x:α}(h:l[i]? =δ x):EY sz (kZ sz c l) (.ah (i:Int))=δ (.rp (c x)):=by
 cases l with
 |nil=>simp at h
 |cons y l=>exact gm h
inductive aD where
 |mk(kind from_ Bs:Int)(args:List aD)
namespace aD
def kind:aD->Int|.mk k _ _ _=>k
def from_:aD->Int|.mk _ f _ _=>f
def Bs:aD->Int|.mk _ _ t _=>t
def args:aD->List aD|.mk _ _ _ l=>l
end aD
mutual
def bn:aD->Nat
 |.mk _ _ _ l=>1+cC l
def cC:List aD->Nat
 |[]=>0
 |p::l=>bn p+cC l
end
mutual
def dK:aD->Nat
 |.mk _ _ _ l=>1+jI l
def jI:List aD->Nat
 |[]=>0
 |p::l=>max (dK p) (jI l)
end
theorem qH(p:aD):bn p=1+cC p.args:=by cases p;rw[bn];rfl
theorem xD(p:aD):dK p=1+jI p.args:=by cases p;rw[dK];rfl
theorem Jh{p:aD}:∀{l:List aD},p∈l->bn p<=cC l
 |q::l,h=>by
  rw[cC];rcases eo.1 h with rfl|h
  ·omega
  ·have:=Jh h;omega
theorem BZ:∀l:List aD,cC l=(l.map bn).sum
 |[]=>by rw[cC];rfl
 |p::l=>by rw[cC,bU,X2,BZ l]
theorem B3{p q:aD}(h:q∈p.args):bn q<bn p:=by rw[qH p];have:=Jh h;omega
namespace aD
def aT:aD->Int:=from_
def to:aD->Int:=Bs
end aD
mutual
def aF:aD->aq
 |.mk k f t l=>[.int Ξ k,.int Ξ f,.int Ξ t,.sl 4 (Co l)]
def Co:List aD->List aq
 |[]=>[]
 |p::l=>aF p::Co l
end
theorem PN:∀l:List aD,Co l=l.map aF
 |[]=>by rw[Co];rfl
 |p::l=>by rw[Co,PN l];rfl
theorem aA(p:aD):aF p=[.ah p.kind,.ah p.aT,.ah p.to,sl 4 aF p.args]:=by cases p;rw[aF,PN];rfl
theorem PM(p:aD):(aF p).length=4:=by rw[aA];rfl
structure bG where
 aI:Int
 pick:aD
instance : Inhabited aD := ⟨.mk 0 0 0 []⟩
instance : Inhabited bG := ⟨⟨0, default⟩⟩
def bV(g:bG):aq:=[.ah g.aI,.ah g.pick.kind,.ah g.pick.aT,.ah g.pick.to,sl 4 aF g.pick.args]
theorem O7(g:bG):(bV g).length=5:=rfl
theorem IG(g:bG):bV g=.ah g.aI::aF g.pick:=by rw[aA];rfl
theorem sU(p:aD):i7 4 (.agg (aF p))=δ (aF p):=by rw[aA];rfl
theorem ur(p:aD):Ze 0 4 (aF p)=δ (.agg (aF p)):=by rw[aA];rfl
theorem qI(x:aD)(l:aq)(h:l.length=4):y9 0 (aF x) l=δ (aF x):=by simp [y9,PM,h]
theorem Fu(x:bG)(l:aq)(h:l.length=5):y9 0 (bV x) l=δ (bV x):=by simp [y9,O7,h]
end
end Go.Proofs.YtkdafecbdncmiaaDoor
