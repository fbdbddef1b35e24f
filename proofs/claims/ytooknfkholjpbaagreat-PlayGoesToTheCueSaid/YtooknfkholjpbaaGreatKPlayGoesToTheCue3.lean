/- Parts of the proof of PlayGoesToTheCue, in order. -/
import Derived.Test.YtooknfkholjpbaaGreatShelf
import Derived.RangeFuncGives
import Derived.RangeFuncBound
import Derived.RangeFuncIn
import Derived.RangeFuncLeaves
import Derived.RangeFuncRecord
import Derived.Sort.MapsRangeIn
import Derived.TacticsInMore
import Derived.OwnWalkIn
import Derived.RegionIn
import Derived.LoopNIn
import Derived.LoopIn
import Derived.Shelf.AbstractIn
import Derived.BigFrameIn
import Derived.Lib.Overlaps
import Derived.IntWalk
import Derived.Sort.Statements
import Derived.Test.YtooknfkholjpbaaGreatKPlayGoesToTheCue2
namespace Go.Proofs.YtooknfkholjpbaaGreat
set_option linter.unusedVariables false
set_option linter.unusedSimpArgs false
set_option linter.unusedSectionVars false
set_option maxRecDepth 1000000
noncomputable section
open AV renaming ah->ε,bool->Λ,int->Wz,op->Yy,agg->Φ,aA->Zg,rp->ZN,str->Xo,om->XP,sl->Yh,aM->Yu,np->aDa,lbx->VD
open A renaming look->Yt,eql->ZA,lss->YY,fin->wh,cells->ψ,not->Wk,ext->Yn,guard->η,bound->Wb,pick->UD,dw->TQ,elems->VB,bI->ZP,aQ->WC,leq->Ze,entries->US,find->Wh,cM->Xw,tab->Zw,cell->Ψ,mul->Tu,bu->UY,lb->Tv,add->WE,gz->WN,eo->YR,bw->Zo,neq->UP,aD->VU,aB->ir,kT->X5,sub->Uk,nn->Y9,deref->χ,gtr->YK,iter->Xj,loop->Y7,storeAt->XZ,eA->Wf,cond->φ,append->WK,wrap->Ω,bV->X4,geq->YI,quiet->Wi,jm->WS,ak->Γ
open aW renaming map->Z0,box->Vs
open List renaming any_eq_true->VK,drop_zero->Zz,map_append->Z6,find?_cons->aDr,getElem?_drop->ZW,foldl_cons->V4,length->WD,contains_iff_mem->Ua,append_nil->VT,getD->U1,findIdx?_cons->aDw,perm_middle->aC2,size_toArray->Zs,length_map->X1,map_nil->Vl,all_cons->aDz,length_cons->YZ,getElem?_append->Wl,length_singleton->Wa,map_map->YG,getElem?_take->aCY,nil_append->V7,find?->Xx,map_congr_left->Yq,mem_map_of_mem->aDg,mem_filter->Tx,length_nil->UB,length_append->ZY,replicate->Z3
open Option renaming getD_some->WU,some->δ,isNone_some->Yd,none->μ,getD_none->WO,isNone_none->UW
open Nat renaming zero_add->YW,sub_self->Yp,le_trans->UT,lt_irrefl->aDH
open Go.World renaming putObj_heap_other->Tw,cell?->Xd,alloc_heap_new->WT
open Go.Instr renaming range->aDF,next->UX
open Prod.mk renaming injEq->T4
open Int renaming toNat_of_nonneg->Wj,lt_irrefl->Xz
open AX renaming normal->Xv,exit->Ξ,ret->YP
open Bool renaming true->θ,not_false->Yx,false_eq_true->YQ,not_eq_true'->UK,not_eq_false->aDb,false->ι,and_false->Wc,not_true->Ur
open Go.IntKind renaming i64->ξ
open _root_.Array renaming length_toList->Y8,toList_filter->Vh,getElem?_toList->UE
open Go.KeepsWalks renaming alloc->aDI
open Go.Extern.SlicesOverlaps renaming overlaps->Ws
open Classical renaming choose->To,choose_spec->Vm
open Go.Value renaming ownBlock->aDc
open Go renaming run_choose_drew->aD7
open Go.Lib renaming compareBytes->Xt
open IntKind renaming i64->ξ
open Go.Sem renaming run_bind->Ts,run->U8
open Go.Result renaming andThen_ok->UM
open UInt8 renaming not_lt->XJ,le_antisymm->aDB,lt_irrefl->Zh
open Go.Op renaming bytesLess->WR
open Option.some renaming injEq->Θ
section
def aBT (a0:AV) (σ:Heap):aF:=(A.yE a0).bind λx1=>(Y7 (λv2 s3=>(YY (aj v2 1) x1).bind λx5=>φ x5 ((A.qy a0 (aj v2 1)).bind λx6=>(YI x6 (Wz .u8 97)).bind λx7=>(η x7 θ (δ x6) au).bind λx8=>(η x7 θ (Ze x8 (Wz .u8 122)) au).bind λx9=>(UD x7 x9 aR).bind λbl=>(η bl ι (δ x6) au).bind λbT=>(η bl ι (YI bT (Wz .u8 48)) au).bind λbR=>(η bl ι (δ bR) au).bind λbZ=>(η bZ θ (δ x6) au).bind λbW=>(η bZ θ (Ze bW (Wz .u8 57)) au).bind λcN=>(η bl ι (UD bZ cN aR) au).bind λbO=>(UD bl dz bO).bind λcg=>(η cg ι (δ x6) au).bind λcQ=>(η cg ι (ZA .i cQ (Wz .u8 45)) au).bind λdZ=>(UD cg dz dZ).bind λcS=>(Wk cS).bind λbL=>φ bL (δ (YP,[aR,(aj v2 1)],s3)) ((WE (aj v2 1) (ε 1)).bind λcI=>δ (Xv,[(aj v2 0),cI],s3))) (δ (Ξ 0,[(aj v2 0),(aj v2 1)],s3))) [aR,(ε 0)] σ).bind λmY=>bif mY.1==Ξ 0 then((UP .z a0 bE).bind λx24=>wh σ x24 mY.2.2)else bif mY.1==YP then(wh σ (aj mY.2.1 0) mY.2.2)else μ
def VX:aq->Heap->aF:=Ω θ [] .k (YR aBT)
def VE (a0:AV) (σ:Heap):aF:=(VX [a0] σ).bind λr1=>(η r1.1 θ (δ a0) au).bind λx2=>(η r1.1 θ (A.yE x2) au).bind λx3=>(η r1.1 θ (Ze x3 (ε 20)) au).bind λx4=>(UD r1.1 x4 aR).bind λx5=>(η x5 θ (δ a0) au).bind λx6=>(η x5 θ (A.qy x6 (ε 0)) au).bind λx7=>(η x5 θ (YI x7 (Wz .u8 97)) au).bind λx8=>(UD x5 x8 aR).bind λx9=>(η x9 θ (δ a0) au).bind λbl=>(η x9 θ (A.qy bl (ε 0)) au).bind λbT=>(η x9 θ (Ze bT (Wz .u8 122)) au).bind λbR=>(UD x9 bR aR).bind λbZ=>wh σ bZ r1.2
def Jf:aq->Heap->aF:=Ω θ [] .k (YR VE)
def az4 (a0 a1 a2:AV) (σ:Heap):aF:=(YI a0 a1).bind λx1=>(η x1 θ (δ a0) au).bind λx2=>(η x1 θ (δ a2) au).bind λx3=>(η x1 θ (Ze x2 x3) au).bind λx4=>(UD x1 x4 aR).bind λx5=>wh σ x5 σ
def l5:aq->Heap->aF:=Ω θ [] .k (X5 az4)
def VF (a0 a1:AV) (σ:Heap):aF:=φ a0 (wh σ a1 σ) (wh σ (ε 0) σ)
def ug:aq->Heap->aF:=Ω θ [] .k (Xw VF)
def Va (a0:AV) (σ:Heap):aF:=(UY a0).bind λx1=>(Y7 (λv2 s3=>(YY (aj v2 1) x1).bind λx5=>φ x5 ((Zo 1 a0 (aj v2 1)).bind λx6=>((χ x6 s3).bind λc7=>Γ 0 c7).bind λx8=>(UP .i x8 (ε 0)).bind λx9=>φ x9 (δ (YP,[x8,(aj v2 1)],s3)) ((WE (aj v2 1) (ε 1)).bind λbl=>δ (Xv,[(aj v2 0),bl],s3))) (δ (Ξ 0,[(aj v2 0),(aj v2 1)],s3))) [(ε 0),(ε 0)] σ).bind λdc=>bif dc.1==Ξ 0 then(wh σ (ε 0) dc.2.2)else bif dc.1==YP then(wh σ (aj dc.2.1 0) dc.2.2)else μ
def ze:aq->Heap->aF:=Ω θ [(.s 1)] .k (YR Va)
def Vd (a0:AV) (σ:Heap):aF:=(A.yE a0).bind λx1=>(Y7 (λv2 s3=>(YY (aj v2 1) x1).bind λx5=>φ x5 ((A.qy a0 (aj v2 1)).bind λx6=>(YY x6 (Wz .u8 32)).bind λx7=>(η x7 ι (δ a0) au).bind λx8=>(η x7 ι (δ (aj v2 1)) au).bind λx9=>(η x7 ι (A.qy x8 x9) au).bind λbl=>(η x7 ι (YK bl (Wz .u8 126)) au).bind λbT=>(UD x7 dz bT).bind λbR=>φ bR (δ (YP,[aR,(aj v2 1)],s3)) ((WE (aj v2 1) (ε 1)).bind λbZ=>δ (Xv,[(aj v2 0),bZ],s3))) (δ (Ξ 0,[(aj v2 0),(aj v2 1)],s3))) [aR,(ε 0)] σ).bind λgD=>bif gD.1==Ξ 0 then((UP .z a0 bE).bind λcN=>(η cN θ (δ a0) au).bind λbO=>(η cN θ (A.yE bO) au).bind λcg=>(η cN θ (Ze cg (ε 60)) au).bind λcQ=>(UD cN cQ aR).bind λdZ=>(η dZ θ (δ a0) au).bind λcS=>(η dZ θ (A.qy cS (ε 0)) au).bind λbL=>(η dZ θ (UP .i bL (Wz .u8 32)) au).bind λcI=>(UD dZ cI aR).bind λep=>(η ep θ (δ a0) au).bind λx24=>(η ep θ (δ a0) au).bind λx25=>(η ep θ (A.yE x25) au).bind λfH=>(η ep θ (Uk fH (ε 1)) au).bind λfB=>(η ep θ (A.qy x24 fB) au).bind λx28=>(η ep θ (UP .i x28 (Wz .u8 32)) au).bind λx29=>(UD ep x29 aR).bind λef=>wh σ ef gD.2.2)else bif gD.1==YP then(wh σ (aj gD.2.1 0) gD.2.2)else μ
def Qh:aq->Heap->aF:=Ω θ [] .k (YR Vd)
def aBm (a0 a1:AV) (σ:Heap):aF:=(A.quo a0 a1).bind λx1=>(A.rem a0 a1).bind λx2=>(YY x2 (ε 0)).bind λx3=>(φ x3 ((Uk x1 (ε 1)).bind λx5=>δ ([x5],σ)) (δ ([x1],σ))).bind λr4=>wh σ (aj r4.1 0) r4.2
def aBv:aq->Heap->aF:=Ω θ [] .k (Xw aBm)
def Vc (a0 a1:AV) (σ:Heap):aF:=(Tu (ε 2) a0).bind λx1=>(WE x1 a1).bind λx2=>(Tu (ε 2) a1).bind λx3=>(aBv [x2,x3] σ).bind λr4=>wh σ r4.1 r4.2
def U2:aq->Heap->aF:=Ω θ [] .k (Xw Vc)
end
section
def ain (a0:AV) (σ:Heap):aF:=(l5 [a0,(ε 0),(ε 65535)] σ).bind λr1=>wh σ r1.1 r1.2
def LB:aq->Heap->aF:=Ω θ [] .k (YR ain)
def TG (a0:AV) (σ:Heap):aF:=(UY a0).bind λx1=>(YK x1 (ε 30)).bind λx2=>φ x2 (wh σ (ε 2) σ) ((UY a0).bind λx3=>(Y7 (λv4 s5=>(YY (aj v4 1) x3).bind λx7=>φ x7 ((Zo 3 a0 (aj v4 1)).bind λx8=>((χ x8 s5).bind λc9=>VU 0 3 c9).bind λbl=>(ψ 3 bl).bind λfq=>(ir 0 fq [(ε 0),(ε 0),bE]).bind λcZ=>(Γ 0 cZ).bind λbZ=>(LB [bZ] s5).bind λgD=>(Wk gD.1).bind λcN=>(η cN ι (Γ 1 cZ) au).bind λbO=>(η cN ι (Wi (LB [bO] gD.2) gD.2) au).bind λcg=>(η cN ι (Wk cg) au).bind λcQ=>(UD cN dz cQ).bind λdZ=>(η dZ ι (Γ 0 cZ) au).bind λcS=>(η dZ ι (Γ 1 cZ) au).bind λbL=>(η dZ ι (YK cS bL) au).bind λcI=>(UD dZ dz cI).bind λep=>φ ep (δ (YP,[(ε 1),(aj v4 1)],gD.2)) ((YK (aj v4 1) (ε 0)).bind λx24=>(η x24 θ (Γ 0 cZ) au).bind λx25=>(η x24 θ (δ a0) au).bind λfH=>(η x24 θ (δ (aj v4 1)) au).bind λfB=>(η x24 θ (Uk fB (ε 1)) au).bind λx28=>(η x24 θ (Zo 3 fH x28) au).bind λx29=>(η x24 θ (WC 1 x29) au).bind λef=>(η x24 θ ((χ ef gD.2).bind λqD=>Γ 0 qD) au).bind λx32=>(η x24 θ (Ze x25 x32) au).bind λiN=>(UD x24 iN aR).bind λx34=>φ x34 (δ (YP,[(ε 7),(aj v4 1)],gD.2)) ((Γ 2 cZ).bind λgV=>(Jf [gV] gD.2).bind λBw=>(Wk Bw.1).bind λfI=>φ fI (δ (YP,[(ε 5),(aj v4 1)],Bw.2)) ((Γ 2 cZ).bind λx38=>(Yt .z (XP σ.length) x38 aR Bw.2).bind λiu=>φ iu (δ (YP,[(ε 6),(aj v4 1)],Bw.2)) ((Γ 2 cZ).bind λgn=>(A.jX .z (XP σ.length) gn dz Bw.2).bind λh41=>(WE (aj v4 1) (ε 1)).bind λjB=>δ (Xv,[(aj v4 0),jB],h41)))))) (δ (Ξ 0,[(aj v4 0),(aj v4 1)],s5))) [(ε 0),(ε 0)] (σ++[Z0 []])).bind λsU=>bif sU.1==Ξ 0 then(wh σ (ε 0) sU.2.2)else bif sU.1==YP then(wh σ (aj sU.2.1 0) sU.2.2)else μ)
def aBf:aq->Heap->aF:=Ω θ [(.s 3)] .k (YR TG)
def aBL (a0:AV) (σ:Heap):aF:=(ψ 3 a0).bind λc1=>(Γ 0 c1).bind λx2=>(Jf [x2] σ).bind λr3=>(Wk r3.1).bind λx4=>φ x4 (wh σ (ε 5) r3.2) ((Γ 1 c1).bind λx5=>(l5 [x5,(ε 1),(ε 512)] r3.2).bind λr6=>(Wk r6.1).bind λx7=>φ x7 (wh σ (ε 1) r6.2) ((Γ 2 c1).bind λx8=>(UY x8).bind λx9=>(ZA .i x9 (ε 0)).bind λbl=>φ bl (wh σ (ε 8) r6.2) ((Γ 2 c1).bind λbT=>(UY bT).bind λbR=>(YK bR (ε 40)).bind λbZ=>φ bZ (wh σ (ε 2) r6.2) ((Γ 2 c1).bind λbW=>(UY bW).bind λcN=>(Y7 (λdY pE=>(YY (aj dY 2) cN).bind λdZ=>φ dZ ((Zo 7 bW (aj dY 2)).bind λcS=>((χ cS pE).bind λij=>VU 0 7 ij).bind λcI=>(ψ 7 cI).bind λgj=>(ir 0 gj [bE,(ε 0),(ε 0),(ε 0),(ε 0),aR,Zg]).bind λfW=>(Γ 0 fW).bind λx25=>(Jf [x25] pE).bind λmZ=>(Wk mZ.1).bind λfB=>φ fB (δ (YP,[(aj dY 0),(ε 5),(aj dY 2)],mZ.2)) ((Γ 0 fW).bind λx28=>(Yt .z (XP r6.2.length) x28 aR mZ.2).bind λx29=>φ x29 (δ (YP,[(aj dY 0),(ε 6),(aj dY 2)],mZ.2)) ((Γ 1 fW).bind λef=>(l5 [ef,(ε 1),(ε 4)] mZ.2).bind λpe=>(Wk pe.1).bind λx32=>φ x32 (δ (YP,[(aj dY 0),(ε 4),(aj dY 2)],pe.2)) ((Γ 2 fW).bind λiN=>((Tv (aj dY 0)).bind λ_=>δ (1)).bind λp34=>((Tv (aj dY 0)).bind λkX=>Γ p34 kX).bind λiD=>(l5 [iN,(ε 1),iD] pe.2).bind λlP=>(Wk lP.1).bind λx38=>(η x38 ι (Γ 3 fW) au).bind λiu=>((Tv (aj dY 0)).bind λ_ => δ (1)).bind λp40 =>(η x38 ι ((Tv (aj dY 0)).bind λDU=>Γ p40 DU) au).bind λjB=>(η x38 ι (Wi (l5 [iu,(ε 0),jB] lP.2) lP.2) au).bind λgL=>(η x38 ι (Wk gL) au).bind λgA=>(UD x38 dz gA).bind λfE=>(η fE ι (Γ 4 fW) au).bind λiZ=>(η fE ι (Wi (LB [iZ] lP.2) lP.2) au).bind λjf=>(η fE ι (Wk jf) au).bind λiO=>(UD fE dz iO).bind λgu=>φ gu (δ (YP,[(aj dY 0),(ε 1),(aj dY 2)],lP.2)) ((Γ 2 fW).bind λjg=>(Γ 3 fW).bind λgM=>(ZA .i jg gM).bind λgp=>(η gp ι (δ (XP (r6.2++[Z0 []]).length)) au).bind λmq=>(η gp ι (Γ 2 fW) au).bind λkJ=>(η gp ι (Yt .i mq kJ aR lP.2) au).bind λkV=>(UD gp dz kV).bind λjC=>(η jC ι (Γ 3 fW) au).bind λlQ=>(η jC ι (YK lQ (ε 0)) au).bind λlF=>(η jC ι (δ lF) au).bind λi6=>(η i6 θ (δ (XP (r6.2++[Z0 []]).length)) au).bind λkQ=>(η i6 θ (Γ 3 fW) au).bind λkn=>(η i6 θ (Yt .i kQ kn aR lP.2) au).bind λjh=>(η jC ι (UD i6 jh aR) au).bind λfK=>(UD jC dz fK).bind λpG=>φ pG (δ (YP,[(aj dY 0),(ε 12),(aj dY 2)],lP.2)) ((Γ 6 fW).bind λoq=>(aBf [oq] lP.2).bind λLb=>(UP .i Lb.1 (ε 0)).bind λpV=>φ pV (δ (YP,[(aj dY 0),Lb.1,(aj dY 2)],Lb.2)) ((Γ 0 fW).bind λqO=>(Γ 2 fW).bind λkC=>(A.jX .z (XP r6.2.length) qO dz Lb.2).bind λh70=>(A.jX .i (XP (r6.2++[Z0 []]).length) kC dz h70).bind λSO=>(Γ 3 fW).bind λsX=>(YK sX (ε 0)).bind λve=>(φ ve ((Γ 3 fW).bind λkK=>(A.jX .i (XP (r6.2++[Z0 []]).length) kK dz SO).bind λh76=>δ ([(aj dY 0)],h76)) (δ ([(aj dY 0)],SO))).bind λOY=>(WE (aj dY 2) (ε 1)).bind λzb=>δ (Xv,[(aj OY.1 0),(aj dY 1),zb],OY.2)))))))) (δ (Ξ 1,[(aj dY 0),(aj dY 1),(aj dY 2)],pE))) [(VD c1),(ε 0),(ε 0)] ((r6.2++[Z0 []])++[Z0 []])).bind λmj=>bif mj.1==Ξ 1 then(wh σ (ε 0) mj.2.2)else bif mj.1==YP then(wh σ (aj mj.2.1 1) mj.2.2)else μ))))
def TA:aq->Heap->aF:=Ω θ [(.a [.k,.k,(.s 7)])] .k (YR aBL)
def TB (a0:AV) (σ:Heap):aF:=(UY a0).bind λx1=>(YK x1 (ε 60)).bind λx2=>φ x2 (wh σ (ε 2) σ) ((UY a0).bind λx3=>(Y7 (λv4 s5=>(YY (aj v4 1) x3).bind λx7=>φ x7 ((Zo 3 a0 (aj v4 1)).bind λx8=>((χ x8 s5).bind λc9=>VU 0 3 c9).bind λbl=>(ψ 3 bl).bind λfq=>(ir 0 fq [bE,(ε 0),Zg]).bind λcZ=>(VU 0 3 cZ).bind λbZ=>(TA [bZ] s5).bind λgD=>(UP .i gD.1 (ε 0)).bind λcN=>φ cN (δ (YP,[gD.1,(aj v4 1)],gD.2)) ((Γ 0 cZ).bind λbO=>(Yt .z (XP σ.length) bO aR gD.2).bind λcg=>φ cg (δ (YP,[(ε 6),(aj v4 1)],gD.2)) ((Γ 0 cZ).bind λcQ=>(A.jX .z (XP σ.length) cQ dz gD.2).bind λh19=>(WE (aj v4 1) (ε 1)).bind λcS=>δ (Xv,[(aj v4 0),cS],h19)))) (δ (Ξ 0,[(aj v4 0),(aj v4 1)],s5))) [(ε 0),(ε 0)] (σ++[Z0 []])).bind λkj=>bif kj.1==Ξ 0 then(wh σ (ε 0) kj.2.2)else bif kj.1==YP then(wh σ (aj kj.2.1 0) kj.2.2)else μ)
def Tz:aq->Heap->aF:=Ω θ [(.s 3)] .k (YR TB)
def TH (a0 a1:AV) (σ:Heap):aF:=(ψ 3 a0).bind λc1=>(Γ 0 c1).bind λx2=>((χ a1 σ).bind λc3=>Γ 0 c3).bind λx4=>(ZA .z x2 x4).bind λx5=>wh σ x5 σ
def Lv:aq->Heap->aF:=Ω θ [(.a [.k,.k,(.s 7)])] .k (Xw TH)
def PY (a0 a1:AV) (σ:Heap):aF:=(((Ψ a1).bind λv=>δ [v]).bind λcs=>δ (ZN cs)).bind λx1=>(Pt (Zw (λ_ _=>μ) [(64,Lv)]) [a0,(AV.fn 64 [x1])] σ).bind λr2=>(YY r2.1 (ε 0)).bind λx3=>φ x3 ((ψ 3 (Φ [bE,(ε 0),Zg])).bind λc4=>(ir 0 c4 [bE,(ε 0),Zg]).bind λc5=>(VU 0 3 c5).bind λx6=>wh σ (Yu [x6,aR]) r2.2) ((Zo 3 a0 r2.1).bind λx7=>((χ x7 r2.2).bind λc8=>VU 0 3 c8).bind λx9=>(ψ 3 x9).bind λeR=>(ir 0 eR [bE,(ε 0),Zg]).bind λfq=>(VU 0 3 fq).bind λbR=>wh σ (Yu [bR,dz]) r2.2)
def PU:aq->Heap->aF:=Ω θ [(.s 3)] (.t [(.a [.k,.k,(.e 7 qz)]),.k]) (Xw PY)
def Ly (a0 a1 a2:AV) (σ:Heap):aF:=(ZA .p a0 aDa).bind λx1=>φ x1 ((WE a1 a2).bind λx2=>(Uk x2 (ε 1)).bind λx3=>(Ze x3 (ε 512)).bind λx4=>wh σ x4 σ) ((Y7 (λv5 s6=>(WE a1 a2).bind λx8=>(YY (aj v5 1) x8).bind λx9=>φ x9 ((YK (aj v5 1) (ε 512)).bind λbl=>(η bl ι (δ a0) au).bind λbT=>(η bl ι (δ (aj v5 1)) au).bind λbR=>(η bl ι (ZP bT) au).bind λbZ=>(η bl ι (A.Cc 513 1 bZ bR) au).bind λbW=>(η bl ι ((χ bW s6).bind λjj=>Γ 0 jj) au).bind λbO=>(UD bl dz bO).bind λcg=>φ cg (δ (YP,[aR,(aj v5 1)],s6)) ((WE (aj v5 1) (ε 1)).bind λcQ=>δ (Xv,[(aj v5 0),cQ],s6))) (δ (Ξ 0,[(aj v5 0),(aj v5 1)],s6))) [aR,a1] σ).bind λkN=>bif kN.1==Ξ 0 then(wh σ dz kN.2.2)else bif kN.1==YP then(wh σ (aj kN.2.1 0) kN.2.2)else μ)
def ID:aq->Heap->aF:=Ω θ [] .k (X5 Ly)
def LN (a0 a1 a2:AV) (σ:Heap):aF:=(ψ 4 a1).bind λc1=>(Γ 2 c1).bind λx2=>(Yt .i a0 x2 aDa σ).bind λx3=>(ZA .p x3 aDa).bind λx4=>(φ x4 ((Γ 2 c1).bind λx6=>(A.jX .i a0 x6 (Yy σ.length 0) (σ++[Vs (Z3 513 aR)])).bind λh7=>δ ([(VD c1)],h7)) (δ ([(VD c1)],σ))).bind λr5=>((Tv (aj r5.1 0)).bind λ_=>δ (3)).bind λp8=>((Tv (aj r5.1 0)).bind λc9=>Γ p8 c9).bind λbl=>(Y7 (λv11 mm=>((Tv (aj v11 0)).bind λ_=>δ (3)).bind λp14=>((Tv (aj v11 0)).bind λjj=>Γ p14 jj).bind λbO=>(WE bO a2).bind λcg=>(YY (aj v11 1) cg).bind λcQ=>φ cQ (((Tv (aj v11 0)).bind λ_=>δ (2)).bind λp19=>((Tv (aj v11 0)).bind λiH=>Γ p19 iH).bind λbL=>(Yt .i a0 bL aDa mm).bind λcI=>(ZP cI).bind λep=>(A.Cc 513 1 ep (aj v11 1)).bind λx24=>((Ψ dz).bind λv=>δ [v]).bind λiA=>(XZ x24 iA mm).bind λjv=>(WE (aj v11 1) (ε 1)).bind λfB=>δ (Xv,[(aj v11 0),fB],jv)) (δ (Ξ 0,[(aj v11 0),(aj v11 1)],mm))) [(aj r5.1 0),bl] r5.2).bind λwW=>bif wW.1==Ξ 0 then(δ ((Yu []),wW.2.2))else μ
def P5:aq->Heap->aF:=Ω ι [] .k (X5 LN)
def aAO (a0:AV) (σ:Heap):aF:=(ψ 2 a0).bind λc1=>(Γ 0 c1).bind λx2=>(Tz [x2] σ).bind λr3=>(UP .i r3.1 (ε 0)).bind λx4=>φ x4 (wh σ r3.1 r3.2) ((Γ 1 c1).bind λx5=>(UY x5).bind λx6=>(YK x6 (ε 400)).bind λx7=>φ x7 (wh σ (ε 2) r3.2) ((Γ 1 c1).bind λx8=>(UY x8).bind λx9=>(Y7 (λv10 pS=>(YY (aj v10 2) x9).bind λbZ=>φ bZ ((Zo 4 x8 (aj v10 2)).bind λbW=>((χ bW pS).bind λjj=>VU 0 4 jj).bind λbO=>(ψ 4 bO).bind λlW=>(ir 0 lW [(ε 0),bE,(ε 0),(ε 0)]).bind λig=>(Γ 0 ig).bind λdZ=>(l5 [dZ,(ε 1),(ε 9999)] pS).bind λiX=>(Wk iX.1).bind λbL=>φ bL (δ (YP,[(aj v10 0),(ε 1),(aj v10 2)],iX.2)) ((YK (aj v10 2) (ε 0)).bind λcI=>(η cI θ (Γ 0 ig) au).bind λep=>((Tv (aj v10 0)).bind λ_ => δ (1)).bind λp24 =>(η cI θ ((Tv (aj v10 0)).bind λiA=>Γ p24 iA) au).bind λfH=>(η cI θ (δ (aj v10 2)) au).bind λfB=>(η cI θ (Uk fB (ε 1)) au).bind λx28=>(η cI θ (Zo 4 fH x28) au).bind λx29=>(η cI θ (WC 0 x29) au).bind λef=>(η cI θ ((χ ef iX.2).bind λqD=>Γ 0 qD) au).bind λx32=>(η cI θ (Ze ep x32) au).bind λiN=>(UD cI iN aR).bind λx34=>φ x34 (δ (YP,[(aj v10 0),(ε 7),(aj v10 2)],iX.2)) (((Tv (aj v10 0)).bind λ_=>δ (0)).bind λp35=>((Tv (aj v10 0)).bind λnD=>Γ p35 nD).bind λfI=>(Γ 1 ig).bind λx38=>(PU [fI,x38] iX.2).bind λEk=>(Yn 0 Ek.1).bind λgn=>(Yn 1 Ek.1).bind λfD=>(ψ 3 gn).bind λoh=>(ir 0 oh [bE,(ε 0),Zg]).bind λsK=>(Wk fD).bind λgA=>φ gA (δ (YP,[(aj v10 0),(ε 5),(aj v10 2)],Ek.2)) ((Γ 2 ig).bind λfE=>(l5 [fE,(ε 1),(ε 64)] Ek.2).bind λkH=>(Wk kH.1).bind λjf=>(η jf ι (Γ 3 ig) au).bind λiO=>(η jf ι (Wi (l5 [iO,(ε 1),(ε 512)] kH.2) kH.2) au).bind λgu=>(η jf ι (Wk gu) au).bind λjg=>(UD jf dz jg).bind λgM=>(η gM ι (Γ 3 ig) au).bind λgp=>(η gM ι (Γ 1 sK) au).bind λmq=>(η gM ι (WE gp mq) au).bind λkJ=>(η gM ι (Uk kJ (ε 1)) au).bind λkV=>(η gM ι (YK kV (ε 512)) au).bind λjC=>(UD gM dz jC).bind λlQ=>φ lQ (δ (YP,[(aj v10 0),(ε 1),(aj v10 2)],kH.2)) ((Γ 2 ig).bind λlF=>(Yt .i (XP r3.2.length) lF aDa kH.2).bind λi6=>(Γ 3 ig).bind λkQ=>(Γ 1 sK).bind λkn=>(ID [i6,kQ,kn] kH.2).bind λuV=>(Wk uV.1).bind λfK=>φ fK (δ (YP,[(aj v10 0),(ε 12),(aj v10 2)],uV.2)) ((VU 0 4 ig).bind λpG=>(Γ 1 sK).bind λoq=>(P5 [(XP r3.2.length),pG,oq] uV.2).bind λLb=>(WE (aj v10 2) (ε 1)).bind λpV=>δ (Xv,[(aj v10 0),(aj v10 1),pV],Lb.2))))))) (δ (Ξ 0,[(aj v10 0),(aj v10 1),(aj v10 2)],pS))) [(VD c1),(ε 0),(ε 0)] (r3.2++[Z0 []])).bind λEm=>bif Em.1==Ξ 0 then(wh σ (ε 0) Em.2.2)else bif Em.1==YP then(wh σ (aj Em.2.1 1) Em.2.2)else μ))
def PM:aq->Heap->aF:=Ω θ [Ch] .k (YR aAO)
def LM (a0:AV) (σ:Heap):aF:=(ψ 2 a0).bind λc1=>(VU 0 2 c1).bind λx2=>(PM [x2] σ).bind λr3=>(UP .i r3.1 (ε 0)).bind λx4=>φ x4 (wh σ (Yu [Zg,r3.1]) r3.2) ((Γ 1 c1).bind λx5=>(UY x5).bind λx6=>(Y7 (λv7 s8=>(YY (aj v7 2) x6).bind λbl=>φ bl ((Zo 4 x5 (aj v7 2)).bind λbT=>((χ bT s8).bind λcZ=>VU 0 4 cZ).bind λbZ=>(ψ 4 bZ).bind λia=>(ir 0 ia [(ε 0),bE,(ε 0),(ε 0)]).bind λjj=>((Tv (aj v7 0)).bind λ_=>δ (0)).bind λp16=>((Tv (aj v7 0)).bind λlW=>Γ p16 lW).bind λcQ=>(Γ 1 jj).bind λdZ=>(PU [cQ,dZ] s8).bind λiX=>(Yn 0 iX.1).bind λbL=>(Yn 1 iX.1).bind λcI=>(ψ 3 bL).bind λgj=>(ir 0 gj [bE,(ε 0),Zg]).bind λfW=>(Γ 2 fW).bind λx25=>(UY x25).bind λfH=>(Y7 (λAu s28=>(YY (aj Au 3) fH).bind λef=>φ ef ((Zo 7 x25 (aj Au 3)).bind λx31=>((χ x31 s28).bind λHL=>VU 0 7 HL).bind λiN=>(ψ 7 iN).bind λuL=>(ir 0 uL [bE,(ε 0),(ε 0),(ε 0),(ε 0),aR,Zg]).bind λkX=>((Tv (aj Au 2)).bind λ_=>δ (0)).bind λp36=>((Tv (aj Au 2)).bind λlN=>Γ p36 lN).bind λx38=>(Γ 0 kX).bind λiu=>((((Ψ x38).bind λv=>δ [v]).bind λoO=>(ir 0 oO [(ε 0),bE]).bind λDU=>((Ψ iu).bind λv=>δ [v]).bind λoh=>(ir 1 oh DU).bind λsK=>δ sK).bind λcs=>δ (Φ cs)).bind λgA=>(((ψ 2 gA).bind λBg=>(ir 0 Bg [(ε 0),bE]).bind λOj=>δ Oj).bind λcs=>δ (Yh 2 (iP 2 1 cs))).bind λjf=>(WK 2 (140737488355328 / 24) (aj Au 1) jf s28).bind λpR=>(WE (aj Au 3) (ε 1)).bind λgu=>δ (Xv,[(aj Au 0),pR.1,(aj Au 2),gu],pR.2)) (δ (Ξ 2,[(aj Au 0),(aj Au 1),(aj Au 2),(aj Au 3)],s28))) [(aj v7 0),(aj v7 1),(VD jj),(ε 0)] iX.2).bind λkI=>bif kI.1==Ξ 2 then((WE (aj v7 2) (ε 1)).bind λgM=>δ (Xv,[(aj kI.2.1 0),(aj kI.2.1 1),gM],kI.2.2))else μ) (δ (Ξ 0,[(aj v7 0),(aj v7 1),(aj v7 2)],s8))) [(VD c1),Zg,(ε 0)] r3.2).bind λIi=>bif Ii.1==Ξ 0 then(wh σ (Yu [(aj Ii.2.1 1),(ε 0)]) Ii.2.2)else μ)
def IV:aq->Heap->aF:=Ω θ [Ch] (.t [(.s 2),.k]) (YR LM)
end
def LW:aq->Heap->aF:=Xw λa b σ=>match a,b with
 |.int .u64 x,.int .u64 y=>if 0<=x/\x<18446744073709551616/\0<=y/\y<18446744073709551616 then δ (.aM [.int .u64 ((x.toNat*y.toNat / 18446744073709551616:Nat):Int),.int .u64 ((x.toNat*y.toNat % 18446744073709551616:Nat):Int)],σ)else μ
 |_,_=>μ
def I7:aq->Heap->aF:=X5 λa b c σ=>match a,b,c with
 |.int .u64 x,.int .u64 y,.int .u64 c=>if 0<=x/\x<18446744073709551616/\0<=y/\y<18446744073709551616/\0<=c/\c<=1 then δ (.aM [.int .u64 (((x.toNat+y.toNat+c.toNat) % 18446744073709551616:Nat):Int),.int .u64 (((x.toNat+y.toNat+c.toNat) / 18446744073709551616:Nat):Int)],σ)else μ
 |_,_,_=>μ
section
def TR (a0:AV) (σ:Heap):aF:=(ψ 2 a0).bind λc1=>(Γ 0 c1).bind λx2=>(l5 [x2,(ε 1),(ε 6)] σ).bind λr3=>(Wk r3.1).bind λx4=>φ x4 (wh σ (ε 4) r3.2) ((Γ 1 c1).bind λx5=>(Γ 0 c1).bind λx6=>(UP .i x6 (ε 6)).bind λx7=>φ x7 ((UY x5).bind λx8=>(YK x8 (ε 0)).bind λx9=>(ug [x9,(ε 3)] r3.2).bind λgR=>wh σ gR.1 gR.2) ((UY x5).bind λbT=>(YY bT (ε 2)).bind λbR=>φ bR (wh σ (ε 8) r3.2) ((UY x5).bind λbZ=>(YK bZ (ε 20)).bind λbW=>φ bW (wh σ (ε 2) r3.2) ((UY x5).bind λcN=>(Y7 (λdY pE=>(YY (aj dY 1) cN).bind λdZ=>φ dZ ((Zo 2 x5 (aj dY 1)).bind λcS=>((χ cS pE).bind λij=>VU 0 2 ij).bind λcI=>(ψ 2 cI).bind λgj=>(ir 0 gj [(ε 0),(ε 0)]).bind λfW=>(Γ 0 fW).bind λx25=>(l5 [x25,(ε 0),(ε 1000)] pE).bind λmZ=>(Wk mZ.1).bind λfB=>(η fB ι (Γ 1 fW) au).bind λx28=>(η fB ι (Wi (l5 [x28,(ε 0),(ε 1000)] mZ.2) mZ.2) au).bind λx29=>(η fB ι (Wk x29) au).bind λef=>(UD fB dz ef).bind λx31=>φ x31 (δ (YP,[(ε 1),(aj dY 1)],mZ.2)) ((WE (aj dY 1) (ε 1)).bind λx32=>δ (Xv,[(aj dY 0),x32],mZ.2))) (δ (Ξ 0,[(aj dY 0),(aj dY 1)],pE))) [(ε 0),(ε 0)] r3.2).bind λkY=>bif kY.1==Ξ 0 then((Zo 2 x5 (ε 0)).bind λx34=>((χ x34 kY.2.2).bind λkX=>VU 0 2 kX).bind λiD=>(UP (.s [0,0]) iD (Φ [(ε 0),(ε 0)])).bind λfI=>(η fI ι (δ x5) au).bind λx38=>(η fI ι (δ x5) au).bind λiu=>(η fI ι (UY iu) au).bind λgn=>(η fI ι (Uk gn (ε 1)) au).bind λfD=>(η fI ι (Zo 2 x38 fD) au).bind λjB=>(η fI ι ((χ jB kY.2.2).bind λsK=>VU 0 2 sK) au).bind λgA=>(η fI ι ((((Ψ (ε 1000)).bind λv=>δ [v]).bind λBg=>(ir 0 Bg [(ε 0),(ε 0)]).bind λOj=>((Ψ (ε 1000)).bind λv=>δ [v]).bind λlX=>(ir 1 lX Oj).bind λDW=>δ DW).bind λcs=>δ (Φ cs)) au).bind λgu=>(η fI ι (UP (.s [0,0]) gA gu) au).bind λjg=>(UD fI dz jg).bind λgM=>φ gM (wh σ (ε 3) kY.2.2) ((Y7 (λoo uW=>(UY x5).bind λkV=>(YY (aj oo 1) kV).bind λjC=>φ jC ((Zo 2 x5 (aj oo 1)).bind λlQ=>(WC 0 lQ).bind λlF=>((χ lF uW).bind λDY=>Γ 0 DY).bind λkQ=>(Uk (aj oo 1) (ε 1)).bind λkn=>(Zo 2 x5 kn).bind λjh=>(WC 0 jh).bind λfK=>((χ fK uW).bind λDZ=>Γ 0 DZ).bind λoq=>(Ze kQ oq).bind λku=>(η ku ι (δ x5) au).bind λpV=>(η ku ι (δ (aj oo 1)) au).bind λqO=>(η ku ι (Zo 2 pV qO) au).bind λkC=>(η ku ι (WC 1 kC) au).bind λlZ=>(η ku ι ((χ lZ uW).bind λrR=>Γ 0 rR) au).bind λsX=>(η ku ι (δ x5) au).bind λve=>(η ku ι (δ (aj oo 1)) au).bind λqP=>(η ku ι (Uk qP (ε 1)) au).bind λkK=>(η ku ι (Zo 2 ve kK) au).bind λnX=>(η ku ι (WC 1 nX) au).bind λzb=>(η ku ι ((χ zb uW).bind λBi=>Γ 0 Bi) au).bind λsZ=>(η ku ι (YY sX sZ) au).bind λud=>(UD ku dz ud).bind λw8=>φ w8 (δ (YP,[(ε 7),(aj oo 1)],uW)) ((WE (aj oo 1) (ε 1)).bind λvf=>δ (Xv,[(aj oo 0),vf],uW))) (δ (Ξ 2,[(aj oo 0),(aj oo 1)],uW))) [(aj kY.2.1 0),(ε 1)] kY.2.2).bind λOZ=>bif OZ.1==Ξ 2 then(wh σ (ε 0) OZ.2.2)else bif OZ.1==YP then(wh σ (aj OZ.2.1 0) OZ.2.2)else μ))else bif kY.1==YP then(wh σ (aj kY.2.1 0) kY.2.2)else μ))))
def PN:aq->Heap->aF:=Ω θ [(.a [.k,(.s 2)])] .k (YR TR)
def aAF (a0:AV) (σ:Heap):aF:=(l5 [a0,(ε 0),(ε 65535)] σ).bind λr1=>wh σ r1.1 r1.2
def aAM:aq->Heap->aF:=Ω θ [] .k (YR aAF)
def aCH (a0:AV) (σ:Heap):aF:=(UY a0).bind λx1=>(Y7 (λv2 s3=>(YY (aj v2 1) x1).bind λx5=>φ x5 ((Zo 1 a0 (aj v2 1)).bind λx6=>((χ x6 s3).bind λc7=>Γ 0 c7).bind λx8=>(aAM [x8] s3).bind λr9=>(Wk r9.1).bind λbl=>φ bl (δ (YP,[(ε 1),(aj v2 1)],r9.2)) ((WE (aj v2 1) (ε 1)).bind λbT=>δ (Xv,[(aj v2 0),bT],r9.2))) (δ (Ξ 0,[(aj v2 0),(aj v2 1)],s3))) [(ε 0),(ε 0)] σ).bind λiM=>bif iM.1==Ξ 0 then(wh σ (ε 0) iM.2.2)else bif iM.1==YP then(wh σ (aj iM.2.1 0) iM.2.2)else μ
def P6:aq->Heap->aF:=Ω θ [(.s 1)] .k (YR aCH)
def UF (a0:AV) (σ:Heap):aF:=(l5 [a0,(ε 0),(ε 36000000)] σ).bind λr1=>wh σ r1.1 r1.2
def Gb:aq->Heap->aF:=Ω θ [] .k (YR UF)
def aBz (a0:AV) (σ:Heap):aF:=(ψ 7 a0).bind λc1=>(Γ 0 c1).bind λx2=>(Γ 1 c1).bind λx3=>((((Ψ x2).bind λv=>δ [v]).bind λc4=>(ir 0 c4 [(ε 0),(ε 0)]).bind λc5=>((Ψ x3).bind λv=>δ [v]).bind λc6=>(ir 1 c6 c5).bind λc7=>δ c7).bind λcs=>δ (Yh 1 (iP 1 2 cs))).bind λx8=>(P6 [x8] σ).bind λr9=>(UP .i r9.1 (ε 0)).bind λbl=>φ bl (wh σ r9.1 r9.2) ((Γ 2 c1).bind λbT=>(Gb [bT] r9.2).bind λiM=>(Wk iM.1).bind λbZ=>(η bZ ι (Γ 3 c1) au).bind λbW=>(η bZ ι (Wi (Gb [bW] iM.2) iM.2) au).bind λcN=>(η bZ ι (Wk cN) au).bind λbO=>(UD bZ dz bO).bind λcg=>(η cg ι (Γ 4 c1) au).bind λcQ=>(η cg ι (Wi (Gb [cQ] iM.2) iM.2) au).bind λdZ=>(η cg ι (Wk dZ) au).bind λcS=>(UD cg dz cS).bind λbL=>(η bL ι (Γ 2 c1) au).bind λcI=>(η bL ι (Γ 3 c1) au).bind λep=>(η bL ι (WE cI ep) au).bind λx24=>(η bL ι (Γ 4 c1) au).bind λx25=>(η bL ι (WE x24 x25) au).bind λfH=>(η bL ι (Wi (Gb [fH] iM.2) iM.2) au).bind λfB=>(η bL ι (Wk fB) au).bind λx28=>(UD bL dz x28).bind λx29=>φ x29 (wh σ (ε 1) iM.2) ((VU 5 2 c1).bind λef=>(PN [ef] iM.2).bind λpe=>wh σ pe.1 pe.2))
def TY:aq->Heap->aF:=Ω θ [GV] .k (YR aBz)
def aAa (a0:AV) (σ:Heap):aF:=(A.conv .u64 a0).bind λx1=>((((Ψ (Wz .u64 0)).bind λv=>δ [v]).bind λc2=>(ir 0 c2 [(Wz .u64 0),(Wz .u64 0)]).bind λc3=>((Ψ x1).bind λv=>δ [v]).bind λc4=>(ir 1 c4 c3).bind λc5=>δ c5).bind λcs=>δ (Φ cs)).bind λx6=>(ψ 2 x6).bind λc7=>(ir 0 c7 [(Wz .u64 0),(Wz .u64 0)]).bind λc8=>(VU 0 2 c8).bind λx9=>wh σ x9 σ
def tg:aq->Heap->aF:=Ω θ [] .k (YR aAa)
def ar5 (a0 a1:AV) (σ:Heap):aF:=(ψ 2 a0).bind λc1=>(ψ 2 a1).bind λc2=>(Γ 0 c1).bind λx3=>(Γ 0 c2).bind λx4=>(YY x3 x4).bind λx5=>(η x5 ι (Γ 0 c1) au).bind λx6=>(η x5 ι (Γ 0 c2) au).bind λx7=>(η x5 ι (ZA .i x6 x7) au).bind λx8=>(η x5 ι (δ x8) au).bind λx9=>(η x9 θ (Γ 1 c1) au).bind λbl=>(η x9 θ (Γ 1 c2) au).bind λbT=>(η x9 θ (YY bl bT) au).bind λbR=>(η x5 ι (UD x9 bR aR) au).bind λbZ=>(UD x5 dz bZ).bind λbW=>wh σ bW σ
def IG:aq->Heap->aF:=Ω θ [] .k (Xw ar5)
def UU (a0 a1:AV) (σ:Heap):aF:=((((Ψ a0).bind λv=>δ [v]).bind λc1=>(ir 0 c1 [(ε 0),(ε 0)]).bind λc2=>((Ψ a1).bind λv=>δ [v]).bind λc3=>(ir 1 c3 c2).bind λc4=>δ c4).bind λcs=>δ (Yh 1 (iP 1 2 cs))).bind λx5=>(P6 [x5] σ).bind λr6=>(UP .i r6.1 (ε 0)).bind λx7=>φ x7 (wh σ (Yu [(ε 0),r6.1]) r6.2) ((Tu a0 a1).bind λx8=>(U2 [x8,(ε 65535)] r6.2).bind λr9=>wh σ (Yu [r9.1,(ε 0)]) r9.2)
def LR:aq->Heap->aF:=Ω θ [] .k (Xw UU)
def aAd (a0 a1:AV) (σ:Heap):aF:=(ψ 2 a0).bind λc1=>(Γ 1 c1).bind λx2=>(A.conv .u64 a1).bind λx3=>(LW [x2,x3] σ).bind λr4=>(Yn 0 r4.1).bind λx5=>(Yn 1 r4.1).bind λx6=>(Γ 0 c1).bind λx7=>(A.conv .u64 a1).bind λx8=>(Tu x7 x8).bind λx9=>(WE x9 x5).bind λbl=>((((Ψ bl).bind λv=>δ [v]).bind λfq=>(ir 0 fq [(Wz .u64 0),(Wz .u64 0)]).bind λcZ=>((Ψ x6).bind λv=>δ [v]).bind λfU=>(ir 1 fU cZ).bind λia=>δ ia).bind λcs=>δ (Φ cs)).bind λcN=>(ψ 2 cN).bind λjY=>(ir 0 jY [(Wz .u64 0),(Wz .u64 0)]).bind λlW=>(VU 0 2 lW).bind λcQ=>wh σ cQ r4.2
def vi:aq->Heap->aF:=Ω θ [] .k (Xw aAd)
def Uv (fK:AV) (a1:AV) (a2:AV):aq->Heap->Option (AX×aq×Heap):=λv64 vZ=>(WE (aj v64 2) (ε 2)).bind λpV=>(UY fK).bind λqO=>(YY pV qO).bind λkC=>(η kC θ (δ a1) au).bind λlZ=>(η kC θ (Tu (ε 1000) lZ) au).bind λsW=>(η kC θ (δ fK) au).bind λsX=>(η kC θ (δ (aj v64 2)) au).bind λve=>(η kC θ (WE ve (ε 1)) au).bind λqP=>(η kC θ (Zo 2 sX qP) au).bind λkK=>(η kC θ (WC 0 kK) au).bind λnX=>(η kC θ ((χ nX vZ).bind λwM=>Γ 0 wM) au).bind λsY=>(η kC θ (δ a2) au).bind λsZ=>(η kC θ (Tu sY sZ) au).bind λud=>(η kC θ (YI sW ud) au).bind λw8=>(UD kC w8 aR).bind λvf=>φ vf ((WE (aj v64 2) (ε 1)).bind λue=>δ (Xv,[(aj v64 0),(aj v64 1),ue],vZ)) (δ (Ξ 1,[(aj v64 0),(aj v64 1),(aj v64 2)],vZ))
def Qw (a0 a1 a2:AV) (σ:Heap):aF:=(ψ 2 a0).bind λc1=>(tg [a2] σ).bind λr2=>(vi [r2.1,a2] r2.2).bind λr3=>(ψ 2 r3.1).bind λc4=>(ir 0 c4 [(Wz .u64 0),(Wz .u64 0)]).bind λc5=>(Γ 0 c1).bind λx6=>(ZA .i x6 (ε 2)).bind λx7=>φ x7 ((Wi (tg [a1] r3.2) r3.2).bind λx8=>(Wi (vi [x8,a1] r3.2) r3.2).bind λx9=>(VU 0 2 c5).bind λbl=>(ψ 2 x9).bind λfq=>(ir 0 fq [(Wz .u64 0),(Wz .u64 0)]).bind λcZ=>(ψ 2 bl).bind λfU=>(ir 0 fU [(Wz .u64 0),(Wz .u64 0)]).bind λia=>(VU 0 2 cZ).bind λcN=>(VU 0 2 ia).bind λbO=>wh σ (Yu [cN,bO]) r3.2) ((ZA .i x6 (ε 3)).bind λcg=>φ cg ((Wi (tg [a1] r3.2) r3.2).bind λcQ=>(Tu (ε 2) a2).bind λdZ=>(Uk dZ a1).bind λcS=>(Wi (vi [cQ,cS] r3.2) r3.2).bind λbL=>(VU 0 2 c5).bind λcI=>(ψ 2 bL).bind λgj=>(ir 0 gj [(Wz .u64 0),(Wz .u64 0)]).bind λfW=>(ψ 2 cI).bind λiA=>(ir 0 iA [(Wz .u64 0),(Wz .u64 0)]).bind λjv=>(VU 0 2 fW).bind λfB=>(VU 0 2 jv).bind λx28=>wh σ (Yu [fB,x28]) r3.2) ((ZA .i x6 (ε 4)).bind λx29=>φ x29 ((Wi (tg [a1] r3.2) r3.2).bind λef=>(Wi (vi [ef,a1] r3.2) r3.2).bind λx31=>(Tu (ε 3) a2).bind λx32=>(Tu (ε 2) a1).bind λiN=>(Uk x32 iN).bind λx34=>(Wi (vi [x31,x34] r3.2) r3.2).bind λgV=>(VU 0 2 c5).bind λiD=>(Wi (vi [iD,a2] r3.2) r3.2).bind λfI=>(ψ 2 gV).bind λmU=>(ir 0 mU [(Wz .u64 0),(Wz .u64 0)]).bind λoN=>(ψ 2 fI).bind λoO=>(ir 0 oO [(Wz .u64 0),(Wz .u64 0)]).bind λDU=>(VU 0 2 oN).bind λjB=>(VU 0 2 DU).bind λgL=>wh σ (Yu [jB,gL]) r3.2) ((ZA .i x6 (ε 5)).bind λgA=>φ gA ((YY a1 a2).bind λfE=>φ fE ((tg [(ε 0)] r3.2).bind λkH=>(tg [(ε 1)] kH.2).bind λng=>(ψ 2 kH.1).bind λDW=>(ir 0 DW [(Wz .u64 0),(Wz .u64 0)]).bind λBh=>(ψ 2 ng.1).bind λsL=>(ir 0 sL [(Wz .u64 0),(Wz .u64 0)]).bind λyN=>(VU 0 2 Bh).bind λgp=>(VU 0 2 yN).bind λmq=>wh σ (Yu [gp,mq]) ng.2) ((tg [(ε 1)] r3.2).bind λIj=>(tg [(ε 1)] Ij.2).bind λAn=>(ψ 2 Ij.1).bind λyP=>(ir 0 yP [(Wz .u64 0),(Wz .u64 0)]).bind λnE=>(ψ 2 An.1).bind λpO=>(ir 0 pO [(Wz .u64 0),(Wz .u64 0)]).bind λDY=>(VU 0 2 nE).bind λkQ=>(VU 0 2 DY).bind λkn=>wh σ (Yu [kQ,kn]) An.2)) ((ZA .i x6 (ε 6)).bind λjh=>φ jh ((Γ 1 c1).bind λfK=>(Y7 (Uv fK a1 a2) [(VD [(Wz .u64 0),(Wz .u64 0)]),(VD [(Wz .u64 0),(Wz .u64 0)]),(ε 0)] r3.2).bind λFY=>bif FY.1==Ξ 1 then((Zo 2 fK (aj FY.2.1 2)).bind λqQ=>((χ qQ FY.2.2).bind λBk=>VU 0 2 Bk).bind λnh=>(WE (aj FY.2.1 2) (ε 1)).bind λwg=>(Zo 2 fK wg).bind λEu=>((χ Eu FY.2.2).bind λyR=>VU 0 2 yR).bind λx91=>(ψ 2 nh).bind λc92=>(ir 0 c92 [(ε 0),(ε 0)]).bind λAh=>(ψ 2 x91).bind λwN=>(ir 0 wN [(ε 0),(ε 0)]).bind λsN=>(Γ 0 sN).bind λx96=>(Γ 0 Ah).bind λCK=>(Uk x96 CK).bind λx98=>(Γ 1 Ah).bind λx99=>(Tu x99 x98).bind λyI=>(Tu yI a2).bind λx101=>(Γ 1 sN).bind λx102=>(Γ 1 Ah).bind λAe=>(Uk x102 Ae).bind λx104=>(Tu (ε 1000) a1).bind λxK=>(Γ 0 Ah).bind λBd=>(Tu Bd a2).bind λBe=>(Uk xK Be).bind λDO=>(Tu x104 DO).bind λDP=>(WE x101 DP).bind λvL=>(tg [vL] FY.2.2).bind λah6=>(Tu (ε 1000) x98).bind λx112=>(tg [x112] ah6.2).bind λNY=>(vi [NY.1,a2] NY.2).bind λah7=>(Tv (aj FY.2.1 0)).bind λNl=>(ψ 2 ah6.1).bind λSu=>(ir 0 Su Nl).bind λGY=>(Tv (aj FY.2.1 1)).bind λYr=>(ψ 2 ah7.1).bind λav9=>(ir 0 av9 Yr).bind λaA9=>(VU 0 2 GY).bind λN5=>(VU 0 2 aA9).bind λHy=>wh σ (Yu [N5,Hy]) ah7.2)else μ) ((tg [a1] r3.2).bind λtT=>(tg [a2] tT.2).bind λHr=>(ψ 2 tT.1).bind λNo=>(ir 0 No [(Wz .u64 0),(Wz .u64 0)]).bind λGZ=>(ψ 2 Hr.1).bind λzR=>(ir 0 zR [(Wz .u64 0),(Wz .u64 0)]).bind λDy=>(VU 0 2 GZ).bind λwG=>(VU 0 2 Dy).bind λDR=>wh σ (Yu [wG,DR]) Hr.2)))))
def Qs:aq->Heap->aF:=Ω θ [(.a [.k,(.s 2)])] .k (X5 Qw)
def T7 (a0 a1:AV) (σ:Heap):aF:=(ψ 2 a0).bind λc1=>(ψ 2 a1).bind λc2=>(Γ 1 c1).bind λx3=>(Γ 1 c2).bind λx4=>(I7 [x3,x4,(Wz .u64 0)] σ).bind λr5=>(Yn 0 r5.1).bind λx6=>(Yn 1 r5.1).bind λx7=>(Γ 0 c1).bind λx8=>(Γ 0 c2).bind λx9=>(I7 [x8,x9,x7] r5.2).bind λgR=>(Yn 0 gR.1).bind λbT=>(Yn 1 gR.1).bind λbR=>((((Ψ bT).bind λv=>δ [v]).bind λfU=>(ir 0 fU [(Wz .u64 0),(Wz .u64 0)]).bind λia=>((Ψ x6).bind λv=>δ [v]).bind λjj=>(ir 1 jj ia).bind λjY=>δ jY).bind λcs=>δ (Φ cs)).bind λcg=>(ψ 2 cg).bind λig=>(ir 0 ig [(Wz .u64 0),(Wz .u64 0)]).bind λiz=>(VU 0 2 iz).bind λcS=>wh σ cS gR.2
def PV:aq->Heap->aF:=Ω θ [] .k (Xw T7)
def UH (a0 a1 a2 a3:AV) (σ:Heap):aF:=(ψ 2 a2).bind λc1=>(ψ 2 a3).bind λc2=>(YI a1 a0).bind λx3=>φ x3 ((Uk a1 a0).bind λx4=>(VU 0 2 c1).bind λx5=>(Tu (ε 2) x4).bind λx6=>(Wi (vi [x5,x6] σ) σ).bind λx7=>(VU 0 2 c2).bind λx8=>(Wi (PV [x7,x8] σ) σ).bind λx9=>(ψ 2 x9).bind λeR=>(ir 0 eR [(Wz .u64 0),(Wz .u64 0)]).bind λfq=>(Y7 (λv12 wY=>(YY (aj v12 2) (aj v12 3)).bind λcN=>φ cN ((WE (aj v12 2) (aj v12 3)).bind λbO=>(WE bO (ε 1)).bind λcg=>(A.quo cg (ε 2)).bind λcQ=>((Tv (aj v12 1)).bind λiz=>VU 0 2 iz).bind λcS=>((Tv (aj v12 0)).bind λij=>VU 0 2 ij).bind λcI=>(Tu (ε 2) cQ).bind λep=>(Wi (vi [cI,ep] wY) wY).bind λx24=>(Wi (IG [cS,x24] wY) wY).bind λx25=>(φ x25 ((Uk cQ (ε 1)).bind λfB=>δ ([(aj v12 0),(aj v12 1),(aj v12 2),fB],wY)) (δ ([(aj v12 0),(aj v12 1),cQ,(aj v12 3)],wY))).bind λmZ=>δ (Xv,[(aj mZ.1 0),(aj mZ.1 1),(aj mZ.1 2),(aj mZ.1 3)],mZ.2)) (δ (Ξ 0,[(aj v12 0),(aj v12 1),(aj v12 2),(aj v12 3)],wY))) [(VD c2),(VD fq),(ε 0),x4] σ).bind λwW=>bif wW.1==Ξ 0 then((WE a0 (aj wW.2.1 2)).bind λx29=>wh σ x29 wW.2.2)else μ) ((Uk a0 a1).bind λef=>(VU 0 2 c1).bind λx31=>(Tu (ε 2) ef).bind λx32=>(vi [x31,x32] σ).bind λkY=>(ψ 2 kY.1).bind λuL=>(ir 0 uL [(Wz .u64 0),(Wz .u64 0)]).bind λkX=>(Y7 (λlD nH=>(YY (aj lD 2) (aj lD 3)).bind λiu=>φ iu ((WE (aj lD 2) (aj lD 3)).bind λgn=>(A.quo gn (ε 2)).bind λfD=>((Tv (aj lD 0)).bind λoh=>VU 0 2 oh).bind λgL=>(Tu (ε 2) fD).bind λgA=>(WE gA (ε 1)).bind λfE=>(Wi (vi [gL,fE] nH) nH).bind λiZ=>((Tv (aj lD 1)).bind λlX=>VU 0 2 lX).bind λiO=>(Wi (IG [iZ,iO] nH) nH).bind λgu=>(φ gu ((WE fD (ε 1)).bind λgM=>δ ([(aj lD 0),(aj lD 1),gM,(aj lD 3)],nH)) (δ ([(aj lD 0),(aj lD 1),(aj lD 2),fD],nH))).bind λkI=>δ (Xv,[(aj kI.1 0),(aj kI.1 1),(aj kI.1 2),(aj kI.1 3)],kI.2)) (δ (Ξ 2,[(aj lD 0),(aj lD 1),(aj lD 2),(aj lD 3)],nH))) [(VD c2),(VD kX),(ε 0),ef] kY.2).bind λIi=>bif Ii.1==Ξ 2 then((Uk a0 (aj Ii.2.1 2)).bind λmq=>wh σ mq Ii.2.2)else μ)
def Uz:aq->Heap->aF:=Ω θ [] .k (A.yM UH)
def acD (a0 a1:AV) (σ:Heap):aF:=(ψ 7 a0).bind λc1=>(Γ 2 c1).bind λx2=>(Γ 3 c1).bind λx3=>(WE x2 x3).bind λx4=>(Γ 4 c1).bind λx5=>(WE x4 x5).bind λx6=>(YI a1 x6).bind λx7=>φ x7 ((Γ 1 c1).bind λx8=>wh σ x8 σ) ((Ze a1 x4).bind λx9=>φ x9 ((Γ 0 c1).bind λbl=>wh σ bl σ) ((VU 5 2 c1).bind λbT=>(Uk a1 x4).bind λbR=>(Γ 4 c1).bind λbZ=>(Qs [bT,bR,bZ] σ).bind λgD=>(Yn 0 gD.1).bind λcN=>(Yn 1 gD.1).bind λbO=>(ψ 2 cN).bind λlW=>(ir 0 lW [(Wz .u64 0),(Wz .u64 0)]).bind λig=>(ψ 2 bO).bind λiz=>(ir 0 iz [(Wz .u64 0),(Wz .u64 0)]).bind λiH=>(Γ 0 c1).bind λbL=>(Γ 1 c1).bind λcI=>(VU 0 2 ig).bind λep=>(VU 0 2 iH).bind λx24=>(Uz [bL,cI,ep,x24] gD.2).bind λoW=>wh σ oW.1 oW.2))
def VW:aq->Heap->aF:=Ω θ [GV] .k (Xw acD)
def acC (a0 a1:AV) (σ:Heap):aF:=(ψ 7 a0).bind λc1=>(VU 0 7 c1).bind λx2=>(TY [x2] σ).bind λr3=>(Gb [a1] r3.2).bind λr4=>(Wk r4.1).bind λx5=>(ug [x5,(ε 1)] r4.2).bind λr6=>((((Ψ r3.1).bind λv=>δ [v]).bind λc7=>(ir 0 c7 [(ε 0),(ε 0)]).bind λc8=>((Ψ r6.1).bind λv=>δ [v]).bind λc9=>(ir 1 c9 c8).bind λeR=>δ eR).bind λcs=>δ (Yh 1 (iP 1 2 cs))).bind λbT=>(ze [bT] r6.2).bind λiM=>(UP .i iM.1 (ε 0)).bind λbZ=>φ bZ (wh σ (Yu [(ε 0),iM.1]) iM.2) ((VU 0 7 c1).bind λbW=>(VW [bW,a1] iM.2).bind λjd=>wh σ (Yu [jd.1,(ε 0)]) jd.2)
def VV:aq->Heap->aF:=Ω θ [GV] .k (Xw acC)
end
section
def anc (a0:AV) (σ:Heap):aF:=(ψ 2 a0).bind λc1=>(VU 0 2 c1).bind λx2=>(IV [x2] σ).bind λr3=>(Yn 0 r3.1).bind λx4=>(Yn 1 r3.1).bind λx5=>(UY x4).bind λx6=>(Y7 (λv7 s8=>(YY (aj v7 0) x6).bind λbl=>φ bl ((Zo 2 x4 (aj v7 0)).bind λbT=>((χ bT s8).bind λcZ=>VU 0 2 cZ).bind λbZ=>(ψ 2 bZ).bind λia=>(ir 0 ia [(ε 0),bE]).bind λjj=>(VU 0 2 jj).bind λbO=>(A.jX (.s [0,2]) (XP r3.2.length) bO dz s8).bind λh17=>(WE (aj v7 0) (ε 1)).bind λcQ=>δ (Xv,[cQ],h17)) (δ (Ξ 0,[(aj v7 0)],s8))) [(ε 0)] (r3.2++[Z0 []])).bind λkN=>bif kN.1==Ξ 0 then(wh σ (XP r3.2.length) kN.2.2)else μ
def Vr:aq->Heap->aF:=Ω θ [Ch] .k (YR anc)
def U9 (a0:AV) (σ:Heap):aF:=(ZA .z a0 bE).bind λx1=>(η x1 ι (δ a0) au).bind λx2=>(η x1 ι (Wi (Qh [x2] σ) σ) au).bind λx3=>(UD x1 dz x3).bind λx4=>wh σ x4 σ
def U0:aq->Heap->aF:=Ω θ [] .k (YR U9)
def UI (a0:AV) (σ:Heap):aF:=(l5 [a0,(ε 0),(ε 65535)] σ).bind λr1=>wh σ r1.1 r1.2
def P7:aq->Heap->aF:=Ω θ [] .k (YR UI)
def aAo (a0 a1:AV) (σ:Heap):aF:=(ψ 2 a0).bind λc1=>(ψ 2 a1).bind λc2=>(Γ 0 c1).bind λx3=>(Γ 0 c2).bind λx4=>(UP .i x3 x4).bind λx5=>φ x5 ((Γ 0 c1).bind λx6=>(Γ 0 c2).bind λx7=>(YY x6 x7).bind λx8=>wh σ x8 σ) ((Γ 1 c1).bind λx9=>(Γ 1 c2).bind λbl=>(LD [x9,bl] σ).bind λdc=>(YY dc.1 (ε 0)).bind λbR=>wh σ bR dc.2)
def az8:aq->Heap->aF:=Ω θ [] .k (Xw aAo)
def TJ (a0 a1:AV) (σ:Heap):aF:=(ψ 2 a0).bind λc1=>(VU 0 2 c1).bind λx2=>(PM [x2] σ).bind λr3=>(UY a1).bind λx4=>(YK x4 (ε 200)).bind λx5=>(ug [x5,(ε 2)] r3.2).bind λr6=>((((Ψ r3.1).bind λv=>δ [v]).bind λc7=>(ir 0 c7 [(ε 0),(ε 0)]).bind λc8=>((Ψ r6.1).bind λv=>δ [v]).bind λc9=>(ir 1 c9 c8).bind λeR=>δ eR).bind λcs=>δ (Yh 1 (iP 1 2 cs))).bind λbT=>(ze [bT] r6.2).bind λiM=>(UP .i iM.1 (ε 0)).bind λbZ=>φ bZ (wh σ iM.1 iM.2) ((VU 0 2 c1).bind λbW=>(Vr [bW] iM.2).bind λjd=>(UY a1).bind λbO=>(Y7 (λv17 Ap=>(YY (aj v17 1) bO).bind λcS=>φ cS ((Zo 3 a1 (aj v17 1)).bind λbL=>((χ bL Ap).bind λiL=>VU 0 3 iL).bind λep=>(ψ 3 ep).bind λfW=>(ir 0 fW [(ε 0),bE,Zg]).bind λiA=>(Γ 0 iA).bind λfH=>(l5 [fH,(ε 1),(ε 999)] Ap).bind λqN=>(Wk qN.1).bind λx28=>φ x28 (δ (YP,[(ε 1),(aj v17 1)],qN.2)) ((YK (aj v17 1) (ε 0)).bind λx29=>(η x29 θ (Γ 0 iA) au).bind λef=>(η x29 θ (δ a1) au).bind λx31=>(η x29 θ (δ (aj v17 1)) au).bind λx32=>(η x29 θ (Uk x32 (ε 1)) au).bind λiN=>(η x29 θ (Zo 3 x31 iN) au).bind λx34=>(η x29 θ (WC 0 x34) au).bind λgV=>(η x29 θ ((χ gV qN.2).bind λnD=>Γ 0 nD) au).bind λfI=>(η x29 θ (Ze ef fI) au).bind λx38=>(UD x29 x38 aR).bind λiu=>φ iu (δ (YP,[(ε 7),(aj v17 1)],qN.2)) ((Γ 1 iA).bind λgn=>(U0 [gn] qN.2).bind λIh=>(Wk Ih.1).bind λjB=>φ jB (δ (YP,[(ε 3),(aj v17 1)],Ih.2)) ((Γ 2 iA).bind λgL=>(UY gL).bind λgA=>(YK gA (ε 2000)).bind λfE=>φ fE (δ (YP,[(ε 2),(aj v17 1)],Ih.2)) ((Γ 2 iA).bind λiZ=>(UY iZ).bind λjf=>(Y7 (λuc O2=>(YY (aj uc 2) jf).bind λgM=>φ gM ((Zo 3 iZ (aj uc 2)).bind λgp=>((χ gp O2).bind λyO=>VU 0 3 yO).bind λkJ=>(ψ 3 kJ).bind λtU=>(ir 0 tU [(ε 0),bE,(ε 0)]).bind λyP=>(VU 0 2 yP).bind λlQ=>(Yt (.s [0,2]) jd.1 lQ aR O2).bind λlF=>(Wk lF).bind λi6=>φ i6 (δ (YP,[(ε 8),(aj uc 1),(aj uc 2)],O2)) ((Γ 2 yP).bind λkQ=>(P7 [kQ] O2).bind λqn=>(Wk qn.1).bind λjh=>φ jh (δ (YP,[(ε 1),(aj uc 1),(aj uc 2)],qn.2)) ((YK (aj uc 2) (ε 0)).bind λfK=>((Tv (aj uc 1)).bind λ_ => δ (2)).bind λp64 =>(η fK θ ((Tv (aj uc 1)).bind λHM=>Γ p64 HM) au).bind λku=>(η fK θ (δ (aj uc 2)) au).bind λpV=>(η fK θ (Uk pV (ε 1)) au).bind λqO=>(η fK θ (Zo 3 ku qO) au).bind λkC=>(η fK θ (WC 0 kC) au).bind λlZ=>(η fK θ ((χ lZ qn.2).bind λrR=>VU 0 2 rR) au).bind λsX=>(η fK θ (VU 0 2 yP) au).bind λve=>(η fK θ (Wi (az8 [sX,ve] qn.2) qn.2) au).bind λqP=>(η fK θ (Wk qP) au).bind λkK=>(UD fK kK aR).bind λnX=>φ nX (δ (YP,[(ε 7),(aj uc 1),(aj uc 2)],qn.2)) ((WE (aj uc 2) (ε 1)).bind λzb=>δ (Xv,[(aj uc 0),(aj uc 1),zb],qn.2))))) (δ (Ξ 3,[(aj uc 0),(aj uc 1),(aj uc 2)],O2))) [(aj v17 0),(VD iA),(ε 0)] Ih.2).bind λmj=>bif mj.1==Ξ 3 then((WE (aj v17 1) (ε 1)).bind λsZ=>δ (Xv,[(aj mj.2.1 0),sZ],mj.2.2))else bif mj.1==YP then(δ (YP,[(aj mj.2.1 0),(aj v17 1)],mj.2.2))else μ))))) (δ (Ξ 0,[(aj v17 0),(aj v17 1)],Ap))) [(ε 0),(ε 0)] jd.2).bind λpq=>bif pq.1==Ξ 0 then(wh σ (ε 0) pq.2.2)else bif pq.1==YP then(wh σ (aj pq.2.1 0) pq.2.2)else μ)
def PK:aq->Heap->aF:=Ω θ [Ch,(.s 3)] .k (Xw TJ)
def aAZ (a0 a1 a2:AV) (σ:Heap):aF:=(ψ 2 a1).bind λc1=>(ψ 2 a2).bind λc2=>(Γ 0 c2).bind λx3=>(UP .i x3 (ε 0)).bind λx4=>(η x4 θ (Γ 1 c2) au).bind λx5=>(η x4 θ (UP .i x5 (ε 0)) au).bind λx6=>(UD x4 x6 aR).bind λx7=>φ x7 (wh σ (Yu [(ε 0),(ε 3)]) σ) ((Γ 0 c2).bind λx8=>(P7 [x8] σ).bind λr9=>(Wk r9.1).bind λbl=>φ bl (wh σ (Yu [(ε 0),(ε 1)]) r9.2) ((Γ 1 c2).bind λbT=>(ZA .i bT (ε 0)).bind λbR=>φ bR ((Γ 0 c2).bind λbZ=>wh σ (Yu [bZ,(ε 0)]) r9.2) ((UY a0).bind λbW=>(Y7 (λmo wZ=>(YY (aj mo 4) bW).bind λcQ=>φ cQ ((Zo 3 a0 (aj mo 4)).bind λdZ=>((χ dZ wZ).bind λiH=>VU 0 3 iH).bind λbL=>(ψ 3 bL).bind λiL=>(ir 0 iL [(ε 0),bE,Zg]).bind λgj=>(Γ 0 gj).bind λx24=>((Tv (aj mo 1)).bind λ_=>δ (1)).bind λp25=>((Tv (aj mo 1)).bind λjv=>Γ p25 jv).bind λfB=>(UP .i x24 fB).bind λx28=>φ x28 ((WE (aj mo 4) (ε 1)).bind λx29=>δ (Xv,[(aj mo 0),(aj mo 1),(aj mo 2),(aj mo 3),x29],wZ)) ((Γ 2 gj).bind λef=>(UY ef).bind λx31=>(Y7 (λv32 Tf=>(YY (aj v32 3) x31).bind λgV=>φ gV ((Zo 3 ef (aj v32 3)).bind λiD=>((χ iD Tf).bind λlN=>VU 0 3 lN).bind λx38=>(ψ 3 x38).bind λoN=>(ir 0 oN [(ε 0),bE,(ε 0)]).bind λoO=>(VU 0 2 oO).bind λfD=>((Tv (aj v32 0)).bind λoh=>VU 0 2 oh).bind λgL=>(ZA (.s [0,2]) fD gL).bind λgA=>φ gA ((Γ 2 oO).bind λfE=>δ (YP,[(aj v32 0),fE,(ε 0),(aj v32 3)],Tf)) ((WE (aj v32 3) (ε 1)).bind λiZ=>δ (Xv,[(aj v32 0),(aj v32 1),(aj v32 2),iZ],Tf))) (δ (Ξ 2,[(aj v32 0),(aj v32 1),(aj v32 2),(aj v32 3)],Tf))) [(aj mo 0),(aj mo 2),(aj mo 3),(ε 0)] wZ).bind λng=>bif ng.1==Ξ 2 then(δ (Ξ 0,[(aj ng.2.1 0),AV.undef,(aj ng.2.1 1),(aj ng.2.1 2),(aj mo 4)],ng.2.2))else bif ng.1==YP then(δ (YP,[(aj ng.2.1 0),AV.undef,(aj ng.2.1 1),(aj ng.2.1 2),(aj mo 4)],ng.2.2))else μ)) (δ (Ξ 0,[(aj mo 0),(aj mo 1),(aj mo 2),(aj mo 3),(aj mo 4)],wZ))) [(VD c1),(VD c2),(ε 0),(ε 0),(ε 0)] r9.2).bind λpR=>bif pR.1==Ξ 0 then(wh σ (Yu [(ε 0),(ε 8)]) pR.2.2)else bif pR.1==YP then(wh σ (Yu [(aj pR.2.1 2),(aj pR.2.1 3)]) pR.2.2)else μ)))
def LX:aq->Heap->aF:=Ω θ [(.s 3)] .k (X5 aAZ)
end
section
def aBp (a0:AV) (σ:Heap):aF:=(l5 [a0,(ε 0),(ε 36000000)] σ).bind λr1=>wh σ r1.1 r1.2
def EC:aq->Heap->aF:=Ω θ [] .k (YR aBp)
def aCF (a0 a1:AV) (σ:Heap):aF:=(ψ 2 a0).bind λc1=>(ψ 2 a1).bind λc2=>(Γ 0 c1).bind λx3=>(Γ 0 c2).bind λx4=>(UP .i x3 x4).bind λx5=>φ x5 ((Γ 0 c1).bind λx6=>(Γ 0 c2).bind λx7=>(YY x6 x7).bind λx8=>φ x8 (wh σ (ε (-1)) σ) (wh σ (ε 1) σ)) ((Γ 1 c1).bind λx9=>(Γ 1 c2).bind λbl=>(LD [x9,bl] σ).bind λdc=>wh σ dc.1 dc.2)
def Qb:aq->Heap->aF:=Ω θ [] .k (Xw aCF)
def aAB (a0:AV) (σ:Heap):aF:=(UY a0).bind λx1=>(Y7 (λv2 s3=>(YY (aj v2 1) x1).bind λx5=>φ x5 ((Zo 8 a0 (aj v2 1)).bind λx6=>((χ x6 s3).bind λc7=>VU 0 8 c7).bind λx8=>(ψ 8 x8).bind λc9=>(ir 0 c9 [(ε 0),bE,(ε 0),(ε 0),aR,aR,(ε 0),(ε 0)]).bind λeR=>(Γ 0 eR).bind λbT=>(l5 [bT,(ε 1),(ε 9999)] s3).bind λiM=>(Wk iM.1).bind λbZ=>φ bZ (δ (YP,[(ε 1),(aj v2 1)],iM.2)) ((Γ 1 eR).bind λbW=>(Jf [bW] iM.2).bind λjd=>(Wk jd.1).bind λbO=>φ bO (δ (YP,[(ε 5),(aj v2 1)],jd.2)) ((Γ 4 eR).bind λcg=>(η cg θ (VU 2 2 eR) au).bind λcQ=>(η cg θ (δ (Φ [(ε 0),(ε 0)])) au).bind λdZ=>(η cg θ (UP (.s [0,0]) cQ dZ) au).bind λcS=>(UD cg cS aR).bind λbL=>(η bL ι (Γ 2 eR) au).bind λcI=>(η bL ι (UP .i cI (ε 0)) au).bind λep=>(η bL ι (δ ep) au).bind λx24=>(η x24 θ (Γ 3 eR) au).bind λx25=>(η x24 θ (UP .i x25 (ε 0)) au).bind λfH=>(η bL ι (UD x24 fH aR) au).bind λfB=>(UD bL dz fB).bind λx28=>φ x28 (δ (YP,[(ε 3),(aj v2 1)],jd.2)) ((Γ 2 eR).bind λx29=>(l5 [x29,(ε 0),(ε 65535)] jd.2).bind λoZ=>(Wk oZ.1).bind λx31=>(η x31 ι (Γ 3 eR) au).bind λx32=>(η x31 ι (Wi (l5 [x32,(ε 0),(ε 999)] oZ.2) oZ.2) au).bind λiN=>(η x31 ι (Wk iN) au).bind λx34=>(UD x31 dz x34).bind λgV=>φ gV (δ (YP,[(ε 1),(aj v2 1)],oZ.2)) ((Γ 5 eR).bind λiD=>(Wk iD).bind λfI=>(η fI θ (Γ 6 eR) au).bind λx38=>(η fI θ (UP .i x38 (ε 0)) au).bind λiu=>(η fI θ (δ iu) au).bind λgn=>(η gn ι (Γ 7 eR) au).bind λfD=>(η gn ι (UP .i fD (ε 0)) au).bind λjB=>(η fI θ (UD gn dz jB) au).bind λgL=>(UD fI gL aR).bind λgA=>φ gA (δ (YP,[(ε 3),(aj v2 1)],oZ.2)) ((Γ 6 eR).bind λfE=>(EC [fE] oZ.2).bind λkH=>(Wk kH.1).bind λjf=>(η jf ι (Γ 7 eR) au).bind λiO=>(η jf ι (Wi (EC [iO] kH.2) kH.2) au).bind λgu=>(η jf ι (Wk gu) au).bind λjg=>(UD jf dz jg).bind λgM=>φ gM (δ (YP,[(ε 1),(aj v2 1)],kH.2)) ((YK (aj v2 1) (ε 0)).bind λgp=>(η gp θ (δ a0) au).bind λmq=>(η gp θ (δ (aj v2 1)) au).bind λkJ=>(η gp θ (Uk kJ (ε 1)) au).bind λkV=>(η gp θ (Zo 8 mq kV) au).bind λjC=>(η gp θ (WC 0 jC) au).bind λlQ=>(η gp θ ((χ lQ kH.2).bind λpO=>VU 0 2 pO) au).bind λi6=>(η gp θ (VU 0 2 eR) au).bind λkQ=>(η gp θ (Wi (Qb [i6,kQ] kH.2) kH.2) au).bind λkn=>(η gp θ (YI kn (ε 0)) au).bind λjh=>(UD gp jh aR).bind λfK=>φ fK (δ (YP,[(ε 7),(aj v2 1)],kH.2)) ((WE (aj v2 1) (ε 1)).bind λpG=>δ (Xv,[(aj v2 0),pG],kH.2))))))))) (δ (Ξ 0,[(aj v2 0),(aj v2 1)],s3))) [(ε 0),(ε 0)] σ).bind λAo=>bif Ao.1==Ξ 0 then(wh σ (ε 0) Ao.2.2)else bif Ao.1==YP then(wh σ (aj Ao.2.1 0) Ao.2.2)else μ
def Ub:aq->Heap->aF:=Ω θ [(.s 8)] .k (YR aAB)
def V6 (a0:AV) (σ:Heap):aF:=(UY a0).bind λx1=>(YK x1 (ε 300)).bind λx2=>φ x2 (wh σ (ε 2) σ) ((UY a0).bind λx3=>(Y7 (λv4 s5=>(YY (aj v4 2) x3).bind λx7=>φ x7 ((Zo 11 a0 (aj v4 2)).bind λx8=>((χ x8 s5).bind λc9=>VU 0 11 c9).bind λbl=>(ψ 11 bl).bind λfq=>(ir 0 fq [(ε 0),bE,(ε 0),(ε 0),(ε 0),(ε 0),(ε 0),Zg,aR,(ε 0),Zg]).bind λcZ=>(Γ 0 cZ).bind λbZ=>(l5 [bZ,(ε 1),(ε 9999999)] s5).bind λgD=>(Wk gD.1).bind λcN=>φ cN (δ (YP,[(ε 1),(aj v4 1),(aj v4 2)],gD.2)) ((YK (aj v4 2) (ε 0)).bind λbO=>(η bO θ (Γ 0 cZ) au).bind λcg=>(η bO θ (δ a0) au).bind λcQ=>(η bO θ (δ (aj v4 2)) au).bind λdZ=>(η bO θ (Uk dZ (ε 1)) au).bind λcS=>(η bO θ (Zo 11 cQ cS) au).bind λbL=>(η bO θ (WC 0 bL) au).bind λcI=>(η bO θ ((χ cI gD.2).bind λgj=>Γ 0 gj) au).bind λx24=>(η bO θ (Ze cg x24) au).bind λx25=>(UD bO x25 aR).bind λfH=>φ fH (δ (YP,[(ε 7),(aj v4 1),(aj v4 2)],gD.2)) ((Γ 1 cZ).bind λfB=>(UP .z fB bE).bind λx28=>(η x28 θ (Γ 1 cZ) au).bind λx29=>(η x28 θ (Wi (Qh [x29] gD.2) gD.2) au).bind λef=>(η x28 θ (Wk ef) au).bind λx31=>(UD x28 x31 aR).bind λx32=>φ x32 (δ (YP,[(ε 3),(aj v4 1),(aj v4 2)],gD.2)) ((Γ 2 cZ).bind λiN=>(EC [iN] gD.2).bind λkG=>(Wk kG.1).bind λgV=>(η gV ι (Γ 3 cZ) au).bind λiD=>(η gV ι (Wi (EC [iD] kG.2) kG.2) au).bind λfI=>(η gV ι (Wk fI) au).bind λx38=>(UD gV dz x38).bind λiu=>(η iu ι (Γ 4 cZ) au).bind λgn=>(η iu ι (Wi (EC [gn] kG.2) kG.2) au).bind λfD=>(η iu ι (Wk fD) au).bind λjB=>(UD iu dz jB).bind λgL=>(η gL ι (Γ 5 cZ) au).bind λgA=>(η gL ι (Wi (EC [gA] kG.2) kG.2) au).bind λfE=>(η gL ι (Wk fE) au).bind λiZ=>(UD gL dz iZ).bind λjf=>(η jf ι (Γ 9 cZ) au).bind λiO=>(η jf ι (Wi (l5 [iO,(ε (-1)),(ε 36000000)] kG.2) kG.2) au).bind λgu=>(η jf ι (Wk gu) au).bind λjg=>(UD jf dz jg).bind λgM=>φ gM (δ (YP,[(ε 1),(aj v4 1),(aj v4 2)],kG.2)) ((VU 6 2 cZ).bind λgp=>(PN [gp] kG.2).bind λgm=>(UP .i gm.1 (ε 0)).bind λkJ=>φ kJ (δ (YP,[gm.1,(aj v4 1),(aj v4 2)],gm.2)) ((Γ 10 cZ).bind λkV=>(UY kV).bind λjC=>(YK jC (ε 2000)).bind λlQ=>φ lQ (δ (YP,[(ε 2),(aj v4 1),(aj v4 2)],gm.2)) ((Γ 10 cZ).bind λlF=>(Ub [lF] gm.2).bind λS9=>(UP .i S9.1 (ε 0)).bind λkQ=>φ kQ (δ (YP,[S9.1,(aj v4 1),(aj v4 2)],S9.2)) ((Γ 10 cZ).bind λkn=>(UY kn).bind λjh=>(WE (aj v4 1) jh).bind λfK=>(WE (aj v4 2) (ε 1)).bind λpG=>δ (Xv,[(aj v4 0),fK,pG],S9.2))))))))) (δ (Ξ 0,[(aj v4 0),(aj v4 1),(aj v4 2)],s5))) [(ε 0),(ε 0),(ε 0)] σ).bind λAo=>bif Ao.1==Ξ 0 then((YK (aj Ao.2.1 1) (ε 10000)).bind λku=>(ug [ku,(ε 2)] Ao.2.2).bind λpg=>wh σ pg.1 pg.2)else bif Ao.1==YP then(wh σ (aj Ao.2.1 0) Ao.2.2)else μ)
def Me:aq->Heap->aF:=Ω θ [(.e 11 nC)] .k (YR V6)
def aAu (a0 a1 a2:AV) (σ:Heap):aF:=(ψ 2 a0).bind λc1=>(VU 0 2 c1).bind λx2=>(PK [x2,a1] σ).bind λr3=>(Me [a2] r3.2).bind λr4=>((((Ψ r3.1).bind λv=>δ [v]).bind λc5=>(ir 0 c5 [(ε 0),(ε 0)]).bind λc6=>((Ψ r4.1).bind λv=>δ [v]).bind λc7=>(ir 1 c7 c6).bind λc8=>δ c8).bind λcs=>δ (Yh 1 (iP 1 2 cs))).bind λx9=>(ze [x9] r4.2).bind λgR=>(UP .i gR.1 (ε 0)).bind λbT=>φ bT (wh σ gR.1 gR.2) ((VU 0 2 c1).bind λbR=>(IV [bR] gR.2).bind λjU=>(Yn 0 jU.1).bind λbW=>(Yn 1 jU.1).bind λcN=>(UY bW).bind λbO=>(Y7 (λv17 Ap=>(YY (aj v17 0) bO).bind λcS=>φ cS ((Zo 2 bW (aj v17 0)).bind λbL=>((χ bL Ap).bind λiL=>VU 0 2 iL).bind λep=>(ψ 2 ep).bind λfW=>(ir 0 fW [(ε 0),bE]).bind λiA=>(VU 0 2 iA).bind λfH=>(A.jX (.s [0,2]) (XP jU.2.length) fH dz Ap).bind λh27=>(WE (aj v17 0) (ε 1)).bind λx28=>δ (Xv,[x28],h27)) (δ (Ξ 0,[(aj v17 0)],Ap))) [(ε 0)] (jU.2++[Z0 []])).bind λnW=>bif nW.1==Ξ 0 then((UY a2).bind λef=>(Y7 (λv31 Ip=>(YY (aj v31 1) ef).bind λx34=>φ x34 ((Zo 11 a2 (aj v31 1)).bind λgV=>((χ gV Ip).bind λnD=>VU 0 11 nD).bind λfI=>(ψ 11 fI).bind λmU=>(ir 0 mU [(ε 0),bE,(ε 0),(ε 0),(ε 0),(ε 0),(ε 0),Zg,aR,(ε 0),Zg]).bind λoN=>(Γ 10 oN).bind λgn=>(UY gn).bind λfD=>(Y7 (λlE Eo=>(YY (aj lE 1) fD).bind λfE=>φ fE ((Zo 8 gn (aj lE 1)).bind λiZ=>((χ iZ Eo).bind λlX=>VU 0 8 lX).bind λiO=>(ψ 8 iO).bind λBh=>(ir 0 Bh [(ε 0),bE,(ε 0),(ε 0),aR,aR,(ε 0),(ε 0)]).bind λsL=>(VU 0 2 sL).bind λgM=>(Yt (.s [0,2]) (XP jU.2.length) gM aR Eo).bind λgp=>(Wk gp).bind λmq=>φ mq (δ (YP,[(ε 8),(aj lE 1)],Eo)) ((VU 0 2 sL).bind λkJ=>(VU 2 2 sL).bind λkV=>(LX [a1,kJ,kV] Eo).bind λEl=>(Yn 0 El.1).bind λlQ=>(Yn 1 El.1).bind λlF=>(UP .i lF (ε 0)).bind λi6=>φ i6 (δ (YP,[lF,(aj lE 1)],El.2)) ((WE (aj lE 1) (ε 1)).bind λkQ=>δ (Xv,[(aj lE 0),kQ],El.2)))) (δ (Ξ 4,[(aj lE 0),(aj lE 1)],Eo))) [(aj v31 0),(ε 0)] Ip).bind λqn=>bif qn.1==Ξ 4 then((WE (aj v31 1) (ε 1)).bind λjh=>δ (Xv,[(aj qn.2.1 0),jh],qn.2.2))else bif qn.1==YP then(δ (YP,[(aj qn.2.1 0),(aj v31 1)],qn.2.2))else μ) (δ (Ξ 2,[(aj v31 0),(aj v31 1)],Ip))) [(ε 0),(ε 0)] nW.2.2).bind λFX=>bif FX.1==Ξ 2 then(wh σ (ε 0) FX.2.2)else bif FX.1==YP then(wh σ (aj FX.2.1 0) FX.2.2)else μ)else μ)
def aBI:aq->Heap->aF:=Ω θ [(.a [(.e 3 [.k,.k,(.e 7 qz)]),(.s 4)]),Du,(.e 11 nC)] .k (X5 aAu)
def VC (a0:AV) (σ:Heap):aF:=(UY a0).bind λx1=>(Y7 (λv2 s3=>(YY (aj v2 0) x1).bind λx5=>φ x5 ((Zo 11 a0 (aj v2 0)).bind λx6=>((χ x6 s3).bind λc7=>VU 0 11 c7).bind λx8=>(ψ 11 x8).bind λc9=>(ir 0 c9 [(ε 0),bE,(ε 0),(ε 0),(ε 0),(ε 0),(ε 0),Zg,aR,(ε 0),Zg]).bind λeR=>(Γ 10 eR).bind λbT=>(UY bT).bind λbR=>(Y7 (λuY Bz=>(YY (aj uY 1) bR).bind λbO=>φ bO ((Zo 8 bT (aj uY 1)).bind λcg=>((χ cg Bz).bind λig=>VU 0 8 ig).bind λdZ=>(ψ 8 dZ).bind λiH=>(ir 0 iH [(ε 0),bE,(ε 0),(ε 0),aR,aR,(ε 0),(ε 0)]).bind λij=>(Γ 4 ij).bind λcI=>(φ cI ((VU 0 2 ij).bind λx24=>(A.Ho (.s [0,2]) (XP σ.length) x24 Bz).bind λh25=>δ ([(aj uY 0)],h25)) ((VU 0 2 ij).bind λfH=>(VU 0 2 ij).bind λfB=>(VU 2 2 ij).bind λx28=>((Tv (aj uY 0)).bind λ_=>δ (0)).bind λp29=>((Tv (aj uY 0)).bind λsJ=>Γ p29 sJ).bind λx31=>(((ψ 2 fB).bind λHL=>(ir 0 HL [(ε 0),bE,(ε 0),(ε 0),(ε 0)]).bind λwL=>(ψ 2 x28).bind λuL=>(ir 2 uL wL).bind λkX=>((Ψ x31).bind λv=>δ [v]).bind λnD=>(ir 4 nD kX).bind λlN=>δ lN).bind λcs=>δ (Φ cs)).bind λx38=>(A.jX (.s [0,2]) (XP σ.length) fH x38 Bz).bind λKH=>δ ([(aj uY 0)],KH))).bind λmY=>(WE (aj uY 1) (ε 1)).bind λgn=>δ (Xv,[(aj mY.1 0),gn],mY.2)) (δ (Ξ 2,[(aj uY 0),(aj uY 1)],Bz))) [(VD eR),(ε 0)] s3).bind λIh=>bif Ih.1==Ξ 2 then((WE (aj v2 0) (ε 1)).bind λjB=>δ (Xv,[jB],Ih.2.2))else μ) (δ (Ξ 0,[(aj v2 0)],s3))) [(ε 0)] (σ++[Z0 []])).bind λsU=>bif sU.1==Ξ 0 then(wh σ (XP σ.length) sU.2.2)else μ
def L4:aq->Heap->aF:=Ω θ [(.e 11 nC)] .k (YR VC)
def Uq (a0 a1:AV) (σ:Heap):aF:=(ψ 11 a0).bind λc1=>(Γ 0 c1).bind λx2=>(Uk x2 a1).bind λx3=>wh σ x3 σ
def Ga:aq->Heap->aF:=Ω θ [(.a nC)] .k (Xw Uq)
def Qv (a0 a1:AV) (σ:Heap):aF:=(Ix (Zw (λ_ _=>μ) [(177,Ga)]) [a0,a1,(AV.fn 177 [])] σ).bind λr1=>(Yn 0 r1.1).bind λx2=>(Yn 1 r1.1).bind λx3=>wh σ (Yu [x2,x3]) r1.2
def Je:aq->Heap->aF:=Ω θ [(.e 11 nC)] .k (Xw Qv)
def akB (a0 a1:AV) (σ:Heap):aF:=(ψ 5 a0).bind λc1=>(ψ 5 a1).bind λc2=>(VU 0 2 c1).bind λx3=>(VU 0 2 c2).bind λx4=>(Qb [x3,x4] σ).bind λr5=>wh σ r5.1 r5.2
def aaO:aq->Heap->aF:=Ω θ [] .k (Xw akB)
def Qu (a0 a1:AV) (σ:Heap):aF:=(Me [a0] σ).bind λr1=>(UP .i r1.1 (ε 0)).bind λx2=>φ x2 ((wh σ (Yu [Zg,r1.1]) r1.2).map λp=>(Y9 (.t [(.s 5),.k]) p.1,p.2)) ((Je [a0,a1] r1.2).bind λr3=>(Yn 0 r3.1).bind λx4=>(Yn 1 r3.1).bind λx5=>(Wk x5).bind λx6=>φ x6 ((wh σ (Yu [Zg,(ε 8)]) r3.2).map λp=>(Y9 (.t [(.s 5),.k]) p.1,p.2)) ((WE x4 (ε 1)).bind λx7=>(Wf 11 a0 μ (δ x7) r3.2).bind λx8=>(L4 [x8] r3.2).bind λr9=>(A.zC r9.1).bind λaw1=>A.Dn (λv11 mm k13=>A.xA (Yy r9.2.length 0) mm λbW Lc=>(Yn 0 bW).bind λbO=>φ bO ((A.zz (Yy r9.2.length 0) Lc).bind λcg=>(Yn 1 cg).bind λcQ=>(ψ 5 cQ).bind λiz=>(ir 0 iz [(ε 0),bE,(ε 0),(ε 0),(ε 0)]).bind λiH=>(VU 0 5 iH).bind λbL=>(((ψ 5 bL).bind λiL=>(ir 0 iL [(ε 0),bE,(ε 0),(ε 0),(ε 0)]).bind λgj=>δ gj).bind λcs=>δ (Yh 5 (iP 5 1 cs))).bind λx24=>(WK 5 (140737488355328 / 48) (aj v11 0) x24 Lc).bind λoW=>k13 (Xv,[oW.1],oW.2)) (k13 (Ξ 0,[(aj v11 0)],Lc))) [Zg] (r9.2++[aW.it [] aw1]) λmZ=>bif mZ.1==Ξ 0 then((Lo [(aj mZ.2.1 0),(AV.fn 297 [])] mZ.2.2).bind λqN=>(wh σ (Yu [(aj mZ.2.1 0),(ε 0)]) qN.2).map λp=>(Y9 (.t [(.s 5),.k]) p.1,p.2))else μ))
def Qr:aq->Heap->aF:=Ω θ [(.e 11 nC)] (.t [(.s 5),.k]) (Xw Qu)
end
section
def Us (a0 a1:AV) (σ:Heap):aF:=(ψ 2 a0).bind λc1=>(Γ 0 c1).bind λx2=>((χ a1 σ).bind λc3=>Γ 0 c3).bind λx4=>(ZA .i x2 x4).bind λx5=>wh σ x5 σ
def LI:aq->Heap->aF:=Ω θ [(.a [.k,(.s 11)])] .k (Xw Us)
def Qx (a0 a1:AV) (σ:Heap):aF:=(ψ 5 a0).bind λc1=>(((Ψ a1).bind λv=>δ [v]).bind λcs=>δ (ZN cs)).bind λx2=>(Γ 3 c1).bind λx3=>(Pw (Zw (λ_ _=>μ) [(127,LI)]) [x3,(AV.fn 127 [x2])] σ).bind λr4=>(YY r4.1 (ε 0)).bind λx5=>φ x5 ((ψ 2 (Φ [(ε 0),Zg])).bind λc6=>(ir 0 c6 [(ε 0),Zg]).bind λc7=>(VU 0 2 c7).bind λx8=>wh σ (Yu [x8,aR]) r4.2) ((Γ 3 c1).bind λx9=>(Zo 2 x9 r4.1).bind λbl=>((χ bl r4.2).bind λfq=>VU 0 2 fq).bind λbR=>(ψ 2 bR).bind λfU=>(ir 0 fU [(ε 0),Zg]).bind λia=>(VU 0 2 ia).bind λcN=>wh σ (Yu [cN,dz]) r4.2)
def L5:aq->Heap->aF:=Ω θ Ds (.t [(.a [.k,(.e 11 nC)]),.k]) (Xw Qx)
def T8 (a0:AV) (σ:Heap):aF:=(ψ 5 a0).bind λc1=>(VU 0 2 c1).bind λx2=>(Γ 2 c1).bind λx3=>(Wi (PK [x2,x3] σ) σ).bind λx4=>(Γ 3 c1).bind λx5=>(UY x5).bind λx6=>(YK x6 (ε 30)).bind λx7=>(Wi (ug [x7,(ε 2)] σ) σ).bind λx8=>((((Ψ x4).bind λv=>δ [v]).bind λc9=>(ir 0 c9 [(ε 0),(ε 0)]).bind λeR=>((Ψ x8).bind λv=>δ [v]).bind λfq=>(ir 1 fq eR).bind λcZ=>δ cZ).bind λcs=>δ (Yh 1 (iP 1 2 cs))).bind λbZ=>(Wi (ze [bZ] σ) σ).bind λbW=>(UP .i bW (ε 0)).bind λcN=>φ cN (wh σ bW σ) ((Γ 3 c1).bind λbO=>(UY bO).bind λcg=>(Y7 (λjk Aq=>(YY (aj jk 2) cg).bind λbL=>φ bL ((Zo 2 bO (aj jk 2)).bind λcI=>((χ cI Aq).bind λgj=>VU 0 2 gj).bind λx24=>(ψ 2 x24).bind λiA=>(ir 0 iA [(ε 0),Zg]).bind λjv=>(Γ 0 jv).bind λfB=>(l5 [fB,(ε 1),(ε 999)] Aq).bind λwW=>(Wk wW.1).bind λx29=>φ x29 (δ (YP,[(aj jk 0),(ε 1),(aj jk 2)],wW.2)) ((YK (aj jk 2) (ε 0)).bind λef=>(η ef θ (Γ 0 jv) au).bind λx31=>((Tv (aj jk 0)).bind λ_=>δ (3)).bind λOU=>(η ef θ ((Tv (aj jk 0)).bind λwL=>Γ OU wL) au).bind λx34=>(η ef θ (δ (aj jk 2)) au).bind λgV=>(η ef θ (Uk gV (ε 1)) au).bind λiD=>(η ef θ (Zo 2 x34 iD) au).bind λfI=>(η ef θ (WC 0 fI) au).bind λx38=>(η ef θ ((χ x38 wW.2).bind λoN=>Γ 0 oN) au).bind λgn=>(η ef θ (Ze x31 gn) au).bind λfD=>(UD ef fD aR).bind λjB=>φ jB (δ (YP,[(aj jk 0),(ε 7),(aj jk 2)],wW.2)) (((Tv (aj jk 0)).bind λ_=>δ (0)).bind λp43=>((Tv (aj jk 0)).bind λDV=>VU p43 2 DV).bind λfE=>((Tv (aj jk 0)).bind λ_=>δ (2)).bind λIe=>((Tv (aj jk 0)).bind λlX=>Γ Ie lX).bind λiO=>(Γ 1 jv).bind λgu=>(aBI [fE,iO,gu] wW.2).bind λkI=>(UP .i kI.1 (ε 0)).bind λgM=>φ gM (δ (YP,[(aj jk 0),kI.1,(aj jk 2)],kI.2)) ((WE (aj jk 2) (ε 1)).bind λgp=>δ (Xv,[(aj jk 0),(aj jk 1),gp],kI.2))))) (δ (Ξ 0,[(aj jk 0),(aj jk 1),(aj jk 2)],Aq))) [(VD c1),(ε 0),(ε 0)] σ).bind λgm=>bif gm.1==Ξ 0 then(((Tv (aj gm.2.1 0)).bind λ_=>δ (4)).bind λp54=>((Tv (aj gm.2.1 0)).bind λtU=>Γ p54 tU).bind λjC=>(UY jC).bind λlQ=>(YK lQ (ε 40)).bind λlF=>φ lF (wh σ (ε 2) gm.2.2) (((Tv (aj gm.2.1 0)).bind λ_=>δ (4)).bind λp59=>((Tv (aj gm.2.1 0)).bind λxM=>Γ p59 xM).bind λkn=>(UY kn).bind λjh=>(Y7 (λjG Ar=>(YY (aj jG 2) jh).bind λku=>φ ku ((Zo 3 kn (aj jG 2)).bind λpV=>((χ pV Ar).bind λD0=>VU 0 3 D0).bind λkC=>(ψ 3 kC).bind λFG=>(ir 0 FG [(ε 0),(ε 0),(ε 0)]).bind λrR=>(Γ 0 rR).bind λsX=>(l5 [sX,(ε 1),(ε 40)] Ar).bind λOX=>(Wk OX.1).bind λqP=>φ qP (δ (YP,[(aj jG 0),(ε 1),(aj jG 2)],OX.2)) ((YK (aj jG 2) (ε 0)).bind λkK=>(η kK θ (Γ 0 rR) au).bind λnX=>((Tv (aj jG 0)).bind λ_=>δ (4)).bind λOV=>(η kK θ ((Tv (aj jG 0)).bind λBi=>Γ OV Bi) au).bind λsZ=>(η kK θ (δ (aj jG 2)) au).bind λud=>(η kK θ (Uk ud (ε 1)) au).bind λw8=>(η kK θ (Zo 3 sZ w8) au).bind λvf=>(η kK θ (WC 0 vf) au).bind λue=>(η kK θ ((χ ue OX.2).bind λsM=>Γ 0 sM) au).bind λqQ=>(η kK θ (Ze nX qQ) au).bind λxg=>(UD kK xg aR).bind λnh=>φ nh (δ (YP,[(aj jG 0),(ε 7),(aj jG 2)],OX.2)) (((Tv (aj jG 0)).bind λuO=>VU 0 5 uO).bind λEu=>(Γ 1 rR).bind λx90=>(L5 [Eu,x90] OX.2).bind λCF=>(Yn 0 CF.1).bind λtc=>(Yn 1 CF.1).bind λx93=>(ψ 2 tc).bind λwN=>(ir 0 wN [(ε 0),Zg]).bind λsN=>(Wk x93).bind λx96=>φ x96 (δ (YP,[(aj jG 0),(ε 8),(aj jG 2)],CF.2)) ((Γ 2 rR).bind λCK=>(l5 [CK,(ε 0),(ε 100)] CF.2).bind λCG=>(Wk CG.1).bind λx99=>φ x99 (δ (YP,[(aj jG 0),(ε 1),(aj jG 2)],CG.2)) ((WE (aj jG 2) (ε 1)).bind λyI=>δ (Xv,[(aj jG 0),(aj jG 1),yI],CG.2)))))) (δ (Ξ 2,[(aj jG 0),(aj jG 1),(aj jG 2)],Ar))) [(aj gm.2.1 0),(aj gm.2.1 1),(ε 0)] gm.2.2).bind λAa=>bif Aa.1==Ξ 2 then(wh σ (ε 0) Aa.2.2)else bif Aa.1==YP then(wh σ (aj Aa.2.1 1) Aa.2.2)else μ))else bif gm.1==YP then(wh σ (aj gm.2.1 1) gm.2.2)else μ)
def PW:aq->Heap->aF:=Ω θ Ds .k (YR T8)
def TT (a0:AV) (σ:Heap):aF:=(ψ 5 a0).bind λc1=>(Γ 1 c1).bind λx2=>(l5 [x2,(ε 1),(ε 9)] σ).bind λr3=>(Wk r3.1).bind λx4=>φ x4 (wh σ (ε 4) r3.2) ((Γ 1 c1).bind λx5=>(ZA .i x5 (ε 8)).bind λx6=>(η x6 ι (Γ 1 c1) au).bind λx7=>(η x6 ι (ZA .i x7 (ε 9)) au).bind λx8=>(UD x6 dz x8).bind λx9=>(η x9 ι (Γ 1 c1) au).bind λbl=>(η x9 ι (ZA .i bl (ε 6)) au).bind λbT=>(UD x9 dz bT).bind λbR=>(η bR ι (Γ 1 c1) au).bind λbZ=>(η bR ι (ZA .i bZ (ε 7)) au).bind λbW=>(UD bR dz bW).bind λcN=>(η x9 θ (Γ 2 c1) au).bind λbO=>(η x9 θ (UP .i bO (ε 0)) au).bind λcg=>(UD x9 cg aR).bind λcQ=>(η cQ ι (Γ 1 c1) au).bind λdZ=>(η cQ ι (UP .i dZ (ε 3)) au).bind λcS=>(η cQ ι (δ cS) au).bind λbL=>(η bL θ (Γ 3 c1) au).bind λcI=>(η bL θ (UP .i cI (ε 0)) au).bind λep=>(η cQ ι (UD bL ep aR) au).bind λx24=>(UD cQ dz x24).bind λx25=>(η x25 ι (δ cN) au).bind λfH=>(η x25 ι (Wk fH) au).bind λfB=>(η x25 ι (δ fB) au).bind λx28=>(η x28 θ (Γ 4 c1) au).bind λx29=>(η x28 θ (UP .i x29 (ε 0)) au).bind λef=>(η x25 ι (UD x28 ef aR) au).bind λx31=>(UD x25 dz x31).bind λx32=>φ x32 (wh σ (ε 3) r3.2) (wh σ (ε 0) r3.2))
def PO:aq->Heap->aF:=Ω θ [] .k (YR TT)
def TD (a0 a1:AV) (σ:Heap):aF:=(ψ 3 a0).bind λc1=>(Γ 0 c1).bind λx2=>(WC 2 a1).bind λx3=>((χ x3 σ).bind λc4=>Γ 0 c4).bind λx5=>(ZA .i x2 x5).bind λx6=>wh σ x6 σ
def Lq:aq->Heap->aF:=Ω θ [] .k (Xw TD)
def PS (a0 a1:AV) (σ:Heap):aF:=(ψ 5 a0).bind λc1=>((ψ 5 a1).bind λcs=>δ (ZN cs)).bind λx2=>(WC 1 x2).bind λx3=>((χ x3 σ).bind λc4=>Γ 0 c4).bind λx5=>(ZA .i x5 (ε 8)).bind λx6=>(η x6 ι (WC 1 x2) au).bind λx7=>(η x6 ι ((χ x7 σ).bind λc8=>Γ 0 c8) au).bind λx9=>(η x6 ι (ZA .i x9 (ε 9)) au).bind λbl=>(UD x6 dz bl).bind λbT=>(Wk bT).bind λbR=>(η bR θ (Γ 4 c1) au).bind λbZ=>(η bR θ (δ (AV.fn 152 [x2])) au).bind λbW=>(η bR θ (Wi (Po (Zw (λ_ _=>μ) [(152,Lq)]) [bZ,bW] σ) σ) au).bind λcN=>(η bR θ (Wk cN) au).bind λbO=>(UD bR bO aR).bind λcg=>φ cg (wh σ (ε 8) σ) ((WC 1 x2).bind λcQ=>((χ cQ σ).bind λiz=>Γ 0 iz).bind λcS=>(ZA .i cS (ε 6)).bind λbL=>(φ bL (δ ([(ε 36000000)],σ)) ((ZA .i cS (ε 9)).bind λep=>(φ ep (δ ([(ε 1)],σ)) (δ ([(ε 65535)],σ))).bind λkO=>δ ([(aj kO.1 0)],kO.2))).bind λyY=>(WC 4 x2).bind λx25=>((χ x25 yY.2).bind λjv=>Γ 0 jv).bind λfB=>(l5 [fB,(ε 0),(aj yY.1 0)] yY.2).bind λwW=>(Wk wW.1).bind λx29=>(ug [x29,(ε 1)] wW.2).bind λoZ=>wh σ oZ.1 oZ.2)
def PR:aq->Heap->aF:=Ω θ Ds .k (Xw PS)
def aa5 (a0:AV) (σ:Heap):aF:=(l5 [a0,(ε 0),(ε 36000000)] σ).bind λr1=>wh σ r1.1 r1.2
def LU:aq->Heap->aF:=Ω θ [] .k (YR aa5)
def aaG (a0:AV) (σ:Heap):aF:=(ZP a0).bind λx1=>(WC 11 x1).bind λx2=>((χ x2 σ).bind λc3=>Γ 0 c3).bind λx4=>(UY x4).bind λx5=>(ZA .i x5 (ε 0)).bind λx6=>φ x6 (wh σ (ε 0) σ) ((ZP a0).bind λx7=>(WC 11 x7).bind λx8=>((χ x8 σ).bind λc9=>Γ 0 c9).bind λbl=>(ZP a0).bind λbT=>(WC 11 bT).bind λbR=>((χ bR σ).bind λfU=>Γ 0 fU).bind λbW=>(UY bW).bind λcN=>(Uk cN (ε 1)).bind λbO=>(Zo 5 bl bO).bind λcg=>(WC 0 cg).bind λcQ=>((χ cQ σ).bind λiz=>Γ 0 iz).bind λcS=>wh σ cS σ)
def IN:aq->Heap->aF:=Ω θ [(.p HC)] .k (YR aaG)
def aaI (a0:AV) (σ:Heap):aF:=(ZP a0).bind λx1=>(WC 8 x1).bind λx2=>((χ x2 σ).bind λc3=>Γ 0 c3).bind λx4=>(YY x4 (ε 0)).bind λx5=>(η x5 ι (δ a0) au).bind λx6=>(η x5 ι (ZP x6) au).bind λx7=>(η x5 ι (WC 0 x7) au).bind λx8=>(η x5 ι (WC 2 x8) au).bind λx9=>(η x5 ι ((χ x9 σ).bind λeR=>Γ 0 eR) au).bind λbT=>(UD x5 dz bT).bind λbR=>φ bR (wh σ (ε (-1)) σ) ((ZP a0).bind λbZ=>(WC 0 bZ).bind λbW=>(WC 1 bW).bind λcN=>((χ cN σ).bind λjY=>Γ 0 jY).bind λcg=>(ZP a0).bind λcQ=>(WC 8 cQ).bind λdZ=>((χ dZ σ).bind λiH=>Γ 0 iH).bind λbL=>(WE cg bL).bind λcI=>(ZP a0).bind λep=>(WC 0 ep).bind λx24=>(WC 0 x24).bind λx25=>((χ x25 σ).bind λjv=>Γ 0 jv).bind λfB=>(Uk cI fB).bind λx28=>wh σ x28 σ)
def Ez:aq->Heap->aF:=Ω θ [(.p [.k,.k,.k,.k,.k,(.s 11),.k,.k,.k,.k])] .k (YR aaI)
def aaQ (a0 a1:AV) (σ:Heap):aF:=(ψ 3 a0).bind λc1=>(Γ 2 c1).bind λx2=>φ x2 ((Γ 0 c1).bind λx3=>wh σ x3 σ) ((Γ 0 c1).bind λx4=>(WE x4 a1).bind λx5=>(Γ 1 c1).bind λx6=>(Uk x5 x6).bind λx7=>wh σ x7 σ)
def Av:aq->Heap->aF:=Ω θ [] .k (Xw aaQ)
def aaW (a0:AV) (σ:Heap):aF:=(ψ 9 a0).bind λc1=>(Γ 2 c1).bind λx2=>(Γ 3 c1).bind λx3=>(WE x2 x3).bind λx4=>(Γ 4 c1).bind λx5=>(WE x4 x5).bind λx6=>wh σ x6 σ
def aAL:aq->Heap->aF:=Ω θ [(.a [.k,.k,.k,.k,.k,.k,(.s 2),.k,.k])] .k (YR aaW)
def TL (a0 a1 a2:AV) (σ:Heap):aF:=(ψ 2 a1).bind λc1=>(ZP a0).bind λx2=>(WC 9 x2).bind λx3=>((χ x3 σ).bind λc4=>Γ 0 c4).bind λx5=>(VU 0 2 c1).bind λx6=>(A.GM (.s [0,2]) x5 x6 (Φ [(ε 0),(ε 0),(ε 0),(ε 0),(ε 0),(ε 0),Zg,(ε 0),aR]) σ).bind λx7=>(Yn 0 x7).bind λx8=>(Yn 1 x7).bind λx9=>(ψ 9 x8).bind λeR=>(ir 0 eR [(ε 0),(ε 0),(ε 0),(ε 0),(ε 0),(ε 0),Zg,(ε 0),aR]).bind λfq=>(VU 0 9 fq).bind λbR=>(η x9 θ (Γ 8 fq) au).bind λbZ=>(η x9 θ (δ bZ) au).bind λbW=>(η bW θ (δ a2) au).bind λcN=>(η bW θ (VU 0 9 fq) au).bind λbO=>(η bW θ (Wi (aAL [bO] σ) σ) au).bind λcg=>(η bW θ (YI cN cg) au).bind λcQ=>(η x9 θ (UD bW cQ aR) au).bind λdZ=>(η x9 θ (Wk dZ) au).bind λcS=>(UD x9 cS aR).bind λbL=>(ψ 9 bR).bind λiL=>(ir 0 iL [(ε 0),(ε 0),(ε 0),(ε 0),(ε 0),(ε 0),Zg,(ε 0),aR]).bind λgj=>(VU 0 9 gj).bind λx24=>wh σ (Yu [x24,bL]) σ
def wj:aq->Heap->aF:=Ω ι [] (.t [(.a [.k,.k,.k,.k,.k,.k,(.s 2),.k,.k]),.k]) (X5 TL)
def aaJ (a0 a1:AV) (σ:Heap):aF:=(ψ 9 a0).bind λc1=>(VU 0 7 c1).bind λx2=>(A.min a1 (ε 36000000)).bind λx3=>(VV [x2,x3] σ).bind λr4=>(Yn 0 r4.1).bind λx5=>(Yn 1 r4.1).bind λx6=>wh σ x5 r4.2
def EA:aq->Heap->aF:=Ω θ [(.a [.k,.k,.k,.k,.k,.k,(.s 2),.k,.k])] .k (Xw aaJ)
def Lu (a1:AV) (a3:AV) (cN:AV):aq->Heap->Option (AX×aq×Heap):=λdY pE=>(YY (aj dY 6) cN).bind λdZ=>φ dZ ((ZP a1).bind λcS=>(WC 0 cS).bind λbL=>((χ bL pE).bind λiL=>Γ 0 iL).bind λep=>(Zo 10 ep (aj dY 6)).bind λx24=>(ZP x24).bind λx25=>(WC 0 x25).bind λfH=>((χ fH pE).bind λkU=>VU 0 3 kU).bind λx28=>(Av [x28,a3] pE).bind λnW=>((Tv (aj dY 0)).bind λsJ=>VU 0 2 sJ).bind λx31=>(wj [x24,x31,nW.1] nW.2).bind λr32=>(Yn 0 r32.1).bind λiN=>(Yn 1 r32.1).bind λx34=>(ψ 9 iN).bind λkX=>(ir 0 kX [(ε 0),(ε 0),(ε 0),(ε 0),(ε 0),(ε 0),Zg,(ε 0),aR]).bind λnD=>(Wk x34).bind λfI=>(η fI ι (δ x24) au).bind λx38=>(η fI ι (ZP x38) au).bind λiu=>(η fI ι (WC 4 iu) au).bind λgn=>(η fI ι ((χ gn r32.2).bind λDU=>Γ 0 DU) au).bind λjB=>(η fI ι (δ (aj dY 4)) au).bind λgL=>(η fI ι (YY jB gL) au).bind λgA=>(UD fI dz gA).bind λfE=>φ fE ((WE (aj dY 6) (ε 1)).bind λiZ=>δ (Xv,[(aj dY 0),(aj dY 1),(aj dY 2),(aj dY 3),(aj dY 4),(aj dY 5),iZ],r32.2)) ((VU 0 9 nD).bind λjf=>(EA [jf,nW.1] r32.2).bind λpR=>((Tv (aj dY 1)).bind λ_=>δ (1)).bind λp49=>((Tv (aj dY 1)).bind λsL=>Γ p49 sL).bind λgM=>(ZA .i gM (ε 1)).bind λgp=>(φ gp ((ZP x24).bind λkJ=>(WC 7 kJ).bind λkV=>((χ kV pR.2).bind λyP=>Γ 0 yP).bind λlQ=>(LR [pR.1,lQ] pR.2).bind λxR=>(Yn 0 xR.1).bind λi6=>(Yn 1 xR.1).bind λkQ=>δ ([(aj dY 0),(aj dY 1),(VD nD),i6],xR.2)) (δ ([(aj dY 0),(aj dY 1),(VD nD),pR.1],pR.2))).bind λgm=>(ZP x24).bind λkn=>(WC 4 kn).bind λjh=>((χ jh gm.2).bind λOl=>Γ 0 Ol).bind λpG=>(YK pG (aj dY 4)).bind λoq=>((Tv (aj gm.1 1)).bind λ_=>δ (1)).bind λp66=>(η oq ι ((Tv (aj gm.1 1)).bind λHN=>Γ p66 HN) au).bind λqO=>(η oq ι (ZA .i qO (ε 1)) au).bind λkC=>(η oq ι (δ kC) au).bind λlZ=>(η lZ θ (δ (aj gm.1 3)) au).bind λsW=>(η lZ θ (δ (aj dY 2)) au).bind λsX=>(η lZ θ (YK sW sX) au).bind λve=>(η oq ι (UD lZ ve aR) au).bind λqP=>(UD oq dz qP).bind λkK=>((Tv (aj gm.1 1)).bind λ_=>δ (1)).bind λp76=>(η kK ι ((Tv (aj gm.1 1)).bind λwM=>Γ p76 wM) au).bind λsY=>(η kK ι (UP .i sY (ε 1)) au).bind λsZ=>(η kK ι (δ sZ) au).bind λud=>((Tv (aj gm.1 2)).bind λ_=>δ (7)).bind λOW=>(η ud θ ((Tv (aj gm.1 2)).bind λyQ=>Γ OW yQ) au).bind λue=>(η ud θ (δ (aj dY 5)) au).bind λuf=>(η ud θ (YK ue uf) au).bind λqQ=>(η kK ι (UD ud qQ aR) au).bind λxg=>(UD kK dz xg).bind λnh=>(φ nh ((ZP x24).bind λEu=>(WC 3 Eu).bind λx90=>((χ x90 gm.2).bind λHS=>Γ 0 HS).bind λtc=>(ZP x24).bind λx93=>(WC 4 x93).bind λqR=>((χ qR gm.2).bind λsN=>Γ 0 sN).bind λx96=>((Tv (aj gm.1 2)).bind λ_=>δ (7)).bind λp97=>((Tv (aj gm.1 2)).bind λqF=>Γ p97 qF).bind λx99=>δ ([(aj gm.1 0),(aj gm.1 1),(aj gm.1 3),tc,x96,x99],gm.2)) (δ ([(aj gm.1 0),(aj gm.1 1),(aj dY 2),(aj dY 3),(aj dY 4),(aj dY 5)],gm.2))).bind λIl=>(WE (aj dY 6) (ε 1)).bind λyI=>δ (Xv,[(aj Il.1 0),(aj Il.1 1),(aj Il.1 2),(aj Il.1 3),(aj Il.1 4),(aj Il.1 5),yI],Il.2))) (δ (Ξ 0,[(aj dY 0),(aj dY 1),(aj dY 2),(aj dY 3),(aj dY 4),(aj dY 5),(aj dY 6)],pE))
def aax (a0 a1 a2 a3:AV) (σ:Heap):aF:=(ψ 2 a2).bind λc1=>(ZP a0).bind λx2=>(WC 10 x2).bind λx3=>((χ x3 σ).bind λc4=>Γ 0 c4).bind λx5=>(VU 0 2 c1).bind λx6=>(Yt (.s [0,2]) x5 x6 (Φ [bE,(ε 0),(ε 0),(ε 0),(ε 0),aR,Zg]) σ).bind λx7=>(ψ 7 x7).bind λc8=>(ir 0 c8 [bE,(ε 0),(ε 0),(ε 0),(ε 0),aR,Zg]).bind λc9=>(Γ 4 c9).bind λbl=>(ZP a1).bind λbT=>(WC 0 bT).bind λbR=>((χ bR σ).bind λfU=>Γ 0 fU).bind λbW=>(UY bW).bind λcN=>(Y7 (Lu a1 a3 cN) [(VD c1),(VD c9),bl,(ε 0),(ε (-1)),(ε 0),(ε 0)] σ).bind λAa=>bif Aa.1==Ξ 0 then(wh σ (Yu [(aj Aa.2.1 2),(aj Aa.2.1 3)]) Aa.2.2)else μ
def IF:aq->Heap->aF:=Ω θ [(.p HC),(.p [(.s 10),.k,.k,.k])] .k (A.yM aax)
def aaq (a0 a1:AV) (σ:Heap):aF:=(ψ 8 a0).bind λc1=>(VU 0 2 c1).bind λx2=>((χ a1 σ).bind λc3=>VU 0 2 c3).bind λx4=>(ZA (.s [0,2]) x2 x4).bind λx5=>wh σ x5 σ
def IE:aq->Heap->aF:=Ω θ [] .k (Xw aaq)
def acE (a0:AV) (σ:Heap):aF:=(ψ 7 a0).bind λc1=>(Γ 2 c1).bind λx2=>(A.min x2 (ε 36000000)).bind λx3=>((Ψ x3).bind λv=>δ [v]).bind λc4=>(ir 2 c4 c1).bind λc5=>(Γ 3 c5).bind λx6=>(Γ 2 c5).bind λx7=>(Uk (ε 36000000) x7).bind λx8=>(A.min x6 x8).bind λx9=>((Ψ x9).bind λv=>δ [v]).bind λeR=>(ir 3 eR c5).bind λfq=>(Γ 4 fq).bind λbR=>(Γ 2 fq).bind λbZ=>(Uk (ε 36000000) bZ).bind λbW=>(Γ 3 fq).bind λcN=>(Uk bW cN).bind λbO=>(A.min bR bO).bind λcg=>((Ψ cg).bind λv=>δ [v]).bind λig=>(ir 4 ig fq).bind λiz=>(VU 0 7 iz).bind λcS=>(ψ 7 cS).bind λij=>(ir 0 ij [(ε 0),(ε 0),(ε 0),(ε 0),(ε 0),(ε 0),Zg]).bind λiL=>(VU 0 7 iL).bind λep=>wh σ ep σ
def zf:aq->Heap->aF:=Ω θ [GV] GV (YR acE)
def Ud (a0 a1 a2 a3 a4 a5:AV) (σ:Heap):aF:=(ψ 11 a1).bind λc1=>((ψ 2 a2).bind λcs=>δ (ZN cs)).bind λx2=>(Γ 2 c1).bind λx3=>(Γ 5 c1).bind λx4=>(VU 6 2 c1).bind λx5=>((((Ψ a3).bind λv=>δ [v]).bind λc6=>(ir 0 c6 [(ε 0),(ε 0),(ε 0),(ε 0),(ε 0),(ε 0),Zg]).bind λc7=>((Ψ a4).bind λv=>δ [v]).bind λc8=>(ir 1 c8 c7).bind λc9=>((Ψ a5).bind λv=>δ [v]).bind λeR=>(ir 2 eR c9).bind λfq=>((Ψ x3).bind λv=>δ [v]).bind λcZ=>(ir 3 cZ fq).bind λfU=>((Ψ x4).bind λv=>δ [v]).bind λia=>(ir 4 ia fU).bind λjj=>(ψ 2 x5).bind λjY=>(ir 5 jY jj).bind λlW=>δ lW).bind λcs=>δ (Φ cs)).bind λcQ=>(ψ 7 cQ).bind λiz=>(ir 0 iz [(ε 0),(ε 0),(ε 0),(ε 0),(ε 0),(ε 0),Zg]).bind λiH=>(ZP a0).bind λbL=>(WC 10 bL).bind λcI=>((χ cI σ).bind λgj=>Γ 0 gj).bind λx24=>((χ x2 σ).bind λiA=>VU 0 2 iA).bind λfH=>(Yt (.s [0,2]) x24 fH (Φ [bE,(ε 0),(ε 0),(ε 0),(ε 0),aR,Zg]) σ).bind λfB=>(ψ 7 fB).bind λme=>(ir 0 me [bE,(ε 0),(ε 0),(ε 0),(ε 0),aR,Zg]).bind λqC=>(Γ 1 qC).bind λef=>(ZA .i ef (ε 1)).bind λx31=>(φ x31 ((Γ 3 c1).bind λiN=>((Ψ iN).bind λv=>δ [v]).bind λuL=>(ir 4 uL iH).bind λkX=>(YY a4 a3).bind λiD=>(φ iD ((Γ 4 c1).bind λx38=>((Ψ x38).bind λv=>δ [v]).bind λoN=>(ir 4 oN kX).bind λoO=>δ ([(VD c1),(VD [(ε 0),(ε 0),(ε 0),(ε 0),(ε 0),(ε 0),Zg]),(VD oO),(VD qC)],σ)) (δ ([(VD c1),(VD [(ε 0),(ε 0),(ε 0),(ε 0),(ε 0),(ε 0),Zg]),(VD kX),(VD qC)],σ))).bind λlP=>δ ([(aj lP.1 0),(aj lP.1 1),(aj lP.1 2),(aj lP.1 3)],lP.2)) (δ ([(VD c1),(VD [(ε 0),(ε 0),(ε 0),(ε 0),(ε 0),(ε 0),Zg]),(VD iH),(VD qC)],σ))).bind λr32=>((Tv (aj r32.1 0)).bind λ_=>δ (10)).bind λp41=>((Tv (aj r32.1 0)).bind λoh=>Γ p41 oh).bind λgL=>(Li (Zw (λ_ _=>μ) [(349,IE)]) [gL,(AV.fn 349 [x2])] r32.2).bind λeG=>(YI eG.1 (ε 0)).bind λfE=>((Tv (aj r32.1 0)).bind λ_=>δ (10)).bind λIe=>(η fE θ ((Tv (aj r32.1 0)).bind λlX=>Γ Ie lX) au).bind λiO=>(η fE θ (δ eG.1) au).bind λgu=>(η fE θ (Zo 8 iO gu) au).bind λjg=>(η fE θ (WC 5 jg) au).bind λgM=>(η fE θ ((χ gM eG.2).bind λDX=>Γ 0 DX) au).bind λmq=>(UD fE mq aR).bind λkJ=>(φ kJ (((Tv (aj r32.1 0)).bind λ_=>δ (10)).bind λp56=>((Tv (aj r32.1 0)).bind λnE=>Γ p56 nE).bind λlF=>(Zo 8 lF eG.1).bind λi6=>(WC 6 i6).bind λkQ=>((χ kQ eG.2).bind λuM=>Γ 0 uM).bind λjh=>((Tv (aj r32.1 0)).bind λ_=>δ (10)).bind λp63=>((Tv (aj r32.1 0)).bind λDZ=>Γ p63 DZ).bind λoq=>(Zo 8 oq eG.1).bind λku=>(WC 7 ku).bind λpV=>((χ pV eG.2).bind λD0=>Γ 0 D0).bind λkC=>((Tv (aj r32.1 2)).bind λ_=>δ (3)).bind λp70=>(Tv (aj r32.1 2)).bind λD1=>((Ψ jh).bind λv=>δ [v]).bind λrR=>(ir p70 rR D1).bind λFH=>((Ψ kC).bind λv=>δ [v]).bind λOm=>(ir 4 Om FH).bind λHQ=>δ ([(aj r32.1 1),(VD HQ),(aj r32.1 3)],eG.2)) (δ ([(aj r32.1 1),(aj r32.1 2),(aj r32.1 3)],eG.2))).bind λAn=>((Tv (aj An.1 2)).bind λ_=>δ (5)).bind λp76=>((Tv (aj An.1 2)).bind λwM=>Γ p76 wM).bind λsY=>(φ sY (((Tv (aj An.1 1)).bind λ_=>δ (4)).bind λp80=>(Tv (aj An.1 1)).bind λD3=>((Ψ (ε 0)).bind λv=>δ [v]).bind λD2=>(ir p80 D2 D3).bind λyQ=>δ ([(aj An.1 0),(VD yQ)],An.2)) (δ ([(aj An.1 0),(aj An.1 1)],An.2))).bind λtZ=>((Tv (aj tZ.1 1)).bind λsM=>VU 0 7 sM).bind λqQ=>(zf [qQ] tZ.2).bind λBy=>(Tv (aj tZ.1 0)).bind λqE=>(ψ 7 By.1).bind λuN=>(ir 0 uN qE).bind λuO=>(VU 0 7 uO).bind λx90=>wh σ x90 By.2
def IP:aq->Heap->aF:=Ω ι [] GV (A.HF Ud)
def Lz (a0:AV) (a1:AV) (x5:AV) (a4:AV) (y0:AV) (y1:Nat) (y2:Nat) (x28:AV) (fH:AV):aq->Heap->Option (AX×aq×Heap):=λCJ s30=>(YY (aj CJ 1) x28).bind λx32=>φ x32 ((Zo 5 fH (aj CJ 1)).bind λiN=>((χ iN s30).bind λuL=>VU 0 5 uL).bind λgV=>(ψ 5 gV).bind λnD=>(ir 0 nD [(ε 0),bE,(ε 0),(ε 0),(ε 0)]).bind λlN=>(VU 0 2 lN).bind λx38=>(A.jX (.s [0,2]) (XP y1) x38 dz s30).bind λKH=>(ZP a0).bind λgn=>(WC 4 gn).bind λfD=>(WC 2 fD).bind λjB=>((χ jB KH).bind λsK=>Γ 0 sK).bind λgA=>(VU 0 2 lN).bind λfE=>(VU 2 2 lN).bind λiZ=>(Wi (LX [gA,fE,iZ] KH) KH).bind λjf=>(Yn 0 jf).bind λiO=>(Yn 1 jf).bind λgu=>(VU 0 2 lN).bind λjg=>(wj [x5,jg,y0] KH).bind λFW=>(Yn 0 FW.1).bind λgp=>(Yn 1 FW.1).bind λmq=>(ψ 9 gp).bind λFF=>(ir 0 FF [(ε 0),(ε 0),(ε 0),(ε 0),(ε 0),(ε 0),Zg,(ε 0),aR]).bind λtU=>(η mq θ (Γ 8 tU) au).bind λjC=>(η mq θ (Wk jC) au).bind λlQ=>(UD mq lQ aR).bind λlF=>(η lF θ (Γ 1 tU) au).bind λi6=>(η lF θ (δ iO) au).bind λkQ=>(η lF θ (ZA .i i6 kQ) au).bind λkn=>(UD lF kn aR).bind λjh=>φ jh ((VU 0 2 lN).bind λfK=>(VU 0 9 tU).bind λpG=>(A.jX (.s [0,2]) (XP y2) fK pG FW.2).bind λh65=>(WE (aj CJ 1) (ε 1)).bind λku=>δ (Xv,[(aj CJ 0),ku],h65)) ((φ mq ((VU 0 9 tU).bind λqO=>(EA [qO,y0] FW.2).bind λr69=>δ ([(aj CJ 0),(VD lN),r69.1],r69.2)) ((ZP a0).bind λlZ=>(WC 10 lZ).bind λsW=>((χ sW FW.2).bind λFH=>Γ 0 FH).bind λve=>(VU 0 2 lN).bind λqP=>(Yt (.s [0,2]) ve qP (Φ [bE,(ε 0),(ε 0),(ε 0),(ε 0),aR,Zg]) FW.2).bind λkK=>((ψ 7 kK).bind λHR=>Γ 1 HR).bind λzb=>(UP .i zb (ε 1)).bind λsY=>(φ sY ((VU 0 2 lN).bind λud=>(IF [a0,a1,ud,a4] FW.2).bind λr81=>(Yn 0 r81.1).bind λvf=>(Yn 1 r81.1).bind λue=>δ ([(aj CJ 0),(VD lN),vf],r81.2)) (δ ([(aj CJ 0),(VD lN),(ε 0)],FW.2))).bind λtZ=>δ ([(aj tZ.1 0),(aj tZ.1 1),(aj tZ.1 2)],tZ.2))).bind λpg=>((Tv (aj pg.1 1)).bind λ_=>δ (0)).bind λp84=>((Tv (aj pg.1 1)).bind λBj=>VU p84 2 Bj).bind λxg=>((Tv (aj pg.1 0)).bind λuN=>VU 0 11 uN).bind λwg=>((Tv (aj pg.1 1)).bind λ_=>δ (0)).bind λp89=>((Tv (aj pg.1 1)).bind λyR=>VU p89 2 yR).bind λx91=>(Wi (IP [a0,wg,x91,(aj pg.1 2),iO,y0] pg.2) pg.2).bind λtc=>(ZP a1).bind λx93=>(WC 1 x93).bind λqR=>((χ qR pg.2).bind λsN=>Γ 0 sN).bind λx96=>(((ψ 7 tc).bind λBl=>(ir 0 Bl [(ε 0),(ε 0),(ε 0),(ε 0),(ε 0),(ε 0),Zg,(ε 0),aR]).bind λqF=>((Ψ x96).bind λv=>δ [v]).bind λD4=>(ir 7 D4 qF).bind λDx=>((Ψ aR).bind λv=>δ [v]).bind λGX=>(ir 8 GX Dx).bind λNi=>δ Ni).bind λcs=>δ (Φ cs)).bind λAe=>(A.jX (.s [0,2]) (XP y2) xg Ae pg.2).bind λaAY=>(WE (aj CJ 1) (ε 1)).bind λxK=>δ (Xv,[(aj pg.1 0),xK],aAY))) (δ (Ξ 0,[(aj CJ 0),(aj CJ 1)],s30))
def Ue (a0 a1 a2 a3 a4:AV) (σ:Heap):aF:=(ZP a1).bind λx1=>(WC 0 x1).bind λx2=>((χ x2 σ).bind λc3=>Γ 0 c3).bind λx4=>(Zo 10 x4 a2).bind λx5=>(ZP x5).bind λx6=>(WC 5 x6).bind λx7=>((χ x7 σ).bind λc8=>Γ 0 c8).bind λx9=>(Zo 11 x9 a3).bind λbl=>((χ bl σ).bind λfq=>VU 0 11 fq).bind λbR=>(ψ 11 bR).bind λfU=>(ir 0 fU [(ε 0),bE,(ε 0),(ε 0),(ε 0),(ε 0),(ε 0),Zg,aR,(ε 0),Zg]).bind λia=>(ZP x5).bind λcN=>(WC 0 cN).bind λbO=>((χ bO σ).bind λlW=>VU 0 3 lW).bind λcQ=>(Av [cQ,a4] σ).bind λkN=>(ZP x5).bind λcS=>(WC 5 cS).bind λbL=>((χ bL kN.2).bind λiL=>Γ 0 iL).bind λep=>(Γ 0 ia).bind λx24=>(Wi (Qr [ep,x24] kN.2) kN.2).bind λx25=>(Yn 0 x25).bind λfH=>(Yn 1 x25).bind λfB=>(UY fH).bind λx28=>(Y7 (Lz a0 a1 x5 a4 kN.1 ((kN.2++[Z0 []]).length) kN.2.length x28 fH) [(VD ia),(ε 0)] ((kN.2++[Z0 []])++[Z0 []])).bind λAb=>bif Ab.1==Ξ 0 then((ZP x5).bind λBe=>(WC 9 Be).bind λDO=>((χ DO Ab.2.2).bind λav4=>Γ 0 av4).bind λvL=>(A.zC vL).bind λavg=>A.Dn (λCr aye adm=>A.xA (Yy Ab.2.2.length 0) aye λx115 Zm=>(Yn 0 x115).bind λDQ=>φ DQ ((A.zz (Yy Ab.2.2.length 0) Zm).bind λHx=>(Yn 0 Hx).bind λZt=>(ψ 2 Zt).bind λYr=>(ir 0 Yr [(ε 0),bE]).bind λAY=>(VU 0 2 AY).bind λHy=>(wj [x5,Hy,kN.1] Zm).bind λtT=>(Yn 0 tT.1).bind λN6=>(Yn 1 tT.1).bind λCs=>(ψ 9 N6).bind λGZ=>(ir 0 GZ [(ε 0),(ε 0),(ε 0),(ε 0),(ε 0),(ε 0),Zg,(ε 0),aR]).bind λzR=>(Wk Cs).bind λKz=>(η Kz ι (δ (XP (kN.2++[Z0 []]).length)) au).bind λwG=>(η Kz ι (VU 0 2 AY) au).bind λDR=>(η Kz ι (Yt (.s [0,2]) wG DR aR tT.2) au).bind λN7=>(UD Kz dz N7).bind λyJ=>(η yJ ι (δ a0) au).bind λN8=>(η yJ ι (ZP N8) au).bind λN9=>(η yJ ι (WC 10 N9) au).bind λHz=>(η yJ ι ((χ Hz tT.2).bind λYA=>Γ 0 YA) au).bind λHA=>(η yJ ι (VU 0 2 AY) au).bind λHB=>(η yJ ι (Yt (.s [0,2]) HA HB (Φ [bE,(ε 0),(ε 0),(ε 0),(ε 0),aR,Zg]) tT.2) au).bind λaAp=>(η yJ ι ((ψ 7 aAp).bind λYB=>Γ 1 YB) au).bind λOc=>(η yJ ι (UP .i Oc (ε 1)) au).bind λaBR=>(UD yJ dz aBR).bind λDS=>φ DS (adm (Xv,[(aj Cr 0)],tT.2)) ((Γ 8 zR).bind λOd=>(Wk Od).bind λOe=>(φ Oe ((VU 0 9 zR).bind λOf=>(Wi (EA [Of,kN.1] tT.2) tT.2).bind λayk=>((Tv (aj Cr 0)).bind λ_=>δ (2)).bind λaxT=>((Tv (aj Cr 0)).bind λNt=>Γ axT Nt).bind λx151=>((Tv (aj Cr 0)).bind λ_=>δ (4)).bind λaxU=>((Tv (aj Cr 0)).bind λG3=>Γ axU G3).bind λZy=>((Tv (aj Cr 0)).bind λ_=>δ (6)).bind λaxV=>((Tv (aj Cr 0)).bind λawh=>VU axV 2 awh).bind λx157=>((((Ψ ayk).bind λv=>δ [v]).bind λFb=>(ir 0 Fb [(ε 0),(ε 0),(ε 0),(ε 0),(ε 0),(ε 0),Zg]).bind λNv=>((Ψ kN.1).bind λv=>δ [v]).bind λNw=>(ir 2 Nw Nv).bind λNx=>((Ψ x151).bind λv=>δ [v]).bind λaBC=>(ir 3 aBC Nx).bind λNy=>((Ψ Zy).bind λv=>δ [v]).bind λaA6=>(ir 4 aA6 Ny).bind λNz=>(ψ 2 x157).bind λG4=>(ir 5 G4 Nz).bind λDz=>δ Dz).bind λcs=>δ (Φ cs)).bind λx168=>(ψ 7 x168).bind λawj=>(ir 0 awj [(ε 0),(ε 0),(ε 0),(ε 0),(ε 0),(ε 0),Zg]).bind λawk=>(VU 0 7 awk).bind λayr=>(Wi (zf [ayr] tT.2) tT.2).bind λaB7=>(ZP a1).bind λays=>(WC 1 ays).bind λaAJ=>((χ aAJ tT.2).bind λNA=>Γ 0 NA).bind λaA4=>(((ψ 7 aB7).bind λawm=>(ir 0 awm [(ε 0),(ε 0),(ε 0),(ε 0),(ε 0),(ε 0),Zg,(ε 0),aR]).bind λaAI=>((Ψ aA4).bind λv=>δ [v]).bind λawn=>(ir 7 awn aAI).bind λawo=>((Ψ dz).bind λv=>δ [v]).bind λawp=>(ir 8 awp awo).bind λawq=>δ awq).bind λcs=>δ (Φ cs)).bind λZE=>(ψ 9 ZE).bind λYH=>(ir 0 YH zR).bind λawr=>δ ([(aj Cr 0),(VD AY),(VD awr)],tT.2)) (δ ([(aj Cr 0),(VD AY),(VD zR)],tT.2))).bind λyF=>((Tv (aj yF.1 1)).bind λaws=>VU 0 2 aws).bind λayB=>((Tv (aj yF.1 2)).bind λawu=>VU 0 9 awu).bind λayD=>(A.jX (.s [0,2]) (XP kN.2.length) ayB ayD yF.2).bind λaCm=>adm (Xv,[(aj yF.1 0)],aCm))) (adm (Ξ 2,[(aj Cr 0)],Zm))) [(aj Ab.2.1 0)] (Ab.2.2++[aW.it [] avg]) λKv=>bif Kv.1==Ξ 2 then(((((Ψ kN.1).bind λv=>δ [v]).bind λG5=>(ir 0 G5 [(ε 0),(ε 0),aR]).bind λG6=>((Ψ a4).bind λv=>δ [v]).bind λG7=>(ir 1 G7 G6).bind λNB=>((Ψ aR).bind λv=>δ [v]).bind λNC=>(ir 2 NC NB).bind λND=>δ ND).bind λcs=>δ (Φ cs)).bind λayH=>(ZP x5).bind λayI=>(WC 0 ayI).bind λaBn=>(ψ 3 ayH).bind λawz=>(XZ aBn awz Kv.2.2).bind λaCd=>(ZP x5).bind λZG=>(WC 6 ZG).bind λZH=>((Ψ a3).bind λv=>δ [v]).bind λawA=>(XZ ZH awA aCd).bind λawB=>(ZP x5).bind λayM=>(WC 9 ayM).bind λayN=>((Ψ (XP kN.2.length)).bind λv=>δ [v]).bind λawD=>(XZ ayN awD awB).bind λawE=>(ZP x5).bind λZI=>(WC 8 ZI).bind λayP=>((Ψ (ε (-1))).bind λv=>δ [v]).bind λawG=>(XZ ayP awG awE).bind λaAy=>((Tv (aj Kv.2.1 0)).bind λ_=>δ (9)).bind λaxX=>((Tv (aj Kv.2.1 0)).bind λawH=>Γ axX awH).bind λaBj=>(YI aBj (ε 0)).bind λDT=>(η DT θ (δ a3) au).bind λZK=>(η DT θ (WE ZK (ε 1)) au).bind λZL=>(η DT θ (δ x5) au).bind λaCi=>(η DT θ (ZP aCi) au).bind λaBa=>(η DT θ (WC 5 aBa) au).bind λayT=>(η DT θ ((χ ayT aAy).bind λYL=>Γ 0 YL) au).bind λZO=>(η DT θ (UY ZO) au).bind λaAg=>(η DT θ (YY ZL aAg) au).bind λaCQ=>(UD DT aCQ aR).bind λayV=>(φ ayV (((Tv (aj Kv.2.1 0)).bind λ_=>δ (9)).bind λaxY=>((Tv (aj Kv.2.1 0)).bind λawM=>Γ axY awM).bind λayX=>(WE kN.1 ayX).bind λZR=>(ZP x5).bind λayY=>(WC 8 ayY).bind λZS=>((Ψ ZR).bind λv=>δ [v]).bind λYM=>(XZ ZS YM aAy).bind λawN=>δ (([]:aq),awN)) (δ (([]:aq),aAy))).bind λax5=>A.DD σ (Yu []) ax5.2)else μ)else μ
def xW:aq->Heap->aF:=Ω ι [] .k (A.HE Ue)
def Lx (a1:AV) (y0:Nat) (cS:AV):aq->Heap->Option (AX×aq×Heap):=λv21 Io =>(YY (aj v21 3) cS).bind λx24=>φ x24 ((WC 0 (Yy y0 0)).bind λx25=>((χ x25 Io).bind λjv=>Γ 0 jv).bind λfB=>(Zo 10 fB (aj v21 3)).bind λx28=>(Ez [x28] Io).bind λnW=>(YI nW.1 (ε 0)).bind λef=>(η ef θ (δ nW.1) au).bind λx31=>(η ef θ (δ a1) au).bind λx32=>(η ef θ (Ze x31 x32) au).bind λiN=>(UD ef iN aR).bind λx34=>(η x34 θ (δ (aj v21 1)) au).bind λgV=>(η x34 θ (YY gV (ε 0)) au).bind λiD=>(η x34 θ (δ iD) au).bind λfI=>(η fI ι (δ nW.1) au).bind λx38=>(η fI ι (δ (aj v21 2)) au).bind λiu=>(η fI ι (YY x38 iu) au).bind λgn=>(η x34 θ (UD fI dz gn) au).bind λfD=>(UD x34 fD aR).bind λjB=>(φ jB (δ ([(aj v21 0),(aj v21 3),nW.1],nW.2)) (δ ([(aj v21 0),(aj v21 1),(aj v21 2)],nW.2))).bind λsU=>(WE (aj v21 3) (ε 1)).bind λgA=>δ (Xv,[(aj sU.1 0),(aj sU.1 1),(aj sU.1 2),gA],sU.2)) (δ (Ξ 2,[(aj v21 0),(aj v21 1),(aj v21 2),(aj v21 3)],Io))
def Lw (a0:AV) (a1:AV) (y0:Nat):aq->Heap->Option (AX×aq×Heap):=λv14 Lc=>(WC 0 (Yy y0 0)).bind λcg=>((χ cg Lc).bind λig=>Γ 0 ig).bind λdZ=>(UY dZ).bind λcS=>(Y7 (Lx a1 y0 cS) [(aj v14 0),(ε (-1)),(ε 0),(ε 0)] Lc).bind λuU=>bif uU.1==Ξ 2 then((YY (aj uU.2.1 1) (ε 0)).bind λiZ=>φ iZ (((χ (Yy y0 0) uU.2.2).bind λlX=>VU 0 4 lX).bind λiO=>(Tv (aj uU.2.1 0)).bind λyN=>(ψ 4 iO).bind λBh=>(ir 0 Bh yN).bind λsL=>δ (YP,[(VD sL)],uU.2.2)) ((WC 1 (Yy y0 0)).bind λgp=>((χ gp uU.2.2).bind λyO=>Γ 0 yO).bind λkJ=>(WE kJ (ε 1)).bind λkV=>(WC 1 (Yy y0 0)).bind λjC=>((Ψ kV).bind λv=>δ [v]).bind λnE=>(XZ jC nE uU.2.2).bind λpO=>(WC 0 (Yy y0 0)).bind λi6=>((χ i6 pO).bind λxM=>Γ 0 xM).bind λkn=>(Zo 10 kn (aj uU.2.1 1)).bind λjh=>(WC 6 jh).bind λfK=>((χ fK pO).bind λDZ=>Γ 0 DZ).bind λoq=>(WE oq (ε 1)).bind λku=>(xW [a0,(Yy y0 0),(aj uU.2.1 1),ku,(aj uU.2.1 2)] pO).bind λpg=>δ (Xv,[(aj uU.2.1 0)],pg.2)))else μ
def PZ (a0 a1:AV) (σ:Heap):aF:=(ZP a0).bind λx1=>(WC 0 x1).bind λx2=>((χ x2 σ).bind λc3=>VU 0 4 c3).bind λx4=>(ψ 4 x4).bind λc5=>(XZ (Yy σ.length 0) c5 (σ++[Vs [Zg,(ε 0),(ε 0),aR]])).bind λc6=>(WC 0 (Yy σ.length 0)).bind λx7=>((χ x7 c6).bind λc8=>Γ 0 c8).bind λx9=>(Iz [x9] c6).bind λgR=>(WC 0 (Yy σ.length 0)).bind λbT=>((Ψ gR.1).bind λv=>δ [v]).bind λcZ=>(XZ bT cZ gR.2).bind λfU=>(Y7 (Lw a0 a1 σ.length) [(VD [Zg,(ε 0),(ε 0),aR])] fU).bind λEm=>bif Em.1==YP then(((Tv (aj Em.2.1 0)).bind λFG=>VU 0 4 FG).bind λkC=>δ (kC,Em.2.2))else μ
def Ey:aq->Heap->aF:=Ω ι [] .k (Xw PZ)
def aau (a0 a1:AV) (σ:Heap):aF:=(ψ 10 a0).bind λc1=>(Γ 3 c1).bind λx2=>(WC 2 a1).bind λx3=>((χ x3 σ).bind λc4=>Γ 0 c4).bind λx5=>(ZA .i x2 x5).bind λx6=>wh σ x6 σ
def Ew:aq->Heap->aF:=Ω θ [(.a [.k,.k,.k,.k,.k,(.s 11),.k,.k,.k,.k])] .k (Xw aau)
def aav (a0 a1:AV) (σ:Heap):aF:=(ψ 11 a0).bind λc1=>(Γ 0 c1).bind λx2=>(WC 3 a1).bind λx3=>((χ x3 σ).bind λc4=>Γ 0 c4).bind λx5=>(ZA .i x2 x5).bind λx6=>wh σ x6 σ
def Ex:aq->Heap->aF:=Ω θ [(.a nC)] .k (Xw aav)
def TK (a0 a1 a2 a3:AV) (σ:Heap):aF:=(ψ 5 a3).bind λc1=>(ZP a2).bind λx2=>(WC 0 x2).bind λx3=>((χ x3 σ).bind λc4=>VU 0 3 c4).bind λx5=>(Γ 0 c1).bind λx6=>(Wi (Av [x5,x6] σ) σ).bind λx7=>(ZP a2).bind λx8=>(WC 9 x8).bind λx9=>((χ x9 (σ++[Z0 []])).bind λeR=>Γ 0 eR).bind λbT=>(A.zC bT).bind λaw2=>A.Dn (λuY Bz k15=>A.xA (Yy (σ++[Z0 []]).length 0) Bz λbO pE=>(Yn 0 bO).bind λcQ=>φ cQ ((A.zz (Yy (σ++[Z0 []]).length 0) pE).bind λdZ=>(Yn 0 dZ).bind λcS=>(ψ 2 cS).bind λij=>(ir 0 ij [(ε 0),bE]).bind λiL=>(VU 0 2 iL).bind λep=>(wj [a2,ep,x7] pE).bind λkO=>(Yn 0 kO.1).bind λx25=>(Yn 1 kO.1).bind λfH=>(ψ 9 x25).bind λkU=>(ir 0 kU [(ε 0),(ε 0),(ε 0),(ε 0),(ε 0),(ε 0),Zg,(ε 0),aR]).bind λme=>(Wk fH).bind λx29=>(η x29 ι (δ a0) au).bind λef=>(η x29 ι (ZP ef) au).bind λx31=>(η x29 ι (WC 10 x31) au).bind λx32=>(η x29 ι ((χ x32 kO.2).bind λwL=>Γ 0 wL) au).bind λx34=>(η x29 ι (VU 0 2 iL) au).bind λgV=>(η x29 ι (Yt (.s [0,2]) x34 gV (Φ [bE,(ε 0),(ε 0),(ε 0),(ε 0),aR,Zg]) kO.2) au).bind λiD=>(η x29 ι ((ψ 7 iD).bind λlN=>Γ 1 lN) au).bind λx38=>(η x29 ι (UP .i x38 (ε 1)) au).bind λiu=>(UD x29 dz iu).bind λgn=>φ gn (k15 (Xv,[(aj uY 0)],kO.2)) ((VU 0 2 iL).bind λfD=>(VU 0 9 me).bind λjB=>(Wi (EA [jB,x7] kO.2) kO.2).bind λgL=>((Tv (aj uY 0)).bind λ_=>δ (4)).bind λp44=>((Tv (aj uY 0)).bind λBg=>Γ p44 Bg).bind λiZ=>((((Ψ (ε 1)).bind λv=>δ [v]).bind λlX=>(ir 0 lX [(ε 0),Zg]).bind λDW=>δ DW).bind λcs=>δ (Φ cs)).bind λgu=>((((Ψ gL).bind λv=>δ [v]).bind λsL=>(ir 0 sL [(ε 0),(ε 0),(ε 0),(ε 0),(ε 0),(ε 0),Zg]).bind λyN=>((Ψ x7).bind λv=>δ [v]).bind λDX=>(ir 2 DX yN).bind λyO=>((Ψ iZ).bind λv=>δ [v]).bind λFF=>(ir 4 FF yO).bind λtU=>(ψ 2 gu).bind λyP=>(ir 5 yP tU).bind λnE=>δ nE).bind λcs=>δ (Φ cs)).bind λlF=>(Wi (zf [lF] kO.2) kO.2).bind λi6=>(ZP a1).bind λkQ=>(WC 1 kQ).bind λkn=>((χ kn kO.2).bind λZV=>Γ 0 ZV).bind λfK=>(((ψ 7 i6).bind λDZ=>(ir 0 DZ [(ε 0),(ε 0),(ε 0),(ε 0),(ε 0),(ε 0),Zg,(ε 0),aR]).bind λHM=>((Ψ fK).bind λv=>δ [v]).bind λaCx=>(ir 7 aCx HM).bind λHN=>((Ψ dz).bind λv=>δ [v]).bind λD0=>(ir 8 D0 HN).bind λHO=>δ HO).bind λcs=>δ (Φ cs)).bind λlZ=>(A.jX (.s [0,2]) (XP σ.length) fD lZ kO.2).bind λSO=>k15 (Xv,[(aj uY 0)],SO))) (k15 (Ξ 0,[(aj uY 0)],pE))) [(VD c1)] ((σ++[Z0 []])++[aW.it [] aw2]) λTa=>bif Ta.1==Ξ 0 then(((Tv (aj Ta.2.1 0)).bind λ_=>δ (0)).bind λp73=>((Tv (aj Ta.2.1 0)).bind λOm=>Γ p73 Om).bind λkK=>((((Ψ x7).bind λv=>δ [v]).bind λHR=>(ir 0 HR [(ε 0),(ε 0),aR]).bind λwM=>((Ψ kK).bind λv=>δ [v]).bind λBi=>(ir 1 Bi wM).bind λOn=>((Ψ aR).bind λv=>δ [v]).bind λAf=>(ir 2 Af On).bind λD2=>δ D2).bind λcs=>δ (Φ cs)).bind λvf=>(ZP a2).bind λue=>(WC 0 ue).bind λuf=>(ψ 3 vf).bind λBj=>(XZ uf Bj Ta.2.2).bind λBk=>(ZP a2).bind λnh=>(WC 6 nh).bind λwg=>((Ψ (ε (-1))).bind λv=>δ [v]).bind λqE=>(XZ wg qE Bk).bind λyR=>(ZP a2).bind λx91=>(WC 8 x91).bind λtc=>((Ψ (ε (-1))).bind λv=>δ [v]).bind λAh=>(XZ tc Ah yR).bind λwN=>(ZP a2).bind λx95=>(WC 9 x95).bind λx96=>((Ψ (XP σ.length)).bind λv=>δ [v]).bind λBl=>(XZ x96 Bl wN).bind λqF=>A.DD σ (Yu []) qF)else μ
def LA:aq->Heap->aF:=Ω ι [] .k (A.yM TK)
def aaH (a0 a1:AV) (σ:Heap):aF:=(LU [a1] σ).bind λr1=>(Wk r1.1).bind λx2=>(ug [x2,(ε 1)] r1.2).bind λr3=>(IN [a0] r3.2).bind λr4=>(YY a1 r4.1).bind λx5=>(ug [x5,(ε 7)] r4.2).bind λr6=>((((Ψ r3.1).bind λv=>δ [v]).bind λc7=>(ir 0 c7 [(ε 0),(ε 0)]).bind λc8=>((Ψ r6.1).bind λv=>δ [v]).bind λc9=>(ir 1 c9 c8).bind λeR=>δ eR).bind λcs=>δ (Yh 1 (iP 1 2 cs))).bind λbT=>(ze [bT] r6.2).bind λiM=>wh σ iM.1 iM.2
def F9:aq->Heap->aF:=Ω θ [(.p HC)] .k (Xw aaH)
def aaD (a0 a1 a2 a3:AV) (σ:Heap):aF:=(ψ 2 a2).bind λc1=>(VU 0 2 c1).bind λx2=>(IF [a0,a1,x2,a3] σ).bind λr3=>(Yn 0 r3.1).bind λx4=>(Yn 1 r3.1).bind λx5=>(ZP a0).bind λx6=>(WC 10 x6).bind λx7=>((χ x7 r3.2).bind λc8=>Γ 0 c8).bind λx9=>(VU 0 2 c1).bind λbl=>(Yt (.s [0,2]) x9 bl (Φ [bE,(ε 0),(ε 0),(ε 0),(ε 0),aR,Zg]) r3.2).bind λbT=>((ψ 7 bT).bind λcZ=>Γ 1 cZ).bind λbZ=>(UP .i bZ (ε 1)).bind λbW=>φ bW (wh σ x4 r3.2) ((ZP a1).bind λcN=>(WC 3 cN).bind λbO=>((χ bO r3.2).bind λlW=>Γ 0 lW).bind λcQ=>φ cQ (wh σ (ε 0) r3.2) ((ZP a1).bind λdZ=>(WC 2 dZ).bind λcS=>((χ cS r3.2).bind λij=>Γ 0 ij).bind λcI=>(LR [x4,cI] r3.2).bind λmY=>(Yn 0 mY.1).bind λx24=>(Yn 1 mY.1).bind λx25=>wh σ x24 mY.2))
def LC:aq->Heap->aF:=Ω θ [(.p HC),(.p [(.s 10),.k,.k,.k])] .k (A.yM aaD)
def Ls (a0:AV) (a1:AV) (y0:Nat) (x9:AV) (bl:AV):aq->Heap->Option (AX×aq×Heap):=λv11 mm=>(YY (aj v11 1) bl).bind λbW=>φ bW ((Zo 2 x9 (aj v11 1)).bind λcN=>((χ cN mm).bind λjY=>VU 0 2 jY).bind λcg=>(ψ 2 cg).bind λig=>(ir 0 ig [(ε 0),bE]).bind λiz=>(VU 0 2 iz).bind λcS=>(VU 0 2 iz).bind λbL=>(Wi (LC [a0,(Yy y0 0),bL,a1] mm) mm).bind λcI=>(((ψ 2 cS).bind λgj=>(ir 0 gj [(ε 0),bE,(ε 0)]).bind λfW=>((Ψ cI).bind λv=>δ [v]).bind λiA=>(ir 2 iA fW).bind λjv=>δ jv).bind λcs=>δ (Φ cs)).bind λfB=>(((ψ 3 fB).bind λme=>(ir 0 me [(ε 0),bE,(ε 0)]).bind λqC=>δ qC).bind λcs=>δ (Yh 3 (iP 3 1 cs))).bind λef=>(WK 3 (140737488355328 / 32) (aj v11 0) ef mm).bind λpe=>(WE (aj v11 1) (ε 1)).bind λx32=>δ (Xv,[pe.1,x32],pe.2)) (δ (Ξ 0,[(aj v11 0),(aj v11 1)],mm))
def PT (a0 a1:AV) (σ:Heap):aF:=(F9 [a0,a1] σ).bind λr1=>(UP .i r1.1 (ε 0)).bind λx2=>φ x2 (δ ((Yu [Zg,r1.1]),r1.2)) ((Ey [a0,a1] r1.2).bind λr3=>(ψ 4 r3.1).bind λc4=>(XZ (Yy r3.2.length 0) c4 (r3.2++[Vs [Zg,(ε 0),(ε 0),aR]])).bind λc5=>(ZP a0).bind λx6=>(WC 9 x6).bind λx7=>((χ x7 c5).bind λc8=>Γ 0 c8).bind λx9=>(UY x9).bind λbl=>(Y7 (Ls a0 a1 r3.2.length x9 bl) [Zg,(ε 0)] c5).bind λkY=>bif kY.1==Ξ 0 then(δ ((Yu [(aj kY.2.1 0),(ε 0)]),kY.2.2))else μ)
def aCq:aq->Heap->aF:=Ω ι [] .k (Xw PT)
def P4 (DQ:AV):aq->Heap->Option (AX×aq×Heap):=λAd FC =>(YY (aj Ad 3) DQ).bind λN5=>φ N5 (((Tv (aj Ad 2)).bind λ_=>δ (1)).bind λaxP=>((Tv (aj Ad 2)).bind λNn=>Γ axP Nn).bind λN6=>(Zo 11 N6 (aj Ad 3)).bind λCs=>(ZP Cs).bind λZu=>(WC 10 Zu).bind λZv=>((χ Zv FC).bind λDy=>Γ 0 Dy).bind λwG=>(Wi ((A.nS (.s 8) ar1) [wG] FC) FC).bind λDR=>(ZP Cs).bind λN7=>(WC 6 N7).bind λyJ=>(WC 1 yJ).bind λN8=>((χ N8 FC).bind λNp=>Γ 0 Np).bind λHz=>(Wi ((A.nS (.s 2) F5) [Hz] FC) FC).bind λOa=>(ZP Cs).bind λHA=>(WC 10 HA).bind λHB=>((Ψ DR).bind λv=>δ [v]).bind λNq=>(XZ HB Nq FC).bind λYB=>(ZP Cs).bind λOc=>(WC 6 Oc).bind λaBR=>(WC 1 aBR).bind λDS=>((Ψ Oa).bind λv=>δ [v]).bind λawd=>(XZ DS awd YB).bind λawe=>(WE (aj Ad 3) (ε 1)).bind λayj=>δ (Xv,[(aj Ad 0),(aj Ad 1),(aj Ad 2),ayj],awe)) (δ (Ξ 8,[(aj Ad 0),(aj Ad 1),(aj Ad 2),(aj Ad 3)],FC))
def IM (x101:AV) (x102:AV):aq->Heap->Option (AX×aq×Heap):=λFD Zl =>(YY (aj FD 2) x102).bind λBd=>φ Bd ((Zo 2 x101 (aj FD 2)).bind λBe=>((χ Be Zl).bind λav3=>VU 0 2 av3).bind λDP=>(ψ 2 DP).bind λav5=>(ir 0 av5 [(ε 0),Zg]).bind λKh=>(Γ 1 Kh).bind λx112=>(PE [x112] Zl).bind λNY=>((Ψ NY.1).bind λv=>δ [v]).bind λav8=>(ir 1 av8 Kh).bind λSu=>(Γ 1 Su).bind λaA3=>(UY aA3).bind λDQ=>(Y7 (P4 DQ) [(aj FD 0),(aj FD 1),(VD Su),(ε 0)] NY.2).bind λFy=>bif Fy.1==Ξ 8 then(((Tv (aj Fy.2.1 1)).bind λ_=>δ (3)).bind λaxS=>((Tv (aj Fy.2.1 1)).bind λNs=>Γ axS Ns).bind λx150=>((Tv (aj Fy.2.1 2)).bind λNu=>VU 0 2 Nu).bind λx152=>(((ψ 2 x152).bind λG3=>(ir 0 G3 [(ε 0),Zg]).bind λawg=>δ awg).bind λcs=>δ (Yh 2 (iP 2 1 cs))).bind λaAr=>(WK 2 (140737488355328 / 32) x150 aAr Fy.2.2).bind λaia=>((Tv (aj Fy.2.1 1)).bind λ_=>δ (3)).bind λaxW=>(Tv (aj Fy.2.1 1)).bind λNw=>((Ψ aia.1).bind λv=>δ [v]).bind λFb=>(ir axW Fb Nw).bind λNv=>(WE (aj FD 2) (ε 1)).bind λaym=>δ (Xv,[(aj Fy.2.1 0),(VD Nv),aym],aia.2))else μ) (δ (Ξ 6,[(aj FD 0),(aj FD 1),(aj FD 2)],Zl))
def IL (lZ:AV) (sW:AV):aq->Heap->Option (AX×aq×Heap):=λv72 Iq=>(YY (aj v72 3) sW).bind λkK=>φ kK ((Zo 3 lZ (aj v72 3)).bind λnX=>((χ nX Iq).bind λwM=>VU 0 3 wM).bind λsY=>(ψ 3 sY).bind λOn=>(ir 0 On [(ε 0),bE,Zg]).bind λAf=>(Γ 2 Af).bind λw8=>((A.nS (.s 3) Tp) [w8] Iq).bind λr82=>((Ψ r82.1).bind λv=>δ [v]).bind λD3=>(ir 2 D3 Af).bind λsM=>((Tv (aj v72 2)).bind λ_=>δ (2)).bind λp85=>((Tv (aj v72 2)).bind λBk=>Γ p85 Bk).bind λnh=>(VU 0 3 sM).bind λwg=>(((ψ 3 wg).bind λqE=>(ir 0 qE [(ε 0),bE,Zg]).bind λyR=>δ yR).bind λcs=>δ (Yh 3 (iP 3 1 cs))).bind λx91=>(WK 3 (140737488355328 / 48) nh x91 r82.2).bind λr92=>((Tv (aj v72 2)).bind λ_=>δ (2)).bind λp93=>(Tv (aj v72 2)).bind λc96=>((Ψ r92.1).bind λv=>δ [v]).bind λwN=>(ir p93 wN c96).bind λsN=>(WE (aj v72 3) (ε 1)).bind λCK=>δ (Xv,[(aj v72 0),(aj v72 1),(VD sN),CK],r92.2)) (δ (Ξ 4,[(aj v72 0),(aj v72 1),(aj v72 2),(aj v72 3)],Iq))
def P3 (x29:AV):aq->Heap->Option (AX×aq×Heap):=λv30 O1=>(YY (aj v30 4) x29).bind λiN=>φ iN (((Tv (aj v30 3)).bind λ_=>δ (2)).bind λp34=>((Tv (aj v30 3)).bind λkX=>Γ p34 kX).bind λiD=>((Tv (aj v30 3)).bind λ_=>δ (2)).bind λp37=>((Tv (aj v30 3)).bind λmU=>Γ p37 mU).bind λiu=>(Zo 7 iu (aj v30 4)).bind λgn=>(WC 6 gn).bind λfD=>((χ fD O1).bind λoh=>Γ 0 oh).bind λgL=>(Wi ((A.nS (.s 3) as0) [gL] O1) O1).bind λgA=>(Zo 7 iD (aj v30 4)).bind λfE=>(WC 6 fE).bind λiZ=>((Ψ gA).bind λv=>δ [v]).bind λlX=>(XZ iZ lX O1).bind λDW=>(WE (aj v30 4) (ε 1)).bind λgu=>δ (Xv,[(aj v30 0),(aj v30 1),(aj v30 2),(aj v30 3),gu],DW)) (δ (Ξ 2,[(aj v30 0),(aj v30 1),(aj v30 2),(aj v30 3),(aj v30 4)],O1))
def IK (bZ:AV) (bW:AV):aq->Heap->Option (AX×aq×Heap):=λmo wZ=>(YY (aj mo 3) bW).bind λcQ=>φ cQ ((Zo 3 bZ (aj mo 3)).bind λdZ=>((χ dZ wZ).bind λiH=>VU 0 3 iH).bind λbL=>(ψ 3 bL).bind λiL=>(ir 0 iL [bE,(ε 0),Zg]).bind λgj=>(Γ 2 gj).bind λx24=>(Tr [x24] wZ).bind λoW=>((Ψ oW.1).bind λv=>δ [v]).bind λjv=>(ir 2 jv gj).bind λkU=>(Γ 2 kU).bind λx28=>(UY x28).bind λx29=>(Y7 (P3 x29) [(aj mo 0),(aj mo 1),(aj mo 2),(VD kU),(ε 0)] oW.2).bind λkI=>bif kI.1==Ξ 2 then(((Tv (aj kI.2.1 2)).bind λ_=>δ (0)).bind λp51=>((Tv (aj kI.2.1 2)).bind λ_=>δ (p51)).bind λp52=>((Tv (aj kI.2.1 2)).bind λyO=>Γ p52 yO).bind λkJ=>((Tv (aj kI.2.1 3)).bind λtU=>VU 0 3 tU).bind λjC=>(((ψ 3 jC).bind λnE=>(ir 0 nE [bE,(ε 0),Zg]).bind λpO=>δ pO).bind λcs=>δ (Yh 3 (iP 3 1 cs))).bind λi6=>(WK 3 (140737488355328 / 48) kJ i6 kI.2.2).bind λLa=>((Tv (aj kI.2.1 2)).bind λ_=>δ (0)).bind λp61=>((Tv (aj kI.2.1 2)).bind λ_=>δ (p61)).bind λp62=>(Tv (aj kI.2.1 2)).bind λHM=>((Ψ La.1).bind λv=>δ [v]).bind λOl=>(ir p62 Ol HM).bind λDZ=>(WE (aj mo 3) (ε 1)).bind λku=>δ (Xv,[(aj kI.2.1 0),(aj kI.2.1 1),(VD DZ),ku],La.2))else μ) (δ (Ξ 0,[(aj mo 0),(aj mo 1),(aj mo 2),(aj mo 3)],wZ))
def aCz (a0:AV) (σ:Heap):aF:=(ψ 5 a0).bind λc1=>(Γ 4 c1).bind λx2=>((A.nS (.s 3) Tn) [x2] σ).bind λr3=>((((Ψ r3.1).bind λv=>δ [v]).bind λc4=>(ir 4 c4 Dt).bind λc5=>δ c5).bind λcs=>δ (Φ cs)).bind λx6=>(ψ 5 x6).bind λc7=>(ir 0 c7 Dt).bind λc8=>(Γ 1 c1).bind λx9=>((A.nS (.s 4) aAD) [x9] r3.2).bind λgR=>((Ψ gR.1).bind λv=>δ [v]).bind λfq=>(ir 1 fq c8).bind λcZ=>(Γ 0 c1).bind λbZ=>(UY bZ).bind λbW=>(Y7 (IK bZ bW) [(VD c1),(VD Dt),(VD cZ),(ε 0)] gR.2).bind λpg=>bif pg.1==Ξ 0 then(((Tv (aj pg.2.1 0)).bind λ_=>δ (2)).bind λp68=>((Tv (aj pg.2.1 0)).bind λHO=>Γ p68 HO).bind λlZ=>(UY lZ).bind λsW=>(Y7 (IL lZ sW) [(aj pg.2.1 0),(aj pg.2.1 1),(aj pg.2.1 2),(ε 0)] pg.2.2).bind λCG=>bif CG.1==Ξ 4 then(((Tv (aj CG.2.1 0)).bind λ_=>δ (3)).bind λp99=>((Tv (aj CG.2.1 0)).bind λDx=>Γ p99 Dx).bind λx101=>(UY x101).bind λx102=>(Y7 (IM x101 x102) [(aj CG.2.1 1),(aj CG.2.1 2),(ε 0)] CG.2.2).bind λSI=>bif SI.1==Ξ 6 then(((Tv (aj SI.2.1 1)).bind λNy=>VU 0 5 Ny).bind λaz7=>(Tv (aj SI.2.1 0)).bind λDz=>(ψ 5 az7).bind λNz=>(ir 0 Nz Dz).bind λG4=>(VU 0 5 G4).bind λx168=>wh σ x168 SI.2.2)else μ)else μ)else μ
def Qc:aq->Heap->aF:=Ω θ Ds (.a [(.e 3 [.k,.k,(.e 7 qz)]),(.s 4),Du,(.e 2 [.k,(.e 11 nC)]),(.s 3)]) (YR aCz)
def IZ (y0:Nat) (qR:AV) (x95:AV):aq->Heap->Option (AX×aq×Heap):=λIr s97=>(YY (aj Ir 1) x95).bind λx99=>φ x99 ((Zo 3 qR (aj Ir 1)).bind λyI=>((χ yI s97).bind λGX=>VU 0 3 GX).bind λx102=>(ψ 3 x102).bind λNj=>(ir 0 Nj [(ε 0),(ε 0),(ε 0)]).bind λaAl=>((Tv (aj Ir 0)).bind λNk=>VU 0 5 Nk).bind λBd=>(Γ 1 aAl).bind λBe=>(L5 [Bd,Be] s97).bind λCp=>(Yn 0 Cp.1).bind λDP=>(Yn 1 Cp.1).bind λvL=>(ψ 2 DP).bind λKh=>(ir 0 Kh [(ε 0),Zg]).bind λav6=>(ZP (Yy y0 0)).bind λx113=>(WC 0 x113).bind λx114=>(WC 0 x114).bind λx115=>((χ x115 Cp.2).bind λGY=>Γ 0 GY).bind λDQ=>(Γ 0 aAl).bind λHx=>(Γ 2 aAl).bind λZt=>(Γ 1 av6).bind λN4=>((((Ψ Hx).bind λv=>δ [v]).bind λAY=>(ir 3 AY [(ε 0),(ε 0),aR,(ε 0),(ε 0),Zg,(ε 0),(ε 0),(ε 0),AV.nm]).bind λaAC=>((Ψ Zt).bind λv=>δ [v]).bind λNn=>(ir 4 Nn aAC).bind λaz0=>((Ψ N4).bind λv=>δ [v]).bind λNo=>(ir 5 No az0).bind λGZ=>((Ψ (ε (-1))).bind λv=>δ [v]).bind λzR=>(ir 6 zR GZ).bind λDy=>((Ψ (ε 65535)).bind λv=>δ [v]).bind λaCy=>(ir 7 aCy Dy).bind λYw=>((Ψ (ε (-1))).bind λv=>δ [v]).bind λaBW=>(ir 8 aBW Yw).bind λaA0=>δ aA0).bind λcs=>δ (Φ cs)).bind λN8=>(((ψ 10 N8).bind λNp=>(ir 0 Np [(ε 0),(ε 0),aR,(ε 0),(ε 0),Zg,(ε 0),(ε 0),(ε 0),AV.nm]).bind λYz=>δ Yz).bind λcs=>δ (Yh 10 (iP 10 1 cs))).bind λOa=>(WK 10 (140737488355328 / 96) DQ Oa Cp.2).bind λah8=>(ZP (Yy y0 0)).bind λHB=>(WC 0 HB).bind λaAp=>(WC 0 aAp).bind λOb=>((Ψ ah8.1).bind λv=>δ [v]).bind λawc=>(XZ Ob awc ah8.2).bind λNr=>(WE (aj Ir 1) (ε 1)).bind λDS=>δ (Xv,[(aj Ir 0),DS],Nr)) (δ (Ξ 6,[(aj Ir 0),(aj Ir 1)],s97))
def Ge (y0:Nat) (jh:AV) (fK:AV):aq->Heap->Option (AX×aq×Heap):=λv64 vZ=>(YY (aj v64 2) fK).bind λpV=>φ pV ((Zo 7 jh (aj v64 2)).bind λqO=>((χ qO vZ).bind λHO=>VU 0 7 HO).bind λlZ=>(ψ 7 lZ).bind λrR=>(ir 0 rR [bE,(ε 0),(ε 0),(ε 0),(ε 0),aR,Zg]).bind λFH=>(ZP (Yy y0 0)).bind λve=>(WC 10 ve).bind λqP=>((χ qP vZ).bind λHQ=>Γ 0 HQ).bind λnX=>((Tv (aj v64 1)).bind λ_=>δ (0)).bind λOV=>((Tv (aj v64 1)).bind λBi=>Γ OV Bi).bind λsZ=>(Γ 0 FH).bind λud=>((((Ψ sZ).bind λv=>δ [v]).bind λD2=>(ir 0 D2 [(ε 0),bE]).bind λyQ=>((Ψ ud).bind λv=>δ [v]).bind λD3=>(ir 1 D3 yQ).bind λsM=>δ sM).bind λcs=>δ (Φ cs)).bind λqQ=>(VU 0 7 FH).bind λxg=>(A.jX (.s [0,2]) nX qQ xg vZ).bind λh87=>(WE (aj v64 2) (ε 1)).bind λwg=>δ (Xv,[(aj v64 0),(aj v64 1),wg],h87)) (δ (Ξ 4,[(aj v64 0),(aj v64 1),(aj v64 2)],vZ))
def LQ (y0:Nat) (y1:Nat) (iO:AV) (gu:AV):aq->Heap->Option (AX×aq×Heap):=λv50 Tg =>(YY (aj v50 1) gu).bind λmq=>φ mq ((Zo 4 iO (aj v50 1)).bind λkJ=>((χ kJ Tg).bind λtU=>VU 0 4 tU).bind λjC=>(ψ 4 jC).bind λnE=>(ir 0 nE [(ε 0),bE,(ε 0),(ε 0)]).bind λpO=>(Γ 1 pO).bind λi6=>(Yt .z (XP y1) i6 (Φ [bE,(ε 0),Zg]) Tg).bind λkQ=>((ψ 3 kQ).bind λuM=>Γ 2 uM).bind λjh=>(UY jh).bind λfK=>(Y7 (Ge (y0) jh fK) [(aj v50 0),(VD pO),(ε 0)] Tg).bind λr89=>bif r89.1==Ξ 4 then((WE (aj v50 1) (ε 1)).bind λx90=>δ (Xv,[(aj r89.2.1 0),x90],r89.2.2))else μ) (δ (Ξ 2,[(aj v50 0),(aj v50 1)],Tg))
def LP (x29:AV) (ef:AV) (y0:Nat):aq->Heap->Option (AX×aq×Heap):=λv31 Ip=>(YY (aj v31 1) ef).bind λx34=>φ x34 ((Zo 3 x29 (aj v31 1)).bind λgV=>((χ gV Ip).bind λnD=>VU 0 3 nD).bind λfI=>(ψ 3 fI).bind λmU=>(ir 0 mU [bE,(ε 0),Zg]).bind λoN=>(Γ 0 oN).bind λgn=>(VU 0 3 oN).bind λfD=>(A.jX .z (XP y0) gn fD Ip).bind λh42=>(WE (aj v31 1) (ε 1)).bind λgL=>δ (Xv,[(aj v31 0),gL],h42)) (δ (Ξ 0,[(aj v31 0),(aj v31 1)],Ip))
def Mh (a0:AV) (σ:Heap):aF:=(ψ 5 a0).bind λc1=>(VU 0 5 c1).bind λx2=>(PW [x2] σ).bind λr3=>(UP .i r3.1 (ε 0)).bind λx4=>φ x4 (δ ((Yu [aDa,r3.1]),r3.2)) ((VU 0 5 c1).bind λx5=>(Qc [x5] r3.2).bind λr6=>(ψ 5 r6.1).bind λc7=>(ir 0 c7 c1).bind λc8=>(VU 0 5 c8).bind λx9=>(((ψ 5 x9).bind λeR=>(ir 4 eR [Zg,(ε 0),(ε 0),aR,Zg,Zg,Zg,Zg,Zg,Zg,AV.nm,Zg]).bind λfq=>((Ψ (XP r6.2.length)).bind λv=>δ [v]).bind λcZ=>(ir 10 cZ fq).bind λfU=>δ fU).bind λcs=>δ (Φ cs)).bind λbW=>(ψ 12 bW).bind λjj=>(ZP (Yy (r6.2++[Z0 []]).length 0)).bind λbO=>(WC 0 bO).bind λcg=>(WC 2 cg).bind λcQ=>((Ψ (ε 65535)).bind λv=>δ [v]).bind λiz=>(XZ cQ iz ((r6.2++[Z0 []])++[Vs jj])).bind λiH=>(VU 0 2 c8).bind λbL=>(IV [bL] iH).bind λyY=>(Yn 0 yY.1).bind λep=>(Yn 1 yY.1).bind λx24=>(ZP (Yy (r6.2++[Z0 []]).length 0)).bind λx25=>(WC 9 x25).bind λfH=>((Ψ ep).bind λv=>δ [v]).bind λkU=>(XZ fH kU yY.2).bind λme=>(Γ 0 c8).bind λx29=>(UY x29).bind λef=>(Y7 (LP x29 ef me.length) [(VD c8),(ε 0)] (me++[Z0 []])).bind λeG=>bif eG.1==Ξ 0 then(((Tv (aj eG.2.1 0)).bind λ_=>δ (0)).bind λp45=>((Tv (aj eG.2.1 0)).bind λ_=>δ ((p45+1))).bind λIe=>((Tv (aj eG.2.1 0)).bind λlX=>Γ Ie lX).bind λiO=>(UY iO).bind λgu=>(Y7 (LQ ((r6.2++[Z0 []]).length) me.length iO gu) [(aj eG.2.1 0),(ε 0)] eG.2.2).bind λCF=>bif CF.1==Ξ 2 then(((Tv (aj CF.2.1 0)).bind λ_=>δ (4)).bind λp92=>((Tv (aj CF.2.1 0)).bind λAh=>Γ p92 Ah).bind λqR=>(UY qR).bind λx95=>(Y7 (IZ ((r6.2++[Z0 []]).length) qR x95) [(aj CF.2.1 0),(ε 0)] CF.2.2).bind λah9=>bif ah9.1==Ξ 6 then(δ ((Yu [(Yy (r6.2++[Z0 []]).length 0),(ε 0)]),ah9.2.2))else μ)else μ)else μ)
def QG:aq->Heap->aF:=Ω θ Ds .k (YR Mh)
def IS (a0 a1 a2:AV) (σ:Heap):aF:=((ψ 5 a2).bind λcs=>δ (ZN cs)).bind λx1=>(WC 1 x1).bind λx2=>((χ x2 σ).bind λc3=>Γ 0 c3).bind λx4=>(ZA .i x4 (ε 8)).bind λx5=>φ x5 ((ZP a1).bind λx6=>(WC 1 x6).bind λx7=>((χ x7 σ).bind λc8=>Γ 0 c8).bind λx9=>(WE x9 (ε 1)).bind λbl=>(ZP a1).bind λbT=>(WC 1 bT).bind λbR=>((Ψ bl).bind λv=>δ [v]).bind λfU=>(XZ bR fU σ).bind λia=>(WC 4 x1).bind λcN=>((χ cN ia).bind λjY=>Γ 0 jY).bind λcg=>(ZP a1).bind λcQ=>(WC 2 cQ).bind λdZ=>((Ψ cg).bind λv=>δ [v]).bind λiH=>(XZ dZ iH ia).bind λij=>δ ((ε 0),ij)) ((ZA .i x4 (ε 9)).bind λcI=>φ cI ((ZP a1).bind λep=>(WC 1 ep).bind λx24=>((χ x24 σ).bind λiA=>Γ 0 iA).bind λfH=>(WE fH (ε 1)).bind λfB=>(ZP a1).bind λx28=>(WC 1 x28).bind λx29=>((Ψ fB).bind λv=>δ [v]).bind λsJ=>(XZ x29 sJ σ).bind λqD=>(WC 4 x1).bind λx32=>((χ x32 qD).bind λwL=>Γ 0 wL).bind λx34=>(ZA .i x34 (ε 1)).bind λgV=>(ZP a1).bind λiD=>(WC 3 iD).bind λfI=>((Ψ gV).bind λv=>δ [v]).bind λmU=>(XZ fI mU qD).bind λoN=>δ ((ε 0),oN)) ((ZP a1).bind λgn=>(WC 0 gn).bind λfD=>((χ fD σ).bind λoh=>Γ 0 oh).bind λgL=>(Ev (Zw (λ_ _=>μ) [(352,Ew),(354,Ex)]) [gL,(AV.fn 352 [x1])] σ).bind λeG=>(ZP a1).bind λfE=>(WC 0 fE).bind λiZ=>((χ iZ eG.2).bind λlX=>Γ 0 lX).bind λiO=>(Zo 10 iO eG.1).bind λgu=>(WC 1 x1).bind λjg=>((χ jg eG.2).bind λyN=>Γ 0 yN).bind λgp=>(ZA .i gp (ε 1)).bind λmq=>φ mq ((ZP gu).bind λkJ=>(WC 6 kJ).bind λkV=>((χ kV eG.2).bind λyP=>Γ 0 yP).bind λlQ=>(WE lQ (ε 1)).bind λlF=>(ZP gu).bind λi6=>(WC 5 i6).bind λkQ=>((χ kQ eG.2).bind λuM=>Γ 0 uM).bind λjh=>(UY jh).bind λfK=>(ZA .i lF fK).bind λpG=>φ pG (δ ((ε 8),eG.2)) ((ZP a1).bind λoq=>(WC 1 oq).bind λku=>((χ ku eG.2).bind λHN=>Γ 0 HN).bind λqO=>(WE qO (ε 1)).bind λkC=>(ZP a1).bind λlZ=>(WC 1 lZ).bind λsW=>((Ψ kC).bind λv=>δ [v]).bind λFH=>(XZ sW FH eG.2).bind λD1=>(YI lF (ε 0)).bind λqP=>(φ qP ((WC 0 x1).bind λnX=>((χ nX D1).bind λwM=>Γ 0 wM).bind λsY=>(xW [a0,a1,eG.1,lF,sY] D1).bind λtZ=>δ (([]:aq),tZ.2)) (δ (([]:aq),D1))).bind λTb=>δ ((ε 0),Tb.2))) ((ZA .i gp (ε 2)).bind λud=>φ ud ((ZP gu).bind λw8=>(WC 6 w8).bind λvf=>((χ vf eG.2).bind λD3=>Γ 0 D3).bind λuf=>(Uk uf (ε 1)).bind λqQ=>(YY qQ (ε 0)).bind λxg=>φ xg (δ ((ε 8),eG.2)) ((ZP a1).bind λnh=>(WC 1 nh).bind λwg=>((χ wg eG.2).bind λqE=>Γ 0 qE).bind λx90=>(WE x90 (ε 1)).bind λx91=>(ZP a1).bind λtc=>(WC 1 tc).bind λx93=>((Ψ x91).bind λv=>δ [v]).bind λwN=>(XZ x93 wN eG.2).bind λsN=>(YI qQ (ε 0)).bind λx96=>(φ x96 ((WC 0 x1).bind λx98=>((χ x98 sN).bind λD4=>Γ 0 D4).bind λyI=>(xW [a0,a1,eG.1,qQ,yI] sN).bind λAa=>δ (([]:aq),Aa.2)) (δ (([]:aq),sN))).bind λIm=>δ ((ε 0),Im.2))) ((ZA .i gp (ε 3)).bind λx102=>φ x102 ((ZP gu).bind λAe=>(WC 5 Ae).bind λx104=>((χ x104 eG.2).bind λNk=>Γ 0 Nk).bind λBd=>(Lj (Zw (λ_ _=>μ) [(352,Ew),(354,Ex)]) [Bd,(AV.fn 354 [x1])] eG.2).bind λKu=>(YY Ku.1 (ε 0)).bind λDO=>φ DO (δ ((ε 8),Ku.2)) ((ZP a1).bind λDP=>(WC 1 DP).bind λvL=>((χ vL Ku.2).bind λKh=>Γ 0 Kh).bind λx112=>(WE x112 (ε 1)).bind λx113=>(ZP a1).bind λx114=>(WC 1 x114).bind λx115=>((Ψ x113).bind λv=>δ [v]).bind λGY=>(XZ x115 GY Ku.2).bind λNl=>(YI Ku.1 (ε 0)).bind λHx=>(φ Hx ((WC 0 x1).bind λN4=>((χ N4 Nl).bind λAY=>Γ 0 AY).bind λHy=>(xW [a0,a1,eG.1,Ku.1,Hy] Nl).bind λtT=>δ (([]:aq),tT.2)) (δ (([]:aq),Nl))).bind λax0=>δ ((ε 0),ax0.2))) ((ZA .i gp (ε 4)).bind λN6=>φ N6 ((ZP gu).bind λCs=>(WC 0 Cs).bind λZu=>(WC 2 Zu).bind λZv=>((χ Zv eG.2).bind λDy=>Γ 0 Dy).bind λwG=>(η wG ι (δ gu) au).bind λDR=>(η wG ι (ZP DR) au).bind λN7=>(η wG ι (WC 6 N7) au).bind λyJ=>(η wG ι ((χ yJ eG.2).bind λawa=>Γ 0 awa) au).bind λN9=>(η wG ι (YY N9 (ε 0)) au).bind λHz=>(UD wG dz Hz).bind λOa=>φ Oa (δ ((ε 10),eG.2)) ((ZP gu).bind λHA=>(WC 0 HA).bind λHB=>((χ HB eG.2).bind λNq=>VU 0 3 Nq).bind λOb=>(WC 0 x1).bind λOc=>((χ Oc eG.2).bind λNr=>Γ 0 Nr).bind λDS=>(Wi (Av [Ob,DS] eG.2) eG.2).bind λOd=>(WC 0 x1).bind λOe=>((χ Oe eG.2).bind λawf=>Γ 0 awf).bind λOf=>((((Ψ Od).bind λv=>δ [v]).bind λYC=>(ir 0 YC [(ε 0),(ε 0),aR]).bind λNs=>((Ψ Of).bind λv=>δ [v]).bind λNt=>(ir 1 Nt Ns).bind λNu=>((Ψ dz).bind λv=>δ [v]).bind λYD=>(ir 2 YD Nu).bind λG3=>δ G3).bind λcs=>δ (Φ cs)).bind λZy=>(ZP gu).bind λaAr=>(WC 0 aAr).bind λayl=>(ψ 3 Zy).bind λawi=>(XZ ayl awi eG.2).bind λFb=>(ZP a1).bind λx159=>(WC 1 x159).bind λx160=>((χ x160 Fb).bind λNx=>Γ 0 Nx).bind λayn=>(WE ayn (ε 1)).bind λayo=>(ZP a1).bind λaz7=>(WC 1 az7).bind λayp=>((Ψ ayo).bind λv=>δ [v]).bind λG4=>(XZ ayp G4 Fb).bind λDz=>(YI (ε (-1)) (ε 0)).bind λx168=>(φ x168 ((WC 0 x1).bind λayq=>((χ ayq Dz).bind λawl=>Γ 0 awl).bind λaB7=>(xW [a0,a1,eG.1,(ε (-1)),aB7] Dz).bind λax2=>δ (([]:aq),ax2.2)) (δ (([]:aq),Dz))).bind λax1=>δ ((ε 0),ax1.2))) ((ZA .i gp (ε 5)).bind λaAJ=>φ aAJ ((ZP gu).bind λayt=>(WC 0 ayt).bind λaA4=>(WC 2 aA4).bind λayu=>((χ ayu eG.2).bind λaAI=>Γ 0 aAI).bind λayv=>(Wk ayv).bind λayw=>φ ayw (δ ((ε 10),eG.2)) ((ZP gu).bind λayx=>(WC 0 ayx).bind λayy=>(WC 0 ayy).bind λZE=>((χ ZE eG.2).bind λYH=>Γ 0 YH).bind λayz=>(WC 0 x1).bind λayA=>((χ ayA eG.2).bind λawt=>Γ 0 awt).bind λayC=>((((Ψ ayz).bind λv=>δ [v]).bind λawv=>(ir 0 awv [(ε 0),(ε 0),aR]).bind λaww=>((Ψ ayC).bind λv=>δ [v]).bind λawx=>(ir 1 awx aww).bind λG5=>((Ψ aR).bind λv=>δ [v]).bind λG6=>(ir 2 G6 G5).bind λG7=>δ G7).bind λcs=>δ (Φ cs)).bind λayE=>(ZP gu).bind λayF=>(WC 0 ayF).bind λayG=>(ψ 3 ayE).bind λawy=>(XZ ayG awy eG.2).bind λahD=>(ZP a1).bind λaBn=>(WC 1 aBn).bind λayJ=>((χ ayJ ahD).bind λaCd=>Γ 0 aCd).bind λZG=>(WE ZG (ε 1)).bind λZH=>(ZP a1).bind λayK=>(WC 1 ayK).bind λayL=>((Ψ ZH).bind λv=>δ [v]).bind λawC=>(XZ ayL awC ahD).bind λaBi=>(YI (ε (-1)) (ε 0)).bind λayO=>(φ ayO ((WC 0 x1).bind λZI=>((χ ZI aBi).bind λawF=>Γ 0 awF).bind λayQ=>(xW [a0,a1,eG.1,(ε (-1)),ayQ] aBi).bind λax4=>δ (([]:aq),ax4.2)) (δ (([]:aq),aBi))).bind λax3=>δ ((ε 0),ax3.2))) ((ZA .i gp (ε 6)).bind λayR=>φ ayR ((ZP gu).bind λayS=>(WC 6 ayS).bind λaBj=>((χ aBj eG.2).bind λawI=>Γ 0 awI).bind λZK=>(YY ZK (ε 0)).bind λZL=>φ ZL (δ ((ε 10),eG.2)) ((ZP a1).bind λaCi=>(WC 1 aCi).bind λaBa=>((χ aBa eG.2).bind λawJ=>Γ 0 awJ).bind λayU=>(WE ayU (ε 1)).bind λZO=>(ZP a1).bind λaAg=>(WC 1 aAg).bind λaCQ=>((Ψ ZO).bind λv=>δ [v]).bind λawK=>(XZ aCQ awK eG.2).bind λahE=>((χ x1 ahE).bind λawL=>VU 0 5 awL).bind λayW=>(LA [a0,a1,gu,ayW] ahE).bind λax6=>δ ((ε 0),ax6.2))) ((ZA .i gp (ε 7)).bind λZR=>(φ ZR ((WC 4 x1).bind λZS=>((χ ZS eG.2).bind λYM=>Γ 0 YM).bind λayZ=>(ZP gu).bind λay0=>(WC 7 ay0).bind λay1=>((Ψ ayZ).bind λv=>δ [v]).bind λawO=>(XZ ay1 awO eG.2).bind λawP=>δ (([]:aq),awP)) (δ (([]:aq),eG.2))).bind λaib=>(ZP a1).bind λay2=>(WC 1 ay2).bind λay3=>((χ ay3 aib.2).bind λawQ=>Γ 0 awQ).bind λay4=>(WE ay4 (ε 1)).bind λay5=>(ZP a1).bind λay6=>(WC 1 ay6).bind λay7=>((Ψ ay5).bind λv=>δ [v]).bind λawR=>(XZ ay7 awR aib.2).bind λaBr=>(YI (ε (-1)) (ε 0)).bind λay8=>(φ ay8 ((WC 0 x1).bind λay9=>((χ ay9 aBr).bind λawS=>Γ 0 awS).bind λaza=>(xW [a0,a1,eG.1,(ε (-1)),aza] aBr).bind λax8=>δ (([]:aq),ax8.2)) (δ (([]:aq),aBr))).bind λax7=>δ ((ε 0),ax7.2)))))))))
def LH:aq->Heap->aF:=Ω ι [] .k (X5 IS)
def P8 (a0 a1:AV) (σ:Heap):aF:=(ψ 5 a1).bind λc1=>(ZP a0).bind λx2=>(WC 11 x2).bind λx3=>((χ x3 σ).bind λc4=>Γ 0 c4).bind λx5=>(UY x5).bind λx6=>(ZA .i x6 (ε 5000)).bind λx7=>(Wi (ug [x7,(ε 2)] σ) σ).bind λx8=>(VU 0 5 c1).bind λx9=>(Wi (PO [x9] σ) σ).bind λbl=>(Γ 0 c1).bind λbT=>(Wi (LU [bT] σ) σ).bind λbR=>(Wk bR).bind λbZ=>(Wi (ug [bZ,(ε 1)] σ) σ).bind λbW=>(Γ 0 c1).bind λcN=>(Wi (IN [a0] σ) σ).bind λbO=>(YY cN bO).bind λcg=>(Wi (ug [cg,(ε 7)] σ) σ).bind λcQ=>((((Ψ x8).bind λv=>δ [v]).bind λiz=>(ir 0 iz [(ε 0),(ε 0),(ε 0),(ε 0)]).bind λiH=>((Ψ bl).bind λv=>δ [v]).bind λij=>(ir 1 ij iH).bind λiL=>((Ψ bW).bind λv=>δ [v]).bind λgj=>(ir 2 gj iL).bind λfW=>((Ψ cQ).bind λv=>δ [v]).bind λiA=>(ir 3 iA fW).bind λjv=>δ jv).bind λcs=>δ (Yh 1 (iP 1 4 cs))).bind λfB=>(Wi (ze [fB] σ) σ).bind λx28=>(ZP a0).bind λx29=>(WC 4 x29).bind λef=>((χ ef σ).bind λqD=>VU 0 5 qD).bind λx32=>(VU 0 5 c1).bind λiN=>(Wi (PR [x32,iN] σ) σ).bind λx34=>((((Ψ x28).bind λv=>δ [v]).bind λkX=>(ir 0 kX [(ε 0),(ε 0)]).bind λnD=>((Ψ x34).bind λv=>δ [v]).bind λlN=>(ir 1 lN nD).bind λmU=>δ mU).bind λcs=>δ (Yh 1 (iP 1 2 cs))).bind λiu=>(Wi (ze [iu] σ) σ).bind λgn=>(UP .i gn (ε 0)).bind λfD=>φ fD (δ (gn,σ)) ((Γ 0 c1).bind λjB=>(Ey [a0,jB] σ).bind λsU=>(ψ 4 sU.1).bind λDV=>(XZ (Yy sU.2.length 0) DV (sU.2++[Vs [Zg,(ε 0),(ε 0),aR]])).bind λBg=>(VU 0 5 c1).bind λiZ=>(LH [a0,(Yy sU.2.length 0),iZ] Bg).bind λng=>(UP .i ng.1 (ε 0)).bind λiO=>φ iO (δ (ng.1,ng.2)) (((χ (Yy sU.2.length 0) ng.2).bind λBh=>VU 0 4 Bh).bind λjg=>(ZP a0).bind λgM=>(WC 0 gM).bind λgp=>(ψ 4 jg).bind λyO=>(XZ gp yO ng.2).bind λFF=>(ZP a0).bind λkV=>(WC 11 kV).bind λjC=>((χ jC FF).bind λnE=>Γ 0 nE).bind λlF=>(VU 0 5 c1).bind λi6=>(((ψ 5 i6).bind λxM=>(ir 0 xM [(ε 0),(ε 0),(ε 0),(ε 0),(ε 0)]).bind λuM=>δ uM).bind λcs=>δ (Yh 5 (iP 5 1 cs))).bind λjh=>(WK 5 (140737488355328 / 40) lF jh FF).bind λFX=>(ZP a0).bind λpG=>(WC 11 pG).bind λoq=>((Ψ FX.1).bind λv=>δ [v]).bind λaCx=>(XZ oq aCx FX.2).bind λHN=>δ ((ε 0),HN)))
def UA:aq->Heap->aF:=Ω ι [] .k (Xw P8)
def aam (a0 a1:AV) (σ:Heap):aF:=(ψ 10 a0).bind λc1=>(Γ 3 c1).bind λx2=>((χ a1 σ).bind λc3=>Γ 0 c3).bind λx4=>(ZA .i x2 x4).bind λx5=>wh σ x5 σ
def IC:aq->Heap->aF:=Ω θ [(.a [.k,.k,.k,.k,.k,(.s 11),.k,.k,.k,.k])] .k (Xw aam)
def P0 (a0 a1 a2:AV) (σ:Heap):aF:=(((Ψ a1).bind λv=>δ [v]).bind λcs=>δ (ZN cs)).bind λx1=>(ZP a0).bind λx2=>(WC 0 x2).bind λx3=>(WC 0 x3).bind λx4=>((χ x4 σ).bind λc5=>Γ 0 c5).bind λx6=>(Ev (Zw (λ_ _=>μ) [(358,IC)]) [x6,(AV.fn 358 [x1])] σ).bind λr7=>(F9 [a0,a2] r7.2).bind λr8=>(YY r7.1 (ε 0)).bind λx9=>(ug [x9,(ε 8)] r8.2).bind λgR=>((((Ψ r8.1).bind λv=>δ [v]).bind λfq=>(ir 0 fq [(ε 0),(ε 0)]).bind λcZ=>((Ψ gR.1).bind λv=>δ [v]).bind λfU=>(ir 1 fU cZ).bind λia=>δ ia).bind λcs=>δ (Yh 1 (iP 1 2 cs))).bind λcN=>(ze [cN] gR.2).bind λCE=>(UP .i CE.1 (ε 0)).bind λcg=>φ cg ((ψ 10 (Φ [(ε 0),(ε 0),aR,(ε 0),(ε 0),Zg,(ε 0),(ε 0),(ε 0),AV.nm])).bind λig=>(ir 0 ig [(ε 0),(ε 0),aR,(ε 0),(ε 0),Zg,(ε 0),(ε 0),(ε 0),AV.nm]).bind λiz=>(VU 0 10 iz).bind λcS=>wh σ (Yu [cS,CE.1]) CE.2) ((Ey [a0,a2] CE.2).bind λkj=>((ψ 4 kj.1).bind λiL=>Γ 0 iL).bind λep=>(Zo 10 ep r7.1).bind λx24=>((χ x24 kj.2).bind λiA=>VU 0 10 iA).bind λfH=>(ψ 10 fH).bind λkU=>(ir 0 kU [(ε 0),(ε 0),aR,(ε 0),(ε 0),Zg,(ε 0),(ε 0),(ε 0),AV.nm]).bind λme=>(VU 0 10 me).bind λx29=>wh σ (Yu [x29,(ε 0)]) kj.2)
def PX:aq->Heap->aF:=Ω ι [] (.t [(.a [.k,.k,.k,.k,.k,(.e 11 nC),.k,.k,.k,.k]),.k]) (X5 P0)
def ajb (a0 a1:AV) (σ:Heap):aF:=(ψ 2 a0).bind λc1=>(ψ 2 a1).bind λc2=>(Γ 0 c1).bind λx3=>(Γ 0 c2).bind λx4=>(UP .i x3 x4).bind λx5=>φ x5 ((Γ 0 c1).bind λx6=>(Γ 0 c2).bind λx7=>(Uk x6 x7).bind λx8=>wh σ x8 σ) ((Γ 1 c1).bind λx9=>(Γ 1 c2).bind λbl=>(LD [x9,bl] σ).bind λdc=>wh σ dc.1 dc.2)
def aaf:aq->Heap->aF:=Ω θ [] .k (Xw ajb)
def Ln (y0:Option AV) (a2:AV) (y1:Nat) (y2:AV) (gM:AV):aq->Heap->Option (AX×aq×Heap):=λoo uW=>(YY (aj oo 2) gM).bind λkV=>φ kV ((Zo 2 y2 (aj oo 2)).bind λjC=>((χ jC uW).bind λnE=>VU 0 2 nE).bind λlF=>(ψ 2 lF).bind λDY=>(ir 0 DY [(ε 0),bE]).bind λxM=>(VU 0 2 xM).bind λkn=>y0.bind λjh=>((χ jh uW).bind λOl=>VU 0 3 Ol).bind λpG=>(Wi (Av [pG,a2] uW) uW).bind λoq=>(Wi (wj [(Yy y1 0),kn,oq] uW) uW).bind λku=>(Yn 0 ku).bind λpV=>(Yn 1 ku).bind λqO=>(ψ 9 pV).bind λHO=>(ir 0 HO [(ε 0),(ε 0),(ε 0),(ε 0),(ε 0),(ε 0),Zg,(ε 0),aR]).bind λFG=>(Wk qO).bind λsW=>φ sW ((WE (aj oo 2) (ε 1)).bind λsX=>δ (Xv,[(aj oo 0),(aj oo 1),sX],uW)) ((Γ 6 FG).bind λve=>((A.nS (.s 2) F5) [ve] uW).bind λOY=>((Ψ OY.1).bind λv=>δ [v]).bind λHQ=>(ir 6 HQ FG).bind λHR=>((Tv (aj oo 1)).bind λ_=>δ (5)).bind λOV=>((Tv (aj oo 1)).bind λBi=>Γ OV Bi).bind λsZ=>(VU 0 2 xM).bind λud=>(VU 0 7 HR).bind λw8=>(Γ 7 HR).bind λvf=>(Γ 8 HR).bind λue=>(((ψ 2 ud).bind λsM=>(ir 0 sM [(ε 0),bE,(ε 0),(ε 0),(ε 0),(ε 0),(ε 0),(ε 0),Zg,(ε 0),aR]).bind λBj=>(ψ 7 w8).bind λBk=>(ir 2 Bk Bj).bind λuN=>((Ψ vf).bind λv=>δ [v]).bind λuO=>(ir 9 uO uN).bind λqE=>((Ψ ue).bind λv=>δ [v]).bind λyR=>(ir 10 yR qE).bind λHS=>δ HS).bind λcs=>δ (Φ cs)).bind λtc=>(((ψ 11 tc).bind λAh=>(ir 0 Ah [(ε 0),bE,(ε 0),(ε 0),(ε 0),(ε 0),(ε 0),(ε 0),Zg,(ε 0),aR]).bind λwN=>δ wN).bind λcs=>δ (Yh 11 (iP 11 1 cs))).bind λx95=>(WK 11 (140737488355328 / 112) sZ x95 OY.2).bind λr96=>((Tv (aj oo 1)).bind λ_=>δ (5)).bind λp97=>(Tv (aj oo 1)).bind λDx=>((Ψ r96.1).bind λv=>δ [v]).bind λqF=>(ir p97 qF Dx).bind λD4=>(WE (aj oo 2) (ε 1)).bind λx101=>δ (Xv,[(aj oo 0),(VD D4),x101],r96.2))) (δ (Ξ 0,[(aj oo 0),(aj oo 1),(aj oo 2)],uW))
def PJ (a0 a1 a2:AV) (σ:Heap):aF:=(PX [a0,a1,a2] σ).bind λr1=>(Yn 0 r1.1).bind λx2=>(Yn 1 r1.1).bind λx3=>(ψ 10 x2).bind λc4=>(XZ (Yy r1.2.length 0) c4 (r1.2++[Vs [(ε 0),(ε 0),aR,(ε 0),(ε 0),Zg,(ε 0),(ε 0),(ε 0),AV.nm]])).bind λc5=>(UP .i x3 (ε 0)).bind λx6=>φ x6 ((ψ 6 (Φ [(ε 0),(ε 0),(ε 0),aR,(ε 0),Zg])).bind λc7=>(ir 0 c7 [(ε 0),(ε 0),(ε 0),aR,(ε 0),Zg]).bind λc8=>(VU 0 6 c8).bind λx9=>wh σ (Yu [x9,x3]) c5) ((WC 7 (Yy r1.2.length 0)).bind λbl=>((χ bl c5).bind λfq=>Γ 0 fq).bind λbR=>(WC 0 (Yy r1.2.length 0)).bind λbZ=>(WC 2 bZ).bind λbW=>((χ bW c5).bind λjj=>Γ 0 jj).bind λbO=>(Wi (Ez [(Yy r1.2.length 0)] c5) c5).bind λcg=>((((Ψ a1).bind λv=>δ [v]).bind λig=>(ir 0 ig [(ε 0),(ε 0),(ε 0),aR,(ε 0),Zg]).bind λiz=>((Ψ bR).bind λv=>δ [v]).bind λiH=>(ir 2 iH iz).bind λij=>((Ψ bO).bind λv=>δ [v]).bind λiL=>(ir 3 iL ij).bind λgj=>((Ψ cg).bind λv=>δ [v]).bind λfW=>(ir 4 fW gj).bind λiA=>δ iA).bind λcs=>δ (Φ cs)).bind λfH=>(ψ 6 fH).bind λkU=>(ir 0 kU [(ε 0),(ε 0),(ε 0),aR,(ε 0),Zg]).bind λme=>(WC 6 (Yy r1.2.length 0)).bind λx29=>((χ x29 c5).bind λsJ=>Γ 0 sJ).bind λx31=>(YI x31 (ε 0)).bind λx32=>(φ x32 ((WC 5 (Yy r1.2.length 0)).bind λx34=>((χ x34 c5).bind λkX=>Γ 0 kX).bind λiD=>(WC 6 (Yy r1.2.length 0)).bind λfI=>((χ fI c5).bind λmU=>Γ 0 mU).bind λiu=>(Zo 11 iD iu).bind λgn=>(WC 0 gn).bind λfD=>((χ fD c5).bind λoh=>Γ 0 oh).bind λgL=>((Ψ gL).bind λv=>δ [v]).bind λDV=>(ir 1 DV me).bind λBg=>δ ([(VD [(ε 0),(ε 0),(ε 0),aR,(ε 0),Zg]),(VD Bg)],c5)) (δ ([(VD [(ε 0),(ε 0),(ε 0),aR,(ε 0),Zg]),(VD me)],c5))).bind λkY=>(WC 9 (Yy r1.2.length 0)).bind λiZ=>((χ iZ kY.2).bind λlX=>Γ 0 lX).bind λiO=>(PG [iO] kY.2).bind λKZ=>(Lp [KZ.1,(AV.fn 372 [])] KZ.2).bind λkI=>(UY kI.1).bind λgM=>(Y7 (Ln (WC 0 (Yy r1.2.length 0)) a2 r1.2.length kI.1 gM) [(aj kY.1 0),(aj kY.1 1),(ε 0)] kI.2).bind λSH=>bif SH.1==Ξ 0 then(((Tv (aj SH.2.1 1)).bind λNj=>VU 0 6 Nj).bind λx104=>(Tv (aj SH.2.1 0)).bind λav2=>(ψ 6 x104).bind λNk=>(ir 0 Nk av2).bind λav1=>(VU 0 6 av1).bind λDO=>wh σ (Yu [DO,(ε 0)]) SH.2.2)else μ)
def PI:aq->Heap->aF:=Ω ι [] (.t [(.a [.k,.k,.k,.k,.k,(.e 11 [.k,.k,.k,.k,.k,.k,.k,.k,(.s 2),.k,.k])]),.k]) (X5 PJ)
end
section
def aBc (a0 a1:AV) (σ:Heap):aF:=(UY a0).bind λx1=>(Y7 (λv2 s3=>(YY (aj v2 2) x1).bind λx5=>φ x5 ((Zo 2 a0 (aj v2 2)).bind λx6=>((χ x6 s3).bind λc7=>VU 0 2 c7).bind λx8=>(ψ 2 x8).bind λc9=>(ir 0 c9 [(ε 0),Zg]).bind λeR=>(Γ 0 eR).bind λbT=>(ZA .i bT a1).bind λbR=>φ bR ((VU 0 2 eR).bind λbZ=>(Tv (aj v2 0)).bind λjY=>(ψ 2 bZ).bind λia=>(ir 0 ia jY).bind λjj=>δ (YP,[(VD jj),dz,(aj v2 2)],s3)) ((WE (aj v2 2) (ε 1)).bind λcg=>δ (Xv,[(aj v2 0),(aj v2 1),cg],s3))) (δ (Ξ 0,[(aj v2 0),(aj v2 1),(aj v2 2)],s3))) [(VD [(ε 0),Zg]),aR,(ε 0)] σ).bind λfP=>bif fP.1==Ξ 0 then((Tv (aj fP.2.1 0)).bind λij=>(ψ 2 (Φ [(ε 0),Zg])).bind λiz=>(ir 0 iz ij).bind λiH=>(VU 0 2 iH).bind λcI=>wh σ (Yu [cI,aR]) fP.2.2)else bif fP.1==YP then(((Tv (aj fP.2.1 0)).bind λfW=>VU 0 2 fW).bind λep=>wh σ (Yu [ep,(aj fP.2.1 1)]) fP.2.2)else μ
def Vq:aq->Heap->aF:=Ω θ [(.s 2)] (.t [(.a [.k,(.e 11 nC)]),.k]) (Xw aBc)
end
section
def amP (a0 a1:AV) (σ:Heap):aF:=(ψ 6 a0).bind λc1=>(ψ 2 a1).bind λc2=>(Γ 5 c1).bind λx3=>(UY x3).bind λx4=>(Y7 (λv5 s6=>(YY (aj v5 2) x4).bind λx8=>φ x8 ((Zo 11 x3 (aj v5 2)).bind λx9=>((χ x9 s6).bind λeR=>VU 0 11 eR).bind λbT=>(ψ 11 bT).bind λcZ=>(ir 0 cZ [(ε 0),bE,(ε 0),(ε 0),(ε 0),(ε 0),(ε 0),(ε 0),Zg,(ε 0),aR]).bind λfU=>(VU 0 2 fU).bind λbW=>((Tv (aj v5 0)).bind λjj=>VU 0 2 jj).bind λbO=>(ZA (.s [0,2]) bW bO).bind λcg=>φ cg ((Γ 10 fU).bind λcQ=>δ (YP,[(aj v5 0),cQ,(aj v5 2)],s6)) ((WE (aj v5 2) (ε 1)).bind λdZ=>δ (Xv,[(aj v5 0),(aj v5 1),dZ],s6))) (δ (Ξ 0,[(aj v5 0),(aj v5 1),(aj v5 2)],s6))) [(VD c2),aR,(ε 0)] σ).bind λiX=>bif iX.1==Ξ 0 then(wh σ aR iX.2.2)else bif iX.1==YP then(wh σ (aj iX.2.1 1) iX.2.2)else μ
def abL:aq->Heap->aF:=Ω θ [(.a [.k,.k,.k,.k,.k,(.s 11)])] .k (Xw amP)
def Lm (i6:AV) (fD:AV) (sW:AV):aq->Heap->Option (AX×aq×Heap):=λv72 Iq=>(YY (aj v72 3) sW).bind λkK=>φ kK ((Zo 3 i6 (aj v72 3)).bind λnX=>((χ nX Iq).bind λwM=>VU 0 3 wM).bind λsY=>(ψ 3 sY).bind λOn=>(ir 0 On [(ε 0),bE,(ε 0)]).bind λAf=>((Tv (aj v72 0)).bind λ_=>δ (0)).bind λOW=>((Tv (aj v72 0)).bind λyQ=>VU OW 2 yQ).bind λue=>(VU 0 2 Af).bind λuf=>(I6 [ue,uf] Iq).bind λIk=>(Yn 0 Ik.1).bind λxg=>(Yn 1 Ik.1).bind λnh=>(ψ 7 xg).bind λuO=>(ir 0 uO [bE,(ε 0),(ε 0),(ε 0),(ε 0),aR,Zg]).bind λqE=>(Zo 3 fD (aj v72 3)).bind λx90=>((χ x90 Ik.2).bind λHS=>VU 0 3 HS).bind λtc=>(VU 0 3 Af).bind λx93=>(UP (.s [0,2,0]) tc x93).bind λqR=>(η qR θ (Γ 1 qE) au).bind λx95=>(η qR θ (ZA .i x95 (ε 1)) au).bind λx96=>(η qR θ (δ x96) au).bind λCK=>(η CK θ ((Tv (aj v72 2)).bind λqF=>VU 0 6 qF) au).bind λx99=>(η CK θ (VU 0 2 Af) au).bind λyI=>(η CK θ (Wi (abL [x99,yI] Ik.2) Ik.2) au).bind λx101=>(η qR θ (UD CK x101 aR) au).bind λx102=>(η qR θ (Wk x102) au).bind λAe=>(UD qR Ae aR).bind λx104=>φ x104 (δ (YP,[(aj v72 0),aR,(aj v72 2),(aj v72 3)],Ik.2)) ((WE (aj v72 3) (ε 1)).bind λxK=>δ (Xv,[(aj v72 0),(aj v72 1),(aj v72 2),xK],Ik.2))) (δ (Ξ 0,[(aj v72 0),(aj v72 1),(aj v72 2),(aj v72 3)],Iq))
def aal (a0 a1:AV) (σ:Heap):aF:=(ψ 5 a0).bind λc1=>(Γ 4 c1).bind λx2=>(UY x2).bind λx3=>(ZA .i x3 (ε 0)).bind λx4=>φ x4 (wh σ dz σ) ((Γ 4 c1).bind λx5=>(Wf 3 x5 μ (δ (ε 1)) σ).bind λx6=>((Ψ x6).bind λv=>δ [v]).bind λc7=>(ir 4 c7 c1).bind λc8=>(VU 0 5 c8).bind λx9=>(QG [x9] σ).bind λgR=>(Yn 0 gR.1).bind λbT=>(Yn 1 gR.1).bind λbR=>(UP .i bR (ε 0)).bind λbZ=>φ bZ ((ZA .p bT aDa).bind λbW=>wh σ bW gR.2) ((Γ 4 c8).bind λcN=>(Zo 3 cN (ε 0)).bind λbO=>(WC 0 bO).bind λcg=>((χ cg gR.2).bind λig=>Γ 0 ig).bind λdZ=>((((Ψ (ε 3)).bind λv=>δ [v]).bind λiH=>(ir 1 iH [(ε 0),(ε 0),(ε 0),(ε 0),(ε 0)]).bind λij=>((Ψ dZ).bind λv=>δ [v]).bind λiL=>(ir 2 iL ij).bind λgj=>((Ψ a1).bind λv=>δ [v]).bind λfW=>(ir 3 fW gj).bind λiA=>δ iA).bind λcs=>δ (Φ cs)).bind λfH=>(UA [bT,fH] gR.2).bind λqN=>(UP .i qN.1 (ε 0)).bind λx28=>φ x28 (wh σ dz qN.2) ((Γ 4 c8).bind λx29=>(Zo 3 x29 (ε 0)).bind λef=>(WC 0 ef).bind λx31=>((χ x31 qN.2).bind λHL=>Γ 0 HL).bind λiN=>(PI [bT,iN,(ε 36000000)] qN.2).bind λkG=>(Yn 0 kG.1).bind λgV=>(Yn 1 kG.1).bind λiD=>(ψ 6 gV).bind λlN=>(ir 0 lN [(ε 0),(ε 0),(ε 0),aR,(ε 0),Zg]).bind λmU=>(UP .i iD (ε 0)).bind λiu=>φ iu (wh σ aR kG.2) ((aCq [bT,(ε 36000000)] kG.2).bind λKY=>(Yn 0 KY.1).bind λfD=>(Yn 1 KY.1).bind λjB=>(Γ 3 c8).bind λgL=>(Γ 4 c8).bind λgA=>(Zo 3 gA (ε 0)).bind λfE=>(WC 1 fE).bind λiZ=>((χ iZ KY.2).bind λlX=>Γ 0 lX).bind λiO=>(Wi (Vq [gL,iO] KY.2) KY.2).bind λgu=>(Yn 0 gu).bind λjg=>(Yn 1 gu).bind λgM=>(ψ 2 jg).bind λDX=>(ir 0 DX [(ε 0),Zg]).bind λyO=>(VU 0 2 c8).bind λkJ=>(Γ 2 c8).bind λkV=>(Γ 1 yO).bind λjC=>(Γ 1 mU).bind λlQ=>(aBX [kJ,kV,jC,lQ] KY.2).bind λxR=>(Yn 0 xR.1).bind λi6=>(Yn 1 xR.1).bind λkQ=>(UP .i jB (ε 0)).bind λkn=>(η kn ι (δ kQ) au).bind λjh=>(η kn ι (UP .i jh (ε 0)) au).bind λfK=>(UD kn dz fK).bind λpG=>(η pG ι (δ fD) au).bind λoq=>(η pG ι (UY oq) au).bind λku=>(η pG ι (δ i6) au).bind λpV=>(η pG ι (UY pV) au).bind λqO=>(η pG ι (UP .i ku qO) au).bind λkC=>(UD pG dz kC).bind λlZ=>φ lZ (wh σ aR xR.2) ((UY i6).bind λsW=>(Y7 (Lm i6 fD sW) [(VD c8),aR,(VD mU),(ε 0)] xR.2).bind λAb=>bif Ab.1==Ξ 0 then(wh σ dz Ab.2.2)else bif Ab.1==YP then(wh σ (aj Ab.2.1 1) Ab.2.2)else μ)))))
def aak:aq->Heap->aF:=Ω θ Ds .k (Xw aal)
end
section
open Go.RowKit
theorem rE.same{P:Program}{nm:List Nat}{f:FuncId}{args:aq}{σ:Heap}{r:AV}(hc:∀us w,(callFunc f us).run P w=.ok (.enter f us) w)
  (h:∀(c:RC)(vs:Array Value)(w:World),aX c args vs.toList->Calls P f vs w λe w'=>∃v,e=.returned v/\Below w.heap.size w w'/\∀c',ay c' r v):rE P nm f args σ r σ:=by
 refine .inl ⟨f,hc,λz vs e1 e2 hh ha=>(h _ vs z.w ha).mono ?_⟩;rintro e w' ⟨v,k1,k2,k3⟩;have ho:Out z z.w z.E:=⟨rfl,rfl,rfl,bN _,λ_ _ _=>rfl,λi p hp=>.inr ⟨p,hp,rfl⟩,λi p hp=>⟨p,hp,.inl rfl⟩,e2,λp hp=>hh.lt hp⟩
 exact⟨v,z.E,k1,ho.grow k2,hh.mono (zm k2) rfl (λp hp=>k2.block _ (hh.lt hp)),k3 _⟩
theorem Sk{c:RC}{a:AV}{vs:Array Value}(h:aX c [a] vs.toList):∃v,vs=#[v]/\ay c a v:=by simp only[aX]at h;obtain⟨v,vs',e,h1,e2⟩:=h;refine⟨v,?_,h1⟩;subst e2;cases vs;simp at e;simp [e]
theorem M6{c:RC}{a b:AV}{vs:Array Value}(h:aX c [a,b] vs.toList):∃v u,vs=#[v,u]/\ay c a v/\ay c b u:=by simp only[aX]at h;obtain⟨v,vs',e,h1,u,vs2,e2,h2,e3⟩:=h;refine⟨v,u,?_,h1,h2⟩;subst e3;subst e2;cases vs;simp at e;simp [e]
theorem aCw:Sound Tryz.prog aN 61 LD:=by
 intro args σ r σ' h;unfold LD Xw at h;split at h
 ·simp only at h;split at h
  ·simp only[Θ,T4]at h;obtain⟨rfl,rfl⟩:=h;refine rE.same Tryz.call61 λc vs w hr=>?_
   obtain⟨v,u,rfl,h1,h2⟩:=M6 hr;simp only[ay]at h1 h2;subst h1 h2;refine(Tryz.strings_Compare _ _ w).mono ?_;rintro e w' ⟨rfl,rfl⟩;exact⟨_,rfl,Below.refl _ _,λc'=>by simp [ay]⟩
  ·cases h
 ·cases h
end
section
open Go.RowKit
theorem BH{P:Program}{nm:List Nat}{f:FuncId}{m0:aq->Heap->aF}(h0:Sound P nm f m0)(hc:∀us w,(callFunc f us).run P w=.ok (.enter f us) w)
  (hz:∀a cap w,Calls P f #[.slice a 0 cap] w λe w'=>∃q,e=.returned (.slice q 0 0)/\Below w.heap.size w w'):Sound P nm f (A.xu m0):=by
 intro args σ r σ' h;unfold A.xu at h;split at h
 ·simp only[Θ,T4]at h;obtain⟨rfl,rfl⟩:=h;refine rE.same hc λc vs w hr=>?_
  obtain⟨v,rfl,h1⟩:=Sk hr;simp only[ay]at h1;obtain⟨a,cap,rfl,_⟩:=h1;refine(hz _ _ w).mono ?_;rintro e w' ⟨q,rfl,hb⟩;exact⟨_,rfl,hb,λc'=>by simp [ay]⟩
 ·simp only[Θ,T4]at h;obtain⟨rfl,rfl⟩:=h;refine rE.same hc λc vs w hr=>?_
  obtain⟨v,rfl,h1⟩:=Sk hr;simp only[ay]at h1;subst h1;refine(hz _ _ w).mono ?_;rintro e w' ⟨q,rfl,hb⟩;exact⟨_,rfl,hb,λc'=>by simp [ay]⟩
 ·simp only[Θ,T4]at h;obtain⟨rfl,rfl⟩:=h;refine rE.same hc λc vs w hr=>?_
  obtain⟨v,rfl,h1⟩:=Sk hr;simp only[ay]at h1;obtain⟨a,rfl⟩:=h1;refine(hz _ _ w).mono ?_;rintro e w' ⟨q,rfl,hb⟩;exact⟨_,rfl,hb,λc'=>by simp [ay]⟩
 ·simp only[Θ,T4]at h;obtain⟨rfl,rfl⟩:=h;refine rE.same hc λc vs w hr=>?_
  obtain⟨v,rfl,h1⟩:=Sk hr;simp only[ay]at h1;obtain⟨_,p,_,_,a,cap,rfl,_⟩:=h1;refine(hz _ _ w).mono ?_;rintro e w' ⟨q,rfl,hb⟩;exact⟨_,rfl,hb,λc'=>by simp [ay]⟩
 ·exact h0 _ _ _ _ h
theorem rA{P:Program}{t e:TypeId}(ht:P.underlying t=δ (.slice e))(a:Option Addr)(n m:Nat)(w:World):U8 P (binOp .eql t (.slice a n m) (.slice μ 0 0)) w=.ok (.bool a.isNone) w:=by simp [binOp,show(Op.equal t (.slice a n m) (.slice μ 0 0)).run P w=.ok a.isNone w from agK w 9999 t a n m ht]
theorem aqt(a:Option Addr)(cap:Nat)(w:World):Calls Tryz.prog 180 #[.slice a 0 cap] w λe w'=>∃q,e=.returned (.slice q 0 0)/\Below w.heap.size w w':=by
 go_enter Tryz.func180,Tryz.ntmps180
 cases a
 ·go_wp2_with (simp only[rA (Tryz.underlying157),UW,UM])
  go_ret
  exact⟨_,rfl,Below.refl _ _⟩
 ·go_wp2_with (simp only[rA (Tryz.underlying157),Yd,UM])
  go_ret
  exact⟨_,rfl,(Below.refl _ _).alloc (bN _) _⟩
theorem asd(a:Option Addr)(cap:Nat)(w:World):Calls Tryz.prog 97 #[.slice a 0 cap] w λe w'=>∃q,e=.returned (.slice q 0 0)/\Below w.heap.size w w':=by
 go_enter Tryz.func97,Tryz.ntmps97
 cases a
 ·go_wp2_with (simp only[rA (Tryz.underlying133),UW,UM])
  go_ret
  exact⟨_,rfl,Below.refl _ _⟩
 ·go_wp2_with (simp only[rA (Tryz.underlying133),Yd,UM])
  go_ret
  exact⟨_,rfl,(Below.refl _ _).alloc (bN _) _⟩
theorem aqv(a:Option Addr)(cap:Nat)(w:World):Calls Tryz.prog 64 #[.slice a 0 cap] w λe w'=>∃q,e=.returned (.slice q 0 0)/\Below w.heap.size w w':=by
 go_enter Tryz.func64,Tryz.ntmps64
 cases a
 ·go_wp2_with (simp only[rA (Tryz.underlying130),UW,UM])
  go_ret
  exact⟨_,rfl,Below.refl _ _⟩
 ·go_wp2_with (simp only[rA (Tryz.underlying130),Yd,UM])
  go_ret
  exact⟨_,rfl,(Below.refl _ _).alloc (bN _) _⟩
theorem at5(a:Option Addr)(cap:Nat)(w:World):Calls Tryz.prog 96 #[.slice a 0 cap] w λe w'=>∃q,e=.returned (.slice q 0 0)/\Below w.heap.size w w':=by
 go_enter Tryz.func96,Tryz.ntmps96
 cases a
 ·go_wp2_with (simp only[rA (Tryz.underlying68),UW,UM])
  go_ret
  exact⟨_,rfl,Below.refl _ _⟩
 ·go_wp2_with (simp only[rA (Tryz.underlying68),Yd,UM])
  go_ret
  exact⟨_,rfl,(Below.refl _ _).alloc (bN _) _⟩
theorem aqw(a:Option Addr)(cap:Nat)(w:World):Calls Tryz.prog 94 #[.slice a 0 cap] w λe w'=>∃q,e=.returned (.slice q 0 0)/\Below w.heap.size w w':=by
 go_enter Tryz.func94,Tryz.ntmps94
 cases a
 ·go_wp2_with (simp only[rA (Tryz.underlying48),UW,UM])
  go_ret
  exact⟨_,rfl,Below.refl _ _⟩
 ·go_wp2_with (simp only[rA (Tryz.underlying48),Yd,UM])
  go_ret
  exact⟨_,rfl,(Below.refl _ _).alloc (bN _) _⟩
theorem aqu(a:Option Addr)(cap:Nat)(w:World):Calls Tryz.prog 93 #[.slice a 0 cap] w λe w'=>∃q,e=.returned (.slice q 0 0)/\Below w.heap.size w w':=by
 go_enter Tryz.func93,Tryz.ntmps93
 cases a
 ·go_wp2_with (simp only[rA (Tryz.underlying99),UW,UM])
  go_ret
  exact⟨_,rfl,Below.refl _ _⟩
 ·go_wp2_with (simp only[rA (Tryz.underlying99),Yd,UM])
  go_ret
  exact⟨_,rfl,(Below.refl _ _).alloc (bN _) _⟩
theorem amq(a:Option Addr)(cap:Nat)(w:World):Calls Tryz.prog 91 #[.slice a 0 cap] w λe w'=>∃q,e=.returned (.slice q 0 0)/\Below w.heap.size w w':=by
 go_enter Tryz.func91,Tryz.ntmps91
 cases a
 ·go_wp2_with (simp only[rA (Tryz.underlying28),UW,UM])
  go_ret
  exact⟨_,rfl,Below.refl _ _⟩
 ·go_wp2_with (simp only[rA (Tryz.underlying28),Yd,UM])
  go_ret
  exact⟨_,rfl,(Below.refl _ _).alloc (bN _) _⟩
theorem ase(a:Option Addr)(cap:Nat)(w:World):Calls Tryz.prog 92 #[.slice a 0 cap] w λe w'=>∃q,e=.returned (.slice q 0 0)/\Below w.heap.size w w':=by
 go_enter Tryz.func92,Tryz.ntmps92
 cases a
 ·go_wp2_with (simp only[rA (Tryz.underlying23),UW,UM])
  go_ret
  exact⟨_,rfl,Below.refl _ _⟩
 ·go_wp2_with (simp only[rA (Tryz.underlying23),Yd,UM])
  go_ret
  exact⟨_,rfl,(Below.refl _ _).alloc (bN _) _⟩
theorem anI(a:Option Addr)(cap:Nat)(w:World):Calls Tryz.prog 95 #[.slice a 0 cap] w λe w'=>∃q,e=.returned (.slice q 0 0)/\Below w.heap.size w w':=by
 go_enter Tryz.func95,Tryz.ntmps95
 cases a
 ·go_wp2_with (simp only[rA (Tryz.underlying40),UW,UM])
  go_ret
  exact⟨_,rfl,Below.refl _ _⟩
 ·go_wp2_with (simp only[rA (Tryz.underlying40),Yd,UM])
  go_ret
  exact⟨_,rfl,(Below.refl _ _).alloc (bN _) _⟩
theorem aqx(a:Option Addr)(cap:Nat)(w:World):Calls Tryz.prog 104 #[.slice a 0 cap] w λe w'=>∃q,e=.returned (.slice q 0 0)/\Below w.heap.size w w':=by
 go_enter Tryz.func104,Tryz.ntmps104
 cases a
 ·go_wp2_with (simp only[rA (Tryz.underlying90),UW,UM])
  go_ret
  exact⟨_,rfl,Below.refl _ _⟩
 ·go_wp2_with (simp only[rA (Tryz.underlying90),Yd,UM])
  go_ret
  exact⟨_,rfl,(Below.refl _ _).alloc (bN _) _⟩
end
section
open Go.RowKit
def sH(W:World)(mb:Option Nat)(r:Nat)(es:Array MapEntry)(done:List MapEntry):Prop:=match mb with
 |none=>es=#[]/\done=[]/\∃a b c,W.heap[r]? =δ (.mapIter μ a b c)
 |some m=>∃aK,rZ es aK/\W.heap[m]? =δ (.map es aK)/\W.heap[r]? =δ (.mapIter (δ m) aK (done.map (·.born)).toArray aK)/\∃left,(done++left).Perm es.toList
def Ci(W:World)(mb:Option Nat)(es:Array MapEntry):Prop:=match mb with
 |none=>es=#[]
 |some m=>∃aK,rZ es aK/\W.heap[m]? =δ (.map es aK)
theorem Ci.below{W W':World}{mb:Option Nat}{es:Array MapEntry}(h:Ci W mb es)(hb:Below W.heap.size W W'):Ci W' mb es:=by
 cases mb with
 |none=>exact h
 |some m=>obtain⟨aK,h1,h2⟩:=h;exact⟨aK,h1,(hb.block m (mP.1 h2).1).trans h2⟩
theorem sH.walks{W W':World}{mb:Option Nat}{r:Nat}{es:Array MapEntry}{done:List MapEntry}(h:sH W mb r es done)(hk:KeepsWalks W W'):sH W' mb r es done:=by
 cases mb with
 |none=>obtain⟨h1,h2,a,b,c,h3⟩:=h;exact⟨h1,h2,a,b,c,hk.same _ _ h3 rfl⟩
 |some m=>obtain⟨aK,h1,h2,h3,h4⟩:=h;exact⟨aK,h1,hk.same _ _ h2 rfl,hk.same _ _ h3 rfl,h4⟩
theorem sH.iter{W:World}{mb:Option Nat}{r:Nat}{es:Array MapEntry}{done:List MapEntry}(h:sH W mb r es done):∃o:Obj,W.heap[r]? =δ o/\o.isWalk=θ:=by
 cases mb with
 |none=>obtain⟨h1,h2,a,b,c,h3⟩:=h;exact⟨_,h3,rfl⟩
 |some m=>obtain⟨aK,h1,h2,h3,h4⟩:=h;exact⟨_,h3,rfl⟩
theorem sH.len{W:World}{mb:Option Nat}{r:Nat}{es:Array MapEntry}{done:List MapEntry}(h:sH W mb r es done):done.length<=es.size:=by
 cases mb with
 |none=>obtain⟨h1,h2,_⟩:=h;subst h2;simp
 |some m=>obtain⟨aK,h1,h2,h3,left,h4⟩:=h;have:=h4.length_eq;simp at this;omega
theorem avk{W W':World}(hb:Below W.heap.size W W')(hh:W'.heap=W.heap):W.grownBy W' μ:=⟨hb.os,hb.tape,hb.output,hb.size,λk hk _=>hb.block k hk⟩
theorem Ci.range{P:Program}{W:World}{mb:Option Nat}{es:Array MapEntry}(h:Ci W mb es){t kt et:TypeId}(ht:P.underlying t=δ (.map kt et)):
  ∃o,(aDF t (.map mb)).run P W=.ok (.pointer (δ ⟨W.heap.size,0,μ⟩)) (W.alloc o)/\sH (W.alloc o) mb W.heap.size es []:=by
 cases mb with
 |none=>exact⟨.mapIter μ 0 #[] 0,by simp [aDF,run_underlying ht,newObj,U8],h,rfl,_,_,_,WT W _⟩
 |some m=>
  obtain⟨aK,h1,h2⟩:=h;have xy:(getObj m).run P W=.ok (.map es aK) W:=by simp [getObj,U8,show W.heap[m]? =_ from h2]
  exact⟨.mapIter (δ m) aK #[] aK,by simp [aDF,run_underlying ht,xy,newObj,U8],aK,h1,(Below.heap_alloc W _ m (mP.1 h2).1).trans h2,WT W _,es.toList,by simp⟩
theorem sH.aht{W:World}{mb:Option Nat}{r:Nat}{es:Array MapEntry}{done:List MapEntry}{e:MapEntry}(h:sH W mb r es (done++[e])):∃m,mb=δ m:=by
 cases mb with
 |none=>obtain⟨_,h2,_⟩:=h;simp at h2
 |some m=>exact⟨m,rfl⟩
theorem sH.next{P:Program}{W:World}{mb:Option Nat}{r:Nat}{es:Array MapEntry}{done:List MapEntry}(h:sH W mb r es done)(hmr:mb≠δ r)(ty:TypeId):
  (done.Perm es.toList/\∃W',(UX (.pointer (δ ⟨r,0,μ⟩)) ι ty).run P W=.ok (.tuple #[.bool ι]) W'/\W.grownBy W' μ)\/
  (∃e W',e∈es.toList/\(UX (.pointer (δ ⟨r,0,μ⟩)) ι ty).run P W=.ok (.tuple #[.bool θ,e.key,e.val]) W'/\sH W' mb r es (done++[e])/\W.grownBy W' (δ r)):=by
 cases mb with
 |none=>
  obtain⟨h1,h2,a,b,c,h3⟩:=h;subst h1 h2;have kR:(getObj r).run P W=.ok (.mapIter μ a b c) W:=by simp [getObj,U8,show W.heap[r]? =_ from h3]
  exact .inl ⟨by simp,W,by simp [UX,kR],⟨rfl,rfl,rfl,bN _,λ_ _ _=>rfl⟩⟩
 |some m=>
  obtain⟨aK,h7,h6,h3,left,hp⟩:=h;obtain⟨seen,Dk⟩:∃seen,seen=(done.map (·.born)).toArray:=⟨_,rfl⟩
  have hsc:∀e,seen.contains e=(done.map (·.born)).contains e:=λe=>by rw[Dk];simp
  rw[<-Dk]at h3;have kR:(getObj r).run P W=.ok (.mapIter (δ m) aK seen aK) W:=by simp [getObj,U8,show W.heap[r]? =_ from h3]
  have xy:(getObj m).run P W=.ok (.map es aK) W:=by simp [getObj,U8,show W.heap[m]? =_ from h6]
  obtain⟨L,hL⟩:∃L,L=es.filter (λe=>!seen.contains e.born):=⟨_,rfl⟩
  have D9:L.toList=es.toList.filter (λe=>!seen.contains e.born):=by rw[hL,Vh]
  have hnd:((done++left).map (·.born)).Nodup:=(hp.map _).nodup_iff.2 h7.2
  -- what is left, up to order
  have hLp:L.toList.Perm left:=by
   rw[D9];refine(hp.filter _).symm.trans ?_;rw[List.filter_append]
   have e1:done.filter (λe=>!seen.contains e.born)=[]:=by rw[List.filter_eq_nil_iff];intro e he;simp only[hsc,UK,aDb];simp only[Ua,gh];simpa using⟨e,he,rfl⟩
   have e2:left.filter (λe=>!seen.contains e.born)=left:=by rw[List.filter_eq_self];intro e he;simp only[hsc,UK];rw[Z6,List.nodup_append]at hnd;have:=hnd.2.2;rw[Bool.eq_false_iff];intro hc;have hc:=Ua.1 hc;exact this _ hc _ (gh.2 ⟨e,he,rfl⟩) rfl
   rw[e1,e2];exact List.Perm.refl _
  have hst:=h7.Yc seen.isEmpty;by_cases hl:L.size=0
  ·have hl0:es.filter (λe=>!seen.contains e.born)=#[]:=by rw[<-hL];exact Array.eq_empty_of_size_eq_zero hl
   obtain⟨j,w',hj,hch,hb,hw⟩:=choose_lt (P:=P) W (n:=1) (by omega);have hj0:j=0:=by omega
   subst hj0;refine .inl ⟨?_,w',?_,avk hb hw⟩
   ·have:left=[]:=by have:=hLp.length_eq;rw[Y8,hl]at this;exact xC this.symm
    subst this;simpa using hp
   ·simp only[UX,Ts,kR,UM,xy,hst,hl0];simp [-Go.run_choose,-aD7,hch]
  ·have hlt':∀e∈L.toList,e.born<aK:=λe he=>h7.1 e (by rw[D9]at he;exact(Tx.1 he).1)
   obtain⟨f1,f2⟩:=filter_all hlt'
   have hne:L.isEmpty=ι:=by rw[Array.isEmpty_eq_false_iff];intro k;rw[k]at hl;simp at hl
   obtain⟨j,w',hj,hch,hb,hw⟩:=choose_lt (P:=P) W (n:=L.size) (by omega);obtain⟨e,Oy⟩:∃e,L[j]? =δ e:=⟨_,wB hj⟩
   have n1:L.toList[j]? =δ e:=by rw[UE];exact Oy
   have heL:e∈L.toList:=dm n1;have h3':w'.heap[r]? =δ (.mapIter (δ m) aK seen aK):=by rw[hw];exact h3
   have hlt:r<w'.heap.size:=(mP.1 h3').1
   have sG:(setObj r (.mapIter (δ m) aK (seen.push e.born) aK)).run P w'=.ok () (w'.fO r (.mapIter (δ m) aK (seen.push e.born) aK)):=by simp [setObj,U8,h3',World.fO]
   obtain⟨la,lb,axp⟩:=List.append_of_mem (hLp.mem_iff.1 heL);refine .inr ⟨e,w'.fO r (.mapIter (δ m) aK (seen.push e.born) aK),by rw[D9]at heL;exact(Tx.1 heL).1,?_,⟨aK,h7,?_,?_,la++lb,?_⟩,⟨hb.os,hb.tape,hb.output,?_,λk hk hkr=>?_⟩⟩
   ·simp only[UX,Ts,kR,UM,xy,hst,<-hL,f1,f2,hne];simp [-Go.run_choose,-aD7,hch,Oy,sG]
   ·have axq:r≠m:=λk=>hmr (by rw[k])
    rw[xX _ axq,hw];exact h6
   ·rw[xh _ hlt,Dk];congr 2;simp
   ·refine List.Perm.trans ?_ hp;rw[lp,axp];exact List.Perm.append_left _ (show(e::(la++lb)).Perm (la++e::lb)from aC2.symm)
   ·rw[zk];exact hb.size
   ·rw[xX _ (λq=>hkr (by rw[q]))];exact hb.block k hk
theorem sH.entry{P:Program}{W:World}{m r:Nat}{es:Array MapEntry}{done:List MapEntry}{e:MapEntry}(h:sH W (δ m) r es (done++[e])):(Instr.entry (.pointer (δ ⟨r,0,μ⟩))).run P W=.ok (.tuple #[e.key,e.val]) W:=by
 obtain⟨aK,h7,h6,h3,left,hp⟩:=h;have kR:(getObj r).run P W=.ok (.mapIter (δ m) aK ((done++[e]).map (·.born)).toArray aK) W:=by simp [getObj,U8,show W.heap[r]? =_ from h3]
 have xy:(getObj m).run P W=.ok (.map es aK) W:=by simp [getObj,U8,show W.heap[m]? =_ from h6]
 have hf:es.find? (λx=>x.born==e.born)=δ e:=by rw[<-Array.find?_toList];exact find_born (f:=(·.born)) h7.2 (hp.mem_iff.1 (by simp))
 simp [Instr.entry,kR,xy,hf]
section
variable {F : Fence} {n : Nat} {P : Program} (w : World) {ops : Array Oper} {rest : List Oper} {o : Oper} {a : Act} {Q : Exit -> Act -> World -> Prop}
theorem arF(hg:o.guard=μ)(m:Operand)(t:TypeId)(hop:o.op=Op.range t m)(k e:TypeId)(ht:P.underlying t=δ (.map k e))(mb:Option Nat)(es:Array MapEntry)
  (hm:a.eval m=.map mb) (hs:Ci w mb es)
  (hK:∀w',sH w' mb w.heap.size es []->w.grownBy w' μ->w'.heap.size=w.heap.size+1->wpListIn F n P ops Q rest (a.put o.dst (.pointer (δ ⟨w.heap.size,0,μ⟩))) w'):
  wpListIn F n P ops Q (o::rest) a w:=by
 refine wpListIn_plain hg λK' SP=>?_
 obtain⟨o',hrun,r1⟩:=hs.range (P:=P) ht;unfold Oper.wpIn;refine⟨?_,?_⟩
 ·simp [Oper.about,hop]
 ·rw[Oper.semAt_plain F _ _ (by rw[hop];intro c sO;cases sO)];simp [execOp,hop,hm,hrun,Result.andThen];exact SP _ _ (hK _ r1 (World.grownBy_alloc w o' μ) (by simp))
theorem atJ(hg:o.guard=μ)(it:Operand)(hop:o.op=Op.next it ι)(mb:Option Nat)(r:Nat)(es:Array MapEntry)(done:List MapEntry)
  (hit:a.eval it=.pointer (δ ⟨r,0,μ⟩)) (h:sH w mb r es done) (hmr:mb≠δ r)
  (hDone:∀w',done.Perm es.toList->w.grownBy w' μ->wpListIn F n P ops Q rest (a.put o.dst (.tuple #[.bool ι])) w')
  (hMore:∀(e:MapEntry)(w':World),e∈es.toList->sH w' mb r es (done++[e])->w.grownBy w' (δ r)->(Instr.entry (.pointer (δ ⟨r,0,μ⟩))).run P w'=.ok (.tuple #[e.key,e.val]) w'->wpListIn F n P ops Q rest (a.put o.dst (.tuple #[.bool θ,e.key,e.val])) w'):
  wpListIn F n P ops Q (o::rest) a w:=by
 refine wpListIn_plain hg λK' SP=>?_
 unfold Oper.wpIn;refine⟨by simp [Oper.about,hop],?_⟩;rw[Oper.semAt_plain F _ _ (by rw[hop];intro c sO;cases sO)];rcases h.next (P:=P) hmr o.type with⟨h0,W',hrun,hg'⟩|⟨e,W',he,hrun,h',hg'⟩
 ·simp [execOp,hop,hit,hrun,Result.andThen];exact SP _ _ (hDone W' h0 hg')
 ·simp [execOp,hop,hit,hrun,Result.andThen];obtain⟨m,rfl⟩:=h'.aht;exact SP _ _ (hMore e W' he h' hg' h'.entry)
end
end
section
open Go.RowKit Go.Sort
def uC(k:aC):Value:=.agg #[.int ξ k.unit,.string k.param]
def NG:Value->aC
 |.agg #[.int _ u,.string s]=>⟨u,s⟩
 |_=>⟨0,⟨#[]⟩⟩
theorem Xe(l:List aC):(l.map uC).map NG=l:=by
 rw[YG];conv=>rhs;rw[<-List.map_id l]
 exact Yq λk _=>rfl
theorem apM{a b:List aC}(h:(a.map uC).Perm (b.map uC)):a.Perm b:=by have:=h.map NG;rwa[Xe,Xe]at this
def xm(es:List MapEntry)(ks:List aC):Prop:=es.map (·.key)=ks.map uC
theorem xm.mem{es:List MapEntry}{ks:List aC}(h:xm es ks){e:MapEntry}(he:e∈es):∃k,e.key=uC k:=by have:e.key∈es.map (·.key):=gh.2 ⟨e,he,rfl⟩;rw[h]at this;obtain⟨k,_,hk⟩:=gh.1 this;exact⟨k,hk.symm⟩
set_option maxHeartbeats 1000000 in
theorem apq(F:Fence)(n:Nat)(D7:F.fn 119)(hro:F.round=μ)(hn:1<=n)(l Bm off:Nat)(mb:Option Nat)(es:Array MapEntry)(ks:List aC)(hks:xm es.toList ks)(J:List aC->World->Prop)
  (hY:∀pre x W,J pre W->pre.length<es.size->YieldAt F (n-1) Tryz.prog l #[uC x] W λe W'=>e=.returned (.bool θ)/\J (pre++[x]) W'/\KeepsWalks W W')
  (W:World) (hJ:AbidesFrom W.heap.size J) (hm:W.cell? ⟨Bm,off,μ⟩=δ (.map mb)) (hs:Ci W mb es) (h0:J [] W):
  CallsIn F n Tryz.prog 119 #[.func (.yield l) #[] #[],.pointer (δ ⟨Bm,off,μ⟩)] W λe W'=>(∃v,e=.returned v)/\∃ss:List aC,ss.Perm ks/\J ss W':=by
 have hsz:∀m,mb=δ m->m<W.heap.size:=λm e=>by subst e;obtain⟨_,_,h⟩:=hs;exact(mP.1 h).1
 refine callsIn_of_wp Tryz.func119 rfl D7 ?_ hro;simp only[Tryz.ntmps119,Zs,YZ,UB,Nat.reduceAdd,Nat.reduceSub,Array.replicate_succ,Array.replicate_zero,List.push_toArray,List.append_toArray,V7,oJ]
 gi_wp2_with (first
  |(gi_at_range;refine arF _ rfl _ 107 rfl _ _ Tryz.underlying107 mb es rfl hs ?_;intro w0 axB HY hs0)
  |gi_in)
 go_frame
 gi_loopw [3] (λ_ wr=>∃(done:List MapEntry)(ss:List aC),sH wr mb W.heap.size es done/\xm done ss/\J ss wr)
  (λ_ wr=>match wr.heap[W.heap.size]? with|some (.mapIter _ _ seen _)=>es.size-seen.size|_=>0)
 case atStart=>
  exact⟨[],[],axB,rfl,hJ [] W w0 μ h0 HY (λr e=>by cases e)⟩
 case round=>
  obtain⟨done,ss,hit,SC,hJs⟩:=hrel;have hmr:mb≠δ W.heap.size:=λe=>aDH _ (hsz _ e)
  gi_wp2_with (first
   |(gi_at_next;refine atJ _ rfl _ rfl mb W.heap.size es done rfl hit hmr ?_ ?_)
   |gi_in)
  ·intro w' hp hg
   gi_wp2
   go_end0
   refine⟨⟨_,rfl⟩,ss,?_,hJ ss wr w' μ hJs hg (λr e=>by cases e)⟩;have h1:=hp.map (·.key);rw[SC,hks]at h1;exact apM h1
  ·intro e w' he ahJ hg FP;obtain⟨k,hk⟩:=hks.mem (by simpa using he);rw[hk]at FP ⊢;unfold uC at FP ⊢;obtain⟨W2,Ak⟩:∃W2,w'.alloc (.cells #[.int ξ k.unit,.string k.param] 45)=W2:=⟨_,rfl⟩
   have axo:xm (done++[e]) (ss++[k]):=by unfold xm at SC ⊢;rw[Z6,Z6,SC,eP,Vl,eP,Vl,hk]
   have sQ:done.length=ss.length:=by have:=congrArg WD SC;simpa using this
   have rS:=ahJ.len;rw[ZY,Wa]at rS;have hJ1:J ss w':=hJ ss wr w' (δ W.heap.size) hJs hg (λr q=>by cases q;exact⟨bN _,hit.iter⟩);have hg2:w'.grownBy W2 μ:=by rw[<-Ak];exact World.grownBy_alloc w' _ μ
   have hJ2:J ss W2:=hJ ss w' W2 μ hJ1 hg2 (λr q=>by cases q);have hk2:KeepsWalks w' W2:=by rw[<-Ak];exact aDI _ _
   obtain⟨fn,tmps,assign,body,hy,hR⟩:=hY ss k W2 hJ2 (by omega);unfold uC at hy;subst Ak;clear hg2 hJ2 hJ1
   gi_wp2
   refine hR.mono ?_;rintro e W3 ⟨rfl,hJ3,hk3⟩
   gi_wp2
   have ar3:=(ahJ.walks hk2).walks hk3
   go_roundw
   case rel=>exact⟨_,ss++[k],ar3,axo,hJ3⟩
   case measure=>
    obtain⟨m,rfl⟩:=ar3.aht;obtain⟨_,_,_,a1,_⟩:=ar3;obtain⟨_,_,_,a2,_⟩:=hit;rw[a1,a2];simp;omega
def rfC:Code->Code×Code
 |.seq _ (.seq (.seq _ (.block _ (.rangeFunc _ _ a b))) _)=>(a,b)
 |_=>(.ret,.ret)
def KD:Code×Code:=match Tryz.prog.funcs[171]? with
 |some f=>(match f.body with|some c=>rfC c|none=>(.ret,.ret))
 |none=>(.ret,.ret)
def ym(x:aC):List Value:=[.int ξ x.unit,.string x.param]
def zG (fn:FuncId) (sv:Value) (Bs D:Nat) (st:LoopState) (axZ:Option Code):Loop:={state:=st,pending:=axZ,fn,tmps:=#[.slice μ 0 0,sv,.pointer (δ ⟨Bs,0,μ⟩),undef,.slice μ 0 0,undef,sv,undef,undef,undef,undef,undef,undef],params:=#[7],assign:=KD.1,body:=KD.2,defers:=D}
structure Nd (w0 : World) (fn : FuncId) (sv : Value) (Bs l D : Nat) (ss : List aC) (W : World) : Prop where
 box:∃v,W.heap[Bs]? =δ (.cells #[v] 93 (0,0))/\W.ownsRow w0.heap.size 45 2 v ss.length (ss.flatMap ym)/\(v=.slice μ 0 0↔ss=[])
 L:W.heap[l]? =δ (.loop (zG fn sv Bs D .ready μ))
 K:W.heap[D]? =δ (.deferred (δ []))
 below:Below w0.heap.size w0 W
theorem akn{W W':World}{row:Option Nat}{base:Nat}{e:TypeId}{size:Nat}{v:Value}{k:Nat}{xs:List Value}(h:W.ownsRow base e size v k xs)(hg:W.grownBy W' row)
  (hrow:∀r,row=δ r->∃o:Obj,W.heap[r]? =δ o/\o.isWalk=θ):W'.ownsRow base e size v k xs:=by
 refine h.kept hg ?_;rcases h.2 with⟨rfl,_⟩|⟨g,cap,cur,rfl,_,Cy,_⟩
 ·exact .inl rfl
 ·refine .inr λe'=>?_
  obtain⟨o,ho,hw⟩:=hrow g (by simpa [aDc]using e'.symm);rw[Cy]at ho;cases ho;cases hw
theorem aoW(w0:World)(fn:FuncId)(sv:Value)(Bs l D B:Nat)(hB:w0.heap.size<=B):AbidesFrom B (Nd w0 fn sv Bs l D):=λs W W' row h hg hrow=>by
 have Se:∀r,row=δ r->∃o:Obj,W.heap[r]? =δ o/\o.isWalk=θ:=λr e=>(hrow r e).2
 obtain⟨v,hv,hr,hn⟩:=h.box
 exact⟨⟨v,(grownBy_keeps hg Se hv rfl).trans hv,akn hr hg Se,hn⟩,(grownBy_keeps hg Se h.L rfl).trans h.L,(grownBy_keeps hg Se h.K rfl).trans h.K,
  h.below.grown hg h.below.size (λk e=>UT hB (hrow k e).1)⟩
theorem IJ(W:World)(l:Nat)(o:Obj):W.grownBy (W.putObj l o) (δ l):=
 ⟨rfl,rfl,rfl,by simp,λk _ hk=>Tw (λe=>hk (by rw[e]))⟩
theorem ajP(W:World)(b:Nat)(v:Value):W.grownBy (W.setCell ⟨b,0,μ⟩ v) (δ b):=
 ⟨rfl,rfl,rfl,(KeepsWalks.setCell W _ v).size,λk _ hk=>Below.heap_setCell _ _ _ k (λe=>hk (by rw[e]))⟩
theorem I8{W:World}{base:Nat}{e:TypeId}{size:Nat}{v:Value}{k:Nat}{xs:List Value}(h:W.ownsRow base e size v k xs){j:Nat}{o:Obj}(hj:W.heap[j]? =δ o)(hno:∀cur,o≠.cells cur e (0,0)):
  v.ownBlock=μ\/v.ownBlock≠δ j:=by
 rcases h.2 with⟨rfl,_⟩|⟨g,cap,cur,rfl,_,Cy,_⟩
 ·exact .inl rfl
 ·refine .inr λe'=>?_
  have:g=j:=by simpa [aDc]using e'
  subst this;rw[Cy]at hj;cases hj;exact hno cur rfl
theorem aas{W:World}{B:Nat}{v:Value}{t:TypeId}(h:W.heap[B]? =δ (.cells #[v] t (0,0))):W.cell? ⟨B,0,μ⟩=δ v/\W.frozen? ⟨B,0,μ⟩=ι:=by constructor<;>simp [Xd,World.frozen?,h]
theorem ajS{W:World}{B:Nat}{v:Value}{t:TypeId}(v':Value)(h:W.heap[B]? =δ (.cells #[v] t (0,0))):(W.setCell ⟨B,0,μ⟩ v').heap[B]? =δ (.cells #[v'] t (0,0)):=by obtain⟨hlt,hk⟩:=mP.1 h;show(W.heap.modify B _)[B]? =_;rw[wB (by rw[Array.size_modify];exact hlt),Array.getElem_modify_self,hk];rfl
theorem ajT{W:World}{base:Nat}{e:TypeId}{size:Nat}{v:Value}{k:Nat}{xs:List Value}(h:W.ownsRow base e size v k xs):∀(j:Nat)(o:Obj),v.ownBlock=δ j->W.heap[j]? =δ o->o.isWalk=ι:=by
 intro j o hj ho;rcases h.2 with⟨rfl,_⟩|⟨g,cap,cur,rfl,_,Cy,_⟩
 ·simp [aDc]at hj
 ·have:g=j:=by simpa [aDc]using hj
  subst this;rw[Cy]at ho;cases ho;rfl
set_option maxHeartbeats 2000000 in
theorem arP(F:Fence)(m:Nat)(w0:World)(fn:FuncId)(hfn:F.fn fn)(sv:Value)(Bs l D:Nat)(Z2:Bs≠l)(hDl:D≠l)(hDB:D≠Bs)(h0B:w0.heap.size<=Bs)(h0l:w0.heap.size<=l)
  (N:Nat) (hN:N<=maxLen) (hNb:N*24<=140737488355328) (ss:List aC) (x:aC) (W:World) (h:Nd w0 fn sv Bs l D ss W) (hlen:ss.length<N):
  YieldAt F m Tryz.prog l #[uC x] W λe W'=>e=.returned (.bool θ)/\Nd w0 fn sv Bs l D (ss++[x]) W'/\KeepsWalks W W':=by
 obtain⟨i0,hi,gQ,hz1,Ia⟩:∃i,Tryz.prog.info? 45=δ i/\i.zero=δ (.agg #[.int ξ 0,.string ⟨#[]⟩])/\i.size=2/\i.bytes=24:=⟨_,rfl,rfl,rfl,rfl⟩
 obtain⟨v,hv,hrow,_⟩:=h.box;refine⟨fn,#[.slice μ 0 0,sv,.pointer (δ ⟨Bs,0,μ⟩),undef,.slice μ 0 0,undef,sv,uC x,undef,undef,undef,undef,undef],KD.1,KD.2,by simpa [zG]using run_yield (P:=Tryz.prog) (args:=#[uC x]) h.L rfl,roundIn_of_wpIn hfn ?_⟩;have hl:l<W.heap.size:=(mP.1 h.L).1;have hB0:Bs<W.heap.size:=(mP.1 hv).1;have hD0:D<W.heap.size:=(mP.1 h.K).1;obtain⟨W1,vR⟩:∃W1,W1=W.alloc (.cells #[.int ξ x.unit,.string x.param] 45):=⟨_,rfl⟩
 have hs1:W1.heap.size=W.heap.size+1:=by rw[vR];simp
 have hk1:KeepsWalks W W1:=by rw[vR];exact aDI _ _
 have wT:∀k,k<W.heap.size->W1.heap[k]? =W.heap[k]? :=λk hk=>by rw[vR];exact Below.heap_alloc _ _ k hk
 have hn1:W1.heap[W.heap.size]? =δ (.cells #[.int ξ x.unit,.string x.param] 45 (0,0)):=by rw[vR];exact WT W _
 have KJ:=(wT l hl).trans h.L;have aCD:W1.ownsRow w0.heap.size 45 2 v ss.length (ss.flatMap ym):=by rw[vR];exact hrow.alloc _
 have vS:Below w0.heap.size w0 W1:=by rw[vR];exact h.below.alloc h.below.size _
 have hbr:=run_beginRound (P:=Tryz.prog) KJ rfl;obtain⟨W2,Ak⟩:∃W2,W1.putObj l (.loop {zG fn sv Bs D .ready μ with state:=.busy})=W2:=⟨_,rfl⟩
 rw[Ak]at hbr;have hg2:W1.grownBy W2 (δ l):=by rw[<-Ak];exact IJ _ _ _
 have hk2:KeepsWalks W1 W2:=by rw[<-Ak];exact KeepsWalks.putObj _ KJ rfl
 have Cz:W2.heap[Bs]? =δ (.cells #[v] 93 (0,0)):=by rw[<-Ak];exact(Tw Z2).trans ((wT Bs hB0).trans hv)
 have Z5:W2.heap[D]? =δ (.deferred (δ [])):=by rw[<-Ak];exact(Tw hDl).trans ((wT D hD0).trans h.K)
 have Z7:W2.heap[l]? =δ (.loop {zG fn sv Bs D .ready μ with state:=.busy}):=by rw[<-Ak];exact World.putObj_heap_same (by omega)
 have Sf:W2.ownsRow w0.heap.size 45 2 v ss.length (ss.flatMap ym):=aCD.kept hg2 (I8 aCD KJ (λcur e=>by cases e));have uR:Below w0.heap.size w0 W2:=vS.grown hg2 vS.size (λk e=>by cases e;exact h0l);have hn2:W2.heap[W.heap.size]? =δ (.cells #[.int ξ x.unit,.string x.param] 45 (0,0)):=by rw[<-Ak];exact(Tw (by omega)).trans hn1
 have hx0:W2.cell? ⟨W.heap.size,0,μ⟩=δ (.int ξ x.unit):=by simp [Xd,hn2]
 have hx1:W2.cell? ⟨W.heap.size,1,μ⟩=δ (.string x.param):=by simp [Xd,hn2]
 obtain⟨wQ,yU⟩:=aas Cz;have aw5:Bs<W2.heap.size:=(mP.1 Cz).1;have rS:l<W2.heap.size:=(mP.1 Z7).1;have aw6:D<W2.heap.size:=(mP.1 Z5).1;have axn:=hk1.trans hk2
 have Ya:∀{j:Nat}{o:Obj},W2.heap[j]? =δ o->(∀cur,o≠.cells cur 45 (0,0))->δ j≠v.ownBlock:=λhj hno=>by
  rcases I8 Sf hj hno with e|e
  ·rw[e];simp
  ·exact λe'=>e e'.symm
 clear Ak aCD vS hg2 hk1 hk2 wT hn1 KJ;subst vR;simp only[KD,Tryz.func171,Tryz.f171,rfC];unfold uC
 gi_wp2_with (first
  | (
    gi_at_builtin;refine wpListIn_append_own _ rfl _ _ 93 rfl w0.heap.size 45 i0 _ 2 24 Tryz.underlying93 hi gQ hz1 Ia rfl (by decide) _ _ _ rfl (Sf.alloc _) ⟨W2.heap.size,0,μ⟩ 1 1 [.int ξ x.unit,.string x.param] rfl rfl (λj u hj=>?_) (by simp [Value.oneCell']) (by omega) (by omega) (by have:=uR.size;simp;omega) ?_
    ·rcases j with _|_|j
     ·simp at hj;subst hj;simp [Addr.add]
     ·simp at hj;subst hj;simp [Addr.add]
     ·simp at hj
    intro v' w3 X3 hg3 azq;have OO:w3.heap[Bs]? =δ (.cells #[v] 93 (0,0)):=(hg3.block Bs (by simp;omega) (Ya Cz (λcur e=>by cases e))).trans ((Below.heap_alloc _ _ Bs aw5).trans Cz);obtain⟨Eb,hf3⟩:=aas OO
    obtain⟨g',cap',cur',rfl,azf,azM,jE,tY,KW,hr4⟩:∃g' cap' cur',v'=.slice (δ ⟨g',0,μ⟩) (ss.length+1) cap'/\w0.heap.size<=g'/\w3.heap[g']? =δ (.cells cur' 45 (0,0))/\ss.length+1<=cap'/\cap'<=maxLen/\cur'.size=cap'*2/\cur'.toList.take ((ss.length+1)*2)=ss.flatMap ym++[.int ξ x.unit,.string x.param]:=by
     rcases X3.2 with⟨_,h0⟩|h'
     ·exact absurd h0 (by omega)
     ·exact h'
    go_frame)
  |(rw[Oper.semAt_eq _ _ _ (λc h=>by cases h)];go_simp;try go_bits))
 have SB:(W2.alloc (.cells #[.int ξ x.unit,.string x.param] 45)).grownBy w3 v.ownBlock:=hg3;have hL3:w3.heap[l]? =δ (.loop {zG fn sv Bs D .ready μ with state:=.busy}):=(SB.block l (by simp;omega) (Ya Z7 (λcur e=>by cases e))).trans ((Below.heap_alloc _ _ l rS).trans Z7);have Ox:w3.heap[D]? =δ (.deferred (δ [])):=(SB.block D (by simp;omega) (Ya Z5 (λcur e=>by cases e))).trans ((Below.heap_alloc _ _ D aw6).trans Z5);obtain⟨w4,OP⟩:∃w4,w3.setCell ⟨Bs,0,μ⟩ (.slice (δ ⟨g',0,μ⟩) (ss.length+1) cap')=w4:=⟨_,rfl⟩
 rw[OP];have hg4:w3.grownBy w4 (δ Bs):=by rw[<-OP];exact ajP _ _ _
 have hv4:w4.heap[Bs]? =δ (.cells #[.slice (δ ⟨g',0,μ⟩) (ss.length+1) cap'] 93 (0,0)):=by rw[<-OP];exact ajS _ OO
 have SQ:w4.heap[l]? =δ (.loop {zG fn sv Bs D .ready μ with state:=.busy}):=(hg4.block l (mP.1 hL3).1 (λe=>Z2 (by cases e;rfl))).trans hL3;have hK4:w4.heap[D]? =δ (.deferred (δ [])):=(hg4.block D (mP.1 Ox).1 (λe=>hDB (by cases e;rfl))).trans Ox;have ahl:=X3.kept hg4 (I8 X3 OO (λcur e=>by cases e));have hl4:l<w4.heap.size:=(mP.1 SQ).1;have OC:Below w0.heap.size w0 w3:=(uR.alloc uR.size _).grown SB (by have:=uR.size;simp;omega) (λk e=>(Sf.lt k e).1);have hb4:Below w0.heap.size w0 w4:=OC.grown hg4 OC.size (λk e=>by cases e;exact h0B);have hk4:KeepsWalks W w4:=((axn.trans (aDI _ _)).trans (KeepsWalks.of_grownBy SB (ajT (Sf.alloc _)))).trans (by rw[<-OP];exact KeepsWalks.setCell _ _ _);clear OP;refine⟨_,_,run_endRound μ SQ,rfl,⟨⟨_,(Tw Z2).trans hv4,?_,by simp⟩,World.putObj_heap_same hl4,(Tw hDl).trans hK4,hb4.grown (IJ _ _ _) hb4.size (λk e=>by cases e;exact h0l)⟩,hk4.trans (KeepsWalks.putObj _ SQ rfl)⟩;have:=ahl.kept (IJ w4 l (.loop {{zG fn sv Bs D .ready μ with state:=.busy}with state:=if(μ:Option Code).isNone then .ready else .done,pending:=μ})) (I8 ahl SQ (λcur e=>by cases e));simpa [ym]using this
set_option maxHeartbeats 2000000 in
theorem alm(F:Fence)(n:Nat)(h11:F.fn 171)(hro:F.round=μ)(hn:2<=n)(g:Nat)(lb:Array Value)(hFg:F.fn g)(eg:∀args w,(callFunc g args).run Tryz.prog w=.ok (.enter g args) w)
  (S:List aC->Prop) (N:Nat) (hN:N<=maxLen) (hNb:N*24<=140737488355328) (w:World) (aBU:SeqGives F (n-1) Tryz.prog g lb uC S N w):
  CallsIn F n Tryz.prog 171 #[.slice μ 0 0,.func (.func g) #[] lb] w λe w'=>∃(v:Value)(ss:List aC),e=.returned v/\S ss/\w'.ownsRow w.heap.size 45 2 v ss.length (ss.flatMap ym)/\(v=.slice μ 0 0↔ss=[])/\Below w.heap.size w w':=by
 have h1:1<=n:=by omega
 refine callsIn_of_wp_marks Tryz.func171 rfl h11 ?_ hro;simp only[Tryz.ntmps171,Zs,YZ,UB,Nat.reduceAdd,Nat.reduceSub,Array.replicate_succ,Array.replicate_zero,List.push_toArray,List.append_toArray,V7,oJ]
 gi_wp2
 refine wpIn_rangeFunc ?_;intro fn hfn;rw[hro];obtain⟨W0,vQ⟩:∃W0,w.alloc (.cells #[.slice μ 0 0] 93)=W0:=⟨_,rfl⟩
 have hs0:W0.heap.size=w.heap.size+1:=by rw[<-vQ];simp
 have hv0:W0.heap[w.heap.size]? =δ (.cells #[.slice μ 0 0] 93 (0,0)):=by rw[<-vQ];exact WT w _
 have hb0:Below w.heap.size w W0:=by rw[<-vQ];exact(Below.refl _ w).alloc (bN _) _
 rw[vQ];obtain⟨W1,vR⟩:∃W1,(W0.alloc (.deferred (δ []))).alloc (.loop (zG fn (.func (.func g) #[] lb) w.heap.size W0.heap.size .ready μ))=W1:=⟨_,rfl⟩
 have hold:∀k,k<W0.heap.size->W1.heap[k]? =W0.heap[k]? :=λk hk=>by rw[<-vR];exact(Below.heap_alloc _ _ k (by simp;omega)).trans (Below.heap_alloc _ _ k hk)
 have vS:Below w.heap.size w W1:=by rw[<-vR];exact(hb0.alloc hb0.size _).alloc (by have:=hb0.size;simp;omega) _
 have hs1:W1.heap.size=W0.heap.size+2:=by rw[<-vR];simp
 have hM:Nd w fn (.func (.func g) #[] lb) w.heap.size (W0.heap.size+1) W0.heap.size [] W1:=
  ⟨⟨_,(hold w.heap.size (by omega)).trans hv0,⟨rfl,.inl ⟨rfl,rfl⟩⟩,by simp⟩,
   by rw[<-vR];have:=WT (W0.alloc (.deferred (δ []))) (.loop (zG fn (.func (.func g) #[] lb) w.heap.size W0.heap.size .ready μ));rwa[World.size_alloc]at this,
   by rw[<-vR];exact(Below.heap_alloc _ _ _ (by simp)).trans (WT W0 _),vS⟩
 refine⟨W0.heap.size+1,[{target:=.collected W0.heap.size,args:=#[]}],W1,{target:=.fn (.func g) lb,args:=#[.func (.yield (W0.heap.size+1)) #[] #[]]},W1,g,
  #[.func (.yield (W0.heap.size+1)) #[] #[]]++lb,W1,?_,?_,?_,?_,λ_=>h1,?_⟩
 ·rw[<-vR];unfold zG;simp only[KD,Tryz.func171,Tryz.f171,rfC];exact run_enterLoop_outer _ _ _ _ _
 ·simp [resolve,go_sem]
 ·intro f' hf';simp [Target.leads]at hf';subst hf';exact hFg
 ·simp [invoke,go_sem,eg]
 ·refine(aBU (W0.heap.size+1) (Nd w fn (.func (.func g) #[] lb) w.heap.size (W0.heap.size+1) W0.heap.size) W1 vS (aoW _ _ _ _ _ _ _ vS.size)
   (λpre x W hJ hl=>arP F (n-1-1) w fn hfn _ w.heap.size (W0.heap.size+1) W0.heap.size (by omega) (by omega) (by omega) (bN _) (by omega) N hN hNb pre x W hJ hl) hM).mono ?_
  rintro e W2 ⟨⟨v0,rfl⟩,ss,hS,h2⟩;obtain⟨v,hv,hrow,Km⟩:=h2.box;have hend:=run_endLoop (P:=Tryz.prog) h2.L (by simp [zG]);obtain⟨W3,OB⟩:∃W3,W2.putObj (W0.heap.size+1) (.loop {zG fn (.func (.func g) #[] lb) w.heap.size W0.heap.size .ready μ with state:=.exhausted})=W3:=⟨_,rfl⟩
  rw[OB]at hend;have hg3:W2.grownBy W3 (δ (W0.heap.size+1)):=by rw[<-OB];exact IJ _ _ _
  have OO:W3.heap[w.heap.size]? =δ (.cells #[v] 93 (0,0)):=by rw[<-OB];exact(Tw (by omega)).trans hv
  have Ox:W3.heap[W0.heap.size]? =δ (.deferred (δ [])):=by rw[<-OB];exact(Tw (by omega)).trans h2.K
  have ahk:=hrow.kept hg3 (I8 hrow h2.L (λcur e=>by cases e));have OC:Below w.heap.size w W3:=h2.below.grown hg3 h2.below.size (λk e=>by cases e;omega);obtain⟨Eb,hf3⟩:=aas OO;clear OB;refine⟨μ,W3,hend,?_⟩
  gi_wp2
  rw[<-hs0];refine⟨by simp,.inl ⟨_,_,rfl,run_takeDeferred Ox,?_⟩⟩;exact⟨_,results_tmp rfl _ _ _,v,ss,rfl,hS,ahk.kept (IJ _ _ _) (I8 ahk Ox (λcur e=>by cases e)),Km,OC.grown (IJ _ _ _) OC.size (λk e=>by cases e;omega)⟩
theorem alU(Bm off:Nat)(mb:Option Nat)(es:Array MapEntry)(ks:List aC)(hks:xm es.toList ks)(hlen:ks.length<=1000000)(w:World)(hm:w.cell? ⟨Bm,off,μ⟩=δ (.map mb))(azX:Bm<w.heap.size)(hs:Ci w mb es):
  Calls Tryz.prog 117 #[.func (.func 119) #[] #[.pointer (δ ⟨Bm,off,μ⟩)]] w λe w'=>∃(v:Value)(ss:List aC),e=.returned v/\ss.Perm ks/\w'.ownsRow w.heap.size 45 2 v ss.length (ss.flatMap ym)/\(v=.slice μ 0 0↔ss=[])/\Below w.heap.size w w':=by
 have hl:es.size=ks.length:=by have:=congrArg WD hks;simpa using this
 have aBU:∀W,Below w.heap.size w W->SeqGives Fence.wide 8 Tryz.prog 119 #[.pointer (δ ⟨Bm,off,μ⟩)] uC (λss=>ss.Perm ks) es.size W:=λW hW l J W1 vR hJ hY h0=>by have hb:Below w.heap.size w W1:=hW.trans (vR.mono hW.size);exact apq Fence.wide 8 trivial rfl (by omega) l Bm off mb es ks hks J hY W1 hJ (by rw[cell_of_block (hb.block Bm azX)];exact hm) (hs.below hb) h0
 have hN0:es.size<=maxLen:=UT (by omega) (show(1000000:Nat)<=maxLen by decide);have hA:=λW(hW:Below w.heap.size w W)=>callsIn_wide.1 (alm Fence.wide 9 trivial rfl (by omega) 119 #[.pointer (δ ⟨Bm,off,μ⟩)] trivial Tryz.call119 (λss=>ss.Perm ks) es.size hN0 (by omega) W (aBU W hW))
 have hA0:=hA w (Below.refl _ _)
 go_enter Tryz.func117,Tryz.ntmps117
 go_wp2_with (go_at_call 171;refine hA0.mono ?_;rintro e w' ⟨v,ss,rfl,hS,hrow,Km,hb⟩)
 go_ret
 exact⟨v,ss,rfl,hS,hrow,Km,hb⟩
end
section
open Go.RowKit
theorem al6{P:Program}(w:World)(tS tR e:TypeId)(ht:P.underlying tS=δ (.slice e))(size:Nat)(hz:∀w,(Go.sizeOf e).run P w=.ok size w)
  (a b:Addr) (la ca lb cb:Nat) (hne:a.block≠b.block) (arr zQ:Array Value) (tA tB:TypeId) (fz:Nat×Nat)
  (ha:w.heap[a.block]? =δ (.cells arr tA fz)) (hs:0<arr.size) (hb:w.heap[b.block]? =δ (.cells zQ tB (0,0))):
  (Ws #[tS,tS] #[tR] #[.slice (δ a) la ca,.slice (δ b) lb cb]).run P w=.ok (.bool ι) w:=by
 have hnb:(a.block !=b.block)=θ:=by simpa using hne
 have axt:(a.block==b.block)=ι:=by simpa using hne
 have hsa:w.shape? a.block=δ (tA,arr.size):=by simp [World.shape?,ha]
 have hsb:w.shape? b.block=δ (tB,zQ.size):=by simp [World.shape?,hb]
 have hfb:w.frozen? b=ι:=by simp [World.frozen?,hb]
 have axi:w.frozen? {block:=b.block,off:=zQ.size}=ι:=by simp [World.frozen?,hb]
 delta Ws Ws.match_4 Ws._sparseCasesOn_4;dsimp [Array.getLit,Array.casesOn];obtain⟨k,hk⟩:∃k,arr.size=k+1:=⟨arr.size-1,by omega⟩
 rw[hk]at hsa;by_cases h0:la=0\/lb=0\/size=0
 ·simp [run_underlying ht,hz,h0]
 ·cases hfa:w.frozen? a<;>cases hfe:w.frozen? {block:=a.block,off:=k+1}<;>simp [run_underlying ht,hz,h0,hnb,axt,frozen,noView,viewAt,mayBeOne,stringish,shape,U8,hsa,hsb,hfa,hfe,hfb,axi]
theorem aqo{w:World}{b off:Nat}{v:Value}(h:w.cell? ⟨b,off,μ⟩=δ v):∃arr t fz,w.heap[b]? =δ (.cells arr t fz)/\0<arr.size:=by
 unfold Xd at h;simp only at h;split at h
 ·rename_i arr t fz hh;refine⟨arr,t,fz,hh,?_⟩;simp only[Option.isSome_none,YQ,if_false]at h;have:=(mP.1 h).1;omega
 ·cases h
theorem akW {P : Program} {nm : List Nat} {f : FuncId} {fn : Func} {tS tR e : TypeId} {i : TypeInfo} (hf : P.funcs[f]? = δ fn) (h1 : (fn.name == "runtime.NumGoroutine") = ι) (h2 : fn.body.isNone = θ) (h3 : Extern.findNext fn = μ)
  (h4:Extern.find fn=δ (Ws #[tS,tS] #[tR])) (ht:P.underlying tS=δ (.slice e)) (hi:P.info? e=δ i):Sound P nm f BD:=by
 intro args σ r σ' h;unfold BD Xw at h;split at h
 ·simp only at h;split at h
  ·rename_i sz es id g sz' off len;split at h
   ·rename_i HY ss es' hs;split at h
    ·rename_i hc;obtain⟨hne,rfl,qJ,hl⟩:=hc;simp only[Θ,T4]at h;obtain⟨rfl,rfl⟩:=h;refine .inr λz vs e1 e2 hh ha=>?_
     obtain⟨v,u,rfl,r1,r2⟩:=M6 ha;simp only[ay]at r1 r2;obtain⟨a,cap,rfl,hcap,axH,r1⟩:=r1;obtain⟨b,tQ,rfl,hb,hX,r1⟩:=r1.resolve_left hne;obtain⟨hg,p,k1,k2,a',cap',rfl,azo,rx⟩:=r2;obtain⟨j1,j2,j3,j4,⟨arr,bt,j5,j6⟩,j7,j8,j9⟩:=hh.blk id p _ k1 hs;obtain⟨q1,q2,q3⟩:=rx j1.symm;have hsz:∀w,(Go.sizeOf e).run P w=.ok i.size w:=λw=>by simp [sizeOf,zc w hi]
     have ha':a'=⟨p.b,p.base+off*p.sz,μ⟩:=q2.resolve_left (by omega);have hpb:b≠p.b:=λk=>hX (.inr (.inl ⟨p,dm k1,k.symm⟩))
     have hw5:z.w.heap[p.b]? =δ (.cells arr bt (0,0)):=j5
     have hcell:∃v,z.w.cell? ⟨b,tQ,μ⟩=δ v:=by
      cases es with
      |nil=>exact absurd rfl hne
      |cons x xs=>
       simp only[cA]at r1;obtain⟨l1,l2,_⟩:=r1;cases x with
       |nil=>simp at l1;omega
       |cons y ys=>simp only[bY]at l2;obtain⟨⟨v,l3,_⟩,_⟩:=l2;exact⟨v,l3⟩
     obtain⟨v,hv⟩:=hcell;obtain⟨avU,t0,fz0,m1,m2⟩:=aqo hv;have hrun:=al6 (P:=P) z.w tS tR e ht i.size hsz ⟨b,tQ,μ⟩ a' es.length cap len cap' (by rw[ha'];exact hpb) avU arr t0 bt fz0 m1 m2 (by rw[ha'];exact hw5);refine⟨.bool ι,z.w,z.E,?_,⟨rfl,rfl,rfl,bN _,λ_ _ _=>rfl,λi p hp=>.inr ⟨p,hp,rfl⟩,λi p hp=>⟨p,hp,.inl rfl⟩,e2,λp hp=>hh.lt hp⟩,hh,by simp [ay]⟩;rw[run_callFunc_extern hf h1 h2 h3 h4,hrun];rfl
    ·cases h
   ·cases h
  ·cases h
 ·cases h
theorem aiI:Sound Tryz.prog aN 228 BD:=akW Tryz.func228 (by kernel_rfl) (by kernel_rfl) (by kernel_rfl) (tS:=157) (tR:=4) (by kernel_rfl) (e:=221) (by kernel_rfl) rfl
end
section
theorem bq(s t:ByteArray):(s==t)=decide (s=t):=by obtain⟨a⟩:=s;obtain⟨b⟩:=t;show(a==b)=_;rw[pM];simp
section
variable {α β : Type}
theorem cT(t e:Option α):φ (.bool θ) t e=t:=rfl
theorem cF(t e:Option α):φ (.bool ι) t e=e:=rfl
theorem gTT(e d:Option α):η (.bool θ) θ e d=e:=rfl
theorem gTF(e d:Option α):η (.bool θ) ι e d=d:=rfl
theorem gFT(e d:Option α):η (.bool ι) θ e d=d:=rfl
theorem gFF(e d:Option α):η (.bool ι) ι e d=e:=rfl
theorem pT(x y:AV):UD (.bool θ) x y=δ x:=rfl
theorem pF(x y:AV):UD (.bool ι) x y=δ y:=rfl
theorem oT{p:Prop}[Decidable p]{w:Bool}{e d:Option α}{f:α->Option β}:(η (.bool (decide p)) w e d).bind f=if p then(η (.bool θ) w e d).bind f else(η (.bool ι) w e d).bind f:=by by_cases h:p<;>simp [h]
theorem oS{b w:Bool}{e d:Option α}{f:α->Option β}:(η (.bool b) w e d).bind f=match b with|true=>(η (.bool θ) w e d).bind f|false=>(η (.bool ι) w e d).bind f:=by cases b<;>rfl
theorem oR{p:Prop}[Decidable p]{t e:Option α}:φ (.bool (decide p)) t e=if p then t else e:=by by_cases h:p<;>simp [h,φ]
theorem oK{p:Prop}[Decidable p]{t e:Option α}:φ (.bool (!decide p)) t e=if p then e else t:=by by_cases h:p<;>simp [h,φ]
theorem oQ{b:Bool}{t e:Option α}:φ (.bool (!b)) t e=match b with|true=>e|false=>t:=by cases b<;>rfl
theorem oP{b:Bool}{t e:Option α}:φ (.bool b) t e=match b with|true=>t|false=>e:=by cases b<;>rfl
theorem gB(b w:Bool)(e d:Option α):η (.bool b) w e d=if b=w then e else d:=by cases b<;>cases w<;>rfl
theorem gN(w:Bool)(e d:Option α):η (.aM []) w e d=d:=rfl
theorem xN(a b:AX):(a==b)=decide (a=b):=by rw[pM];simp
end
section
variable (k : IntKind) (a b : Int) (p q : Prop) [Decidable p] [Decidable q] (s t : ByteArray) (x y : AV) (σ : Heap) (cs : aq)
theorem nQ:WE (.ah a) (.ah b)=δ (.ah (ξ.wrap (a+b))):=rfl
theorem tP:Uk (.ah a) (.ah b)=δ (.ah (ξ.wrap (a-b))):=rfl
theorem AW:Tu (.ah a) (.ah b)=δ (.ah (ξ.wrap (a*b))):=rfl
theorem ahC(h:b≠0):A.quo (.ah a) (.ah b)=δ (.ah (ξ.wrap (a.tdiv b))):=by simp [A.quo,h]
theorem avS(h:b≠0):A.rem (.ah a) (.ah b)=δ (.ah (a.tmod b)):=by simp [A.rem,h]
theorem nw:YY (.ah a) (.ah b)=δ (.bool (decide (a<b))):=rfl
theorem Ss:Ze (.ah a) (.ah b)=δ (.bool (decide (a<=b))):=rfl
theorem Kg:YK (.ah a) (.ah b)=δ (.bool (decide (b<a))):=rfl
theorem vD:YI (.ah a) (.ah b)=δ (.bool (decide (b<=a))):=rfl
theorem ag3:YY (.int .u8 a) (.int .u8 b)=δ (.bool (decide (a<b))):=rfl
theorem ag2:Ze (.int .u8 a) (.int .u8 b)=δ (.bool (decide (a<=b))):=rfl
theorem ag0:YK (.int .u8 a) (.int .u8 b)=δ (.bool (decide (b<a))):=rfl
theorem agZ:YI (.int .u8 a) (.int .u8 b)=δ (.bool (decide (b<=a))):=rfl
theorem jL:ZA .i (.int k a) (.int k b)=δ (.bool (decide (a=b))):=by simp only[ZA,WN,A.qH,if_true,cR];congr 2
theorem fV:UP .i (.int k a) (.int k b)=δ (.bool (decide (¬a=b))):=by simp only[UP,WN,A.qH,if_true,cR];congr 2;rw[pM];simp
theorem Yl:ZA .z (.str s) (.str t)=δ (.bool (decide (s=t))):=by simp only[ZA,WN,A.tV,cR,bq]
theorem Nf:UP .z (.str s) (.str t)=δ (.bool (decide (¬s=t))):=by simp only[UP,WN,A.tV,cR,bq];simp
theorem ahB(b:Bool):Wk (.bool b)=δ (.bool (!b)):=rfl
theorem ag4:Wk (.bool (decide p))=δ (.bool (decide (¬p))):=by simp [Wk]
theorem aLb:Tv (.lbx cs)=δ cs:=rfl
theorem agV(l:aq):Yn 0 (.aM (x::l))=δ x:=rfl
theorem agW(x0 x:AV)(l:aq):Yn 1 (.aM (x0::x::l))=δ x:=rfl
theorem agX(x0 x1 x:AV)(l:aq):Yn 2 (.aM (x0::x1::x::l))=δ x:=rfl
theorem agY(x0 x1 x2 x:AV)(l:aq):Yn 3 (.aM (x0::x1::x2::x::l))=δ x:=rfl
theorem aDe:χ (.rp cs) σ=δ cs:=rfl
theorem aFa(o:Nat):WC o (.rp cs)=δ (.rp (cs.drop o)):=rfl
theorem ag1:A.yE (.str s)=δ (.ah s.size):=rfl
theorem aCI(n:Int):Ψ (.int k n)=δ (.int k n):=rfl
theorem aCB(b:Bool):Ψ (.bool b)=δ (.bool b):=rfl
theorem aCS:Ψ (.str s)=δ (.str s):=rfl
theorem ahA(sz:Nat)(es:List aq):Ψ (.sl sz es)=δ (.sl sz es):=rfl
theorem p1D(o k:Nat):Γ o (cs.drop k)=Γ (k+o) cs:=by simp [Γ,ZW]
end
theorem gd0(a d:AV)(l:aq):(a::l).getD 0 d=a:=rfl
theorem gd1(a b d:AV)(l:aq):(b::a::l).getD 1 d=a:=rfl
theorem gd2(a b c d:AV)(l:aq):(b::c::a::l).getD 2 d=a:=rfl
theorem gd3(a b c e d:AV)(l:aq):(b::c::e::a::l).getD 3 d=a:=rfl
theorem gd4(a b c e f d:AV)(l:aq):(b::c::e::f::a::l).getD 4 d=a:=rfl
theorem gd5(a b c e f g d:AV)(l:aq):(b::c::e::f::g::a::l).getD 5 d=a:=rfl
theorem gd6(a b c e f g h d:AV)(l:aq):(b::c::e::f::g::h::a::l).getD 6 d=a:=rfl
theorem gd7(a b c e f g h i d:AV)(l:aq):(b::c::e::f::g::h::i::a::l).getD 7 d=a:=rfl
theorem gd8(a b c e f g h i j d:AV)(l:aq):(b::c::e::f::g::h::i::j::a::l).getD 8 d=a:=rfl
theorem cq{n:Int}(h:aY n):ξ.wrap n=n:=IntWalk.i64_in n h
theorem wrap_eq{ro:Bool}{fN:List Sh}{iU:Sh}{r:aq->Heap->aF}{args:aq}{σ σ':Heap}{v v':AV}(h:args.any A.own=ι)(e:r (TQ fN args) σ=δ (v,σ'))(hv:Y9 iU v=v'):Ω ro fN iU r args σ=δ (v',σ'):=by unfold Ω;rw[h,Wc,bQ,e];simp [hv]
theorem VM{v:AV}(n:Nat)(h:A.yB v=θ):A.fresh v=θ/\A.shift n v=v:=by cases v<;>first|exact⟨h,rfl⟩|cases h
theorem acN{v:AV}(n:Nat)(h:A.Ht v=θ):A.B6 v=θ/\A.AP n v=v:=by
 have key:(∀vs,v≠.aM vs)->A.B6 v=θ/\A.AP n v=v:=by intro k;have:=VM (v:=v) n;cases v<;>first|exact absurd rfl (k _)|exact this h
 by_cases ht:∃vs,v=.aM vs
 ·obtain⟨vs,rfl⟩:=ht;simp only[A.Ht,rN]at h;refine⟨by simp only[A.B6,rN];exact λx hx=>(VM n (h x hx)).1,?_⟩;simp only[A.AP];congr 1
  calc vs.map (A.shift n)=vs.map id:=Yq λx hx=>(VM n (h x hx)).2
   _=vs:=List.map_id vs
 ·exact key λvs e=>ht ⟨vs,e⟩
theorem ae4{fN:List Sh}{iU:Sh}{r:aq->Heap->aF}{args args':aq}{σ:Heap}{v:AV}(h:args.any A.own=θ)(hz:A.gP σ 0 8 args=δ args')(ho:args'.any A.own=ι)(e:Ω θ fN iU r args' []=δ (v,[]))(hs:A.Ht v=θ):Ω θ fN iU r args σ=δ (v,σ):=by unfold Ω at e ⊢;rw[ho,Wc,bQ]at e;obtain⟨⟨q1,q2⟩,e1,e2⟩:=fF.1 e;simp only[T4]at e2;obtain⟨rfl,rfl⟩:=e2;rw[h,Bool.and_self,cU,hz];simp [e1,(acN σ.length hs).1,(acN σ.length hs).2]
theorem bD(σ:Heap)(r:AV):wh σ r σ=δ (r,σ):=by simp [wh]
theorem adi(σ:Heap)(n d:Nat){a:AV}(h:A.uv a=θ):X4 σ n d a=δ a:=by
 cases a<;>simp only[A.uv]at h<;>first|(cases h;done)|skip
 case sl sz es=>cases es with
  |nil=>cases d<;>simp [X4,A.lK]
  |cons _ _=>simp at h
 all_goals cases d<;>simp [X4]
theorem acf(σ:Heap)(n d:Nat):∀{l:aq},l.all A.uv=θ->A.gP σ n d l=δ l
 |[],_=>by simp [A.gP]
 |a::l,h=>by simp only[aDz,jW]at h;simp [A.gP,adi σ n d h.1,acf σ n d h.2]
theorem adj(σ:Heap)(n d:Nat){a:AV}(h:A.yB a=θ):X4 σ n d a=δ a:=by
 unfold A.yB at h;split at h
 ·cases d<;>simp [X4,acf σ n _ h]
 ·exact adi σ n d h
theorem acg(σ:Heap)(n d:Nat):∀{l:aq},l.all A.yB=θ->A.gP σ n d l=δ l
 |[],_=>by simp [A.gP]
 |a::l,h=>by simp only[aDz,jW]at h;simp [A.gP,adj σ n d h.1,acg σ n d h.2]
theorem aqQ(σ:Heap)(n d:Nat){a:AV}(h:A.Ht a=θ):X4 σ n d a=δ a:=by
 unfold A.Ht at h;split at h
 ·cases d<;>simp [X4,acg σ n _ h]
 ·exact adj σ n d h
theorem Rg(σ bs:Heap){r:AV}(h:A.Ht r=θ):wh σ r (σ++bs)=δ (r,σ):=by
 unfold wh;split
 ·rfl
 ·rw[aP (by simp),aqQ _ _ _ h];rfl
theorem Xh(σ bs:Heap)(k:IntKind)(n:Int):wh σ (.int k n) (σ++bs)=δ (.int k n,σ):=Rg σ bs rfl
theorem aej(σ bs:Heap)(b:Bool):wh σ (.bool b) (σ++bs)=δ (.bool b,σ):=Rg σ bs rfl
theorem afh(σ bs:Heap)(s:ByteArray):wh σ (.str s) (σ++bs)=δ (.str s,σ):=Rg σ bs rfl
theorem aek(σ bs:Heap):wh σ (.aM []) (σ++bs)=δ (.aM [],σ):=Rg σ bs rfl
theorem SS(σ bs:Heap)(j:Nat):(σ++bs)[σ.length+j]? =bs[j]? :=by rw[jq (by omega)];congr 1;omega
theorem Kj(σ bs:Heap):(σ++bs)[σ.length]? =bs[0]? :=by rw[jq (bN _),Yp]
theorem sG(σ bs:Heap)(j:Nat)(b:aW):(σ++bs).set (σ.length+j) b=σ++bs.set j b:=by rw[sy _ _ (by omega)];congr 2;omega
theorem aBV(σ bs:Heap)(b:aW):(σ++bs).set σ.length b=σ++bs.set 0 b:=by rw[sy _ _ (bN _),Yp]
section
variable {α : Type} (sz : Nat) (c : α -> aq) (l : List α)
theorem fu:UY (sl sz c l)=δ (.ah l.length):=by simp [sl,UY]
theorem lG{k:Nat}{x:α}(h:l[k]? =δ x):Zo sz (sl sz c l) (.ah (k:Int))=δ (.rp (c x)):=by have hk:k<l.length:=(bG.1 h).1;have hx:l[k]=x:=(bG.1 h).2;simp [Zo,sl,A.idx,hk,hx]
theorem apm{i:Int}{x:α}(h0:0<=i)(h:l[i.toNat]? =δ x):Zo sz (sl sz c l) (.ah i)=δ (.rp (c x)):=by have:=lG sz c l h;rwa[Wj h0]at this
end
inductive Rd (S R : Type) where
 |go(s:S)
 |out(r:R)
def Rd.el{S R γ:Type}(x:Rd S R)(f:S->γ)(g:R->γ):γ:=match x with|.go s=>f s|.out r=>g r
theorem zH{S R γ:Type}(s:S)(f:S->γ)(g:R->γ):(Rd.go s:Rd S R).el f g=f s:=rfl
theorem zy{S R γ:Type}(r:R)(f:S->γ)(g:R->γ):(Rd.out r:Rd S R).el f g=g r:=rfl
theorem B5{S R γ:Type}{p:Prop}[Decidable p](x y:Rd S R)(f:S->γ)(g:R->γ):(if p then x else y).el f g=if p then x.el f g else y.el f g:=by split<;>rfl
def l9{α S R:Type}(body:List α->α->S->Rd S R):List α->List α->S->Rd S R
 |_,[],s=>.go s
 |pre,x::l,s=>match body pre x s with|.go s'=>l9 body (pre++[x]) l s'|.out r=>.out r
theorem apo{f:aq->Heap->Option (AX×aq×Heap)}{v:aq}{σ:Heap}:∀{n m:Nat}{r r':AX×aq×Heap},Xj f n v σ=δ r->Xj f m v σ=δ r'->r=r':=by
 intro n;induction n generalizing v σ with
 |zero=>intro m r r' h;cases h
 |succ n ih=>
  intro m r r' h1 h2;cases m with
  |zero=>cases h2
  |succ m=>
   simp only[Xj]at h1 h2;cases hf:f v σ with
   |none=>rw[hf]at h1;cases h1
   |some q=>
    rw[hf]at h1 h2;simp only[aJ]at h1 h2;obtain⟨e,v',σ'⟩:=q;cases e with
    |normal=>exact ih h1 h2
    |exit i=>simp only at h1 h2;rw[h1]at h2;injection h2
    |ret=>simp only at h1 h2;rw[h1]at h2;injection h2
theorem BF{f:aq->Heap->Option (AX×aq×Heap)}{v:aq}{σ:Heap}{n:Nat}{r:AX×aq×Heap}(h:Xj f n v σ=δ r):Y7 f v σ=δ r:=by
 have hex:∃n r,Xj f n v σ=δ r:=⟨n,r,h⟩
 unfold Y7;rw[dif_pos hex];exact congrArg δ (apo (Vm (Vm hex)) h)
theorem CR{f:aq->Heap->Option (AX×aq×Heap)}{v v':aq}{σ σ':Heap}{r:AX×aq×Heap}(h:f v σ=δ (.normal,v',σ'))(k:∃n,Xj f n v' σ'=δ r):∃n,Xj f n v σ=δ r:=by obtain⟨n,k⟩:=k;exact⟨n+1,by simp [Xj,h,k]⟩
theorem vk{f:aq->Heap->Option (AX×aq×Heap)}{v:aq}{σ:Heap}{r:AX×aq×Heap}(h:f v σ=δ r)(hr:r.1≠.normal):∃n,Xj f n v σ=δ r:=by obtain⟨e,v',σ'⟩:=r;refine⟨1,?_⟩;cases e<;>first|(simp [Xj,h];done)|exact absurd rfl hr
theorem oz{α S R γ:Type}{f:aq->Heap->Option (AX×aq×Heap)}(l:List α)(body:List α->α->S->Rd S R)(st:List α->S->aq)(hp:List α->S->Heap)
  (fin:S->AX×aq×Heap) (out:List α->S->R->AX×aq×Heap) (P:List α->S->Prop) (s0:S) {k:AX×aq×Heap->Option γ} (K1:S->Option γ) (K2:R->Option γ)
  (hstep:∀pre x rest s,l=pre++x::rest->P pre s->f (st pre s) (hp pre s)=δ ((body pre x s).el (λs'=>(.normal,st (pre++[x]) s',hp (pre++[x]) s')) (λr=>out pre s r)))
  (hend:∀s,P l s->f (st l s) (hp l s)=δ (fin s)) (h0:P [] s0)
  (hP:∀pre x rest s s',l=pre++x::rest->P pre s->body pre x s=.go s'->P (pre++[x]) s')
  (hk1:∀s,P l s->k (fin s)=K1 s) (hk2:∀pre x rest s r,l=pre++x::rest->P pre s->body pre x s=.out r->k (out pre s r)=K2 r)
  (A7:∀s,(fin s).1≠.normal:=by intros;simp) (hout:∀pre s r,(out pre s r).1≠.normal:=by intros;simp) {v:aq} {σ:Heap} (hv:v=st [] s0:=by rfl) (iW:σ=hp [] s0:=by rfl):
  (Y7 f v σ).bind k=(l9 body [] l s0).el K1 K2:=by
 have key:∀(rest pre:List α)(s:S),l=pre++rest->P pre s->∃q,(∃n,Xj f n (st pre s) (hp pre s)=δ q)/\k q=(l9 body pre rest s).el K1 K2:=by
  intro rest;induction rest with
  |nil=>intro pre s hl hp';rw[VT]at hl;subst hl;exact⟨fin s,vk (hend s hp') (A7 s),by rw[l9,zH,hk1 s hp']⟩
  |cons x rest ih=>
   intro pre s hl hp';have h:=hstep pre x rest s hl hp';rw[l9];cases hb:body pre x s with
   |go s'=>rw[hb]at h;obtain⟨q,h1,h2⟩:=ih (pre++[x]) s' (by simpa using hl) (hP pre x rest s s' hl hp' hb);exact⟨q,CR h h1,h2⟩
   |out r=>rw[hb]at h;exact⟨out pre s r,vk h (hout pre s r),by rw[zy,hk2 pre x rest s r hl hp' hb]⟩
 obtain⟨q,⟨n,h1⟩,h2⟩:=key l [] s0 rfl h0;rw[hv,iW,BF h1,aJ,h2]
theorem EF{α:Type}{body:List α->α->Unit->Rd Unit Int}{uP:List α->List α->Int}(h0:∀pre,uP pre []=0)(h:∀pre x rest,uP pre (x::rest)=(body pre x ()).el (λ_=>uP (pre++[x]) rest) (λr=>r)) {γ:Type} (K:Int->γ):
  ∀(l pre:List α),(l9 body pre l ()).el (λ_=>K 0) K=K (uP pre l)
 |[],pre=>by rw[l9,h0];rfl
 |x::l,pre=>by
  rw[l9,h];cases body pre x ()with
  |go s=>exact EF h0 h K l (pre++[x])
  |out r=>rfl
theorem oC{α:Type}{l pre rest:List α}{x:α}(h:l=pre++x::rest):l[pre.length]? =δ x:=by rw[h];simp
theorem qv{α:Type}{l pre rest:List α}{x:α}(h:l=pre++x::rest):pre.length<l.length:=by rw[h];simp
theorem aCf{α:Type}{l pre rest:List α}{x:α}(h:l=pre++x::rest)(h0:0<pre.length):∃y,pre.getLast? =δ y/\l[pre.length-1]? =δ y:=by
 cases hp:pre.getLast? with
 |none=>rw[List.getLast?_eq_none_iff]at hp;subst hp;simp at h0
 |some y=>refine⟨y,rfl,?_⟩;rw[h,iS (by omega),<-hp,List.getLast?_eq_getElem?]
theorem Q3{γ:Type}{p:UInt8->Bool}{f:aq->Heap->Option (AX×aq×Heap)}(s:ByteArray){σ:Heap}{k:AX×aq×Heap->Option γ}(K2:Option γ)
  (hstep:∀(i:Nat)(c:UInt8),i<s.size->A.qy (.str s) (.ah (i:Int))=δ (.int .u8 c.toNat)->f [.bool ι,.ah (i:Int)] σ=if p c=θ then δ (.normal,[.bool ι,.ah ((i:Int)+1)],σ)else δ (.ret,[.bool ι,.ah (i:Int)],σ))
  (hend:f [.bool ι,.ah (s.size:Int)] σ=δ (.exit 0,[.bool ι,.ah (s.size:Int)],σ)) (hk2:∀i:Int,k (.ret,[.bool ι,.ah i],σ)=K2):
  (Y7 f [.bool ι,.ah 0] σ).bind k=if s.data.toList.all p=θ then k (.exit 0,[.bool ι,.ah (s.size:Int)],σ)else K2:=by
 have hsz:s.data.toList.length=s.size:=rfl
 refine(oz (S:=Unit) (R:=Unit) s.data.toList (λ_ c _=>if p c=θ then .go ()else .out ()) (λpre _=>[.bool ι,.ah (pre.length:Int)]) (λ_ _=>σ) (λ_=>(.exit 0,[.bool ι,.ah (s.size:Int)],σ)) (λpre _ _=>(.ret,[.bool ι,.ah (pre.length:Int)],σ)) (λ_ _=>True) ()
  (λ_=>k (.exit 0,[.bool ι,.ah (s.size:Int)],σ)) (λ_=>K2) ?_ ?_ trivial (λ_ _ _ _ _ _ _ _=>trivial) (λ_ _=>rfl) (λ_ _ _ _ _ _ _ _=>hk2 _)).trans ?_
 ·intro pre c rest u hl _;have hlt:=qv hl;have hc:=oC hl;rw[hsz]at hlt
  have hsi:A.qy (.str s) (.ah (pre.length:Int))=δ (.int .u8 c.toNat):=by have h2:s[pre.length]=c:=(bG.1 hc).2;simp [A.qy,A.idx,hlt,h2]
  rw[hstep pre.length c hlt hsi];cases p c<;>simp [Rd.el]
 ·intro u _;rw[hsz];exact hend
 ·have key:∀(l pre:List UInt8),(l9 (λ(_:List UInt8)c(_:Unit)=>if p c=θ then(Rd.go ():Rd Unit Unit)else .out ()) pre l ()).el (λ_=>k (.exit 0,[.bool ι,.ah (s.size:Int)],σ)) (λ_=>K2)=if l.all p=θ then k (.exit 0,[.bool ι,.ah (s.size:Int)],σ)else K2:=by
   intro l;induction l with
   |nil=>intro pre;simp [l9,Rd.el]
   |cons c l ih=>
    intro pre;rw[l9];cases hc:p c
    ·simp [hc,Rd.el]
    ·simp only[if_true];rw[ih];simp [hc]
  exact key s.data.toList []
section
variable {α : Type} (g : α -> ByteArray) (gi : α -> Int) (v : α -> AV)
theorem agf(k:ByteArray):∀(l:List α),Wh .z (.str k) (l.map λx=>(Xo (g x),v x))=δ ((l.find? λx=>decide (k=g x)).map v)
 |[]=>rfl
 |x::l=>by
  simp only[eP,Wh,WN,A.tV,aJ,Xx];by_cases h:k=g x
  ·rw[bq];simp [h]
  ·rw[bq];simp [h,agf k l]
theorem age(kk:IntKind)(k:Int):∀(l:List α),Wh .i (.int kk k) (l.map λx=>(Wz kk (gi x),v x))=δ ((l.find? λx=>decide (k=gi x)).map v)
 |[]=>rfl
 |x::l=>by
  simp only[eP,Wh,WN,A.qH,if_true,aJ,Xx];by_cases h:k=gi x
  ·have:(k==gi x)=θ:=by simpa using h
   simp [this,h]
  ·have:(k==gi x)=ι:=by simpa using h
   simp [this,h,age kk k l]
theorem Yg{k:ByteArray}{w:AV}:∀{l:List α},(∀x∈l,g x≠k)->A.upd .z (.str k) w (l.map λx=>(Xo (g x),v x))=δ ((l.map λx=>(Xo (g x),v x))++[(.str k,w)])
 |[],_=>rfl
 |x::l,h=>by
  have h1:(k==g x)=ι:=by rw[bq];exact cO λe:k=g x=>h x (by simp) e.symm
  simp only[eP,A.upd,WN,A.tV,aJ,h1,bQ];rw[Yg (λy hy=>h y (by simp [hy]))];rfl
theorem Yf{kk:IntKind}{k:Int}{w:AV}:∀{l:List α},(∀x∈l,gi x≠k)->A.upd .i (.int kk k) w (l.map λx=>(Wz kk (gi x),v x))=δ ((l.map λx=>(Wz kk (gi x),v x))++[(.int kk k,w)])
 |[],_=>rfl
 |x::l,h=>by
  have h1:(k==gi x)=ι:=by simpa using λe:k=gi x=>h x (by simp) e.symm
  simp only[eP,A.upd,WN,A.qH,if_true,aJ,h1,bQ];rw[Yf (λy hy=>h y (by simp [hy]))];rfl
end
theorem EN(e:A.EK){k z:AV}{σ:Heap}{id:Nat}{es:List (AV×AV)}(hk:A.lS e k=θ)(h:σ[id]? =δ (.map es)):Yt e (.om id) k z σ=(Wh e k es).map λr=>r.getD z:=by simp [Yt,hk,US,h]
theorem C0(e:A.EK){k w:AV}{σ:Heap}{id:Nat}{es:List (AV×AV)}(hk:A.lS e k=θ)(h:σ[id]? =δ (.map es)):A.jX e (.om id) k w σ=(A.upd e k w es).map λes=>σ.set id (.map es):=by simp [A.jX,hk,h]
theorem aey{α:Type}(l:List α)(x:α):(((l++[x]).length:Nat):Int)=(l.length:Int)+1:=by simp
theorem EE{α:Type}(sz:Nat)(c:α->aq)(l:List α){k:Nat}{x:α}(h0:0<k)(h:l[k-1]? =δ x):Zo sz (sl sz c l) (.ah ((k:Int) -1))=δ (.rp (c x)):=by have:=lG sz c l h;rwa[show((k-1:Nat):Int)=(k:Int) -1 by omega]at this
def qg{α:Type}(g:α->ByteArray)(l:List α):List (AV×AV):=l.map λx=>(Xo (g x),Λ θ)
def vJ{α:Type}(g:α->Int)(l:List α):List (AV×AV):=l.map λx=>(ε (g x),Λ θ)
theorem WB{α:Type}(p:α->Bool):∀(l:List α),((l.find? p).map λ_=>Λ θ).getD aR=Λ (l.any p)
 |[]=>rfl
 |x::l=>by
  simp only[Xx,List.any_cons];cases h:p x
  ·simpa using WB p l
  ·rfl
theorem adP{α:Type}(g:α->ByteArray)(k:ByteArray)(l:List α):(Wh .z (.str k) (qg g l)).map (λr=>r.getD (.bool ι))=δ (.bool (gZ k (l.map g))):=by unfold qg;rw[agf g (λ_=>Λ θ) k l,cR,WB];refine congrArg δ (congrArg Λ ?_);rw[pM,Gx];simp only[VK,decide_eq_true_eq,gh];exact⟨λ⟨x,h,e⟩=>⟨x,h,e.symm⟩,λ⟨x,h,e⟩=>⟨x,h,e.symm⟩⟩
theorem adK{α:Type}(g:α->Int)(k:Int)(l:List α):(Wh .i (.ah k) (vJ g l)).map (λr=>r.getD (.bool ι))=δ (.bool (gZ k (l.map g))):=by unfold vJ;rw[age g (λ_=>Λ θ) ξ k l,cR,WB];refine congrArg δ (congrArg Λ ?_);rw[pM,Gx];simp only[VK,decide_eq_true_eq,gh];exact⟨λ⟨x,h,e⟩=>⟨x,h,e.symm⟩,λ⟨x,h,e⟩=>⟨x,h,e.symm⟩⟩
section
variable {α : Type} (g : α -> ByteArray) (gi : α -> Int) (l : List α) (k : ByteArray) (n : Int) (σ bs : Heap) (b0 : aW)
theorem acQ:Yt .z (.om σ.length) (.str k) (.bool ι) (σ++Z0 (qg g l)::bs)=δ (.bool (gZ k (l.map g))):=by rw[EN .z rfl (by rw[Kj];rfl),adP]
theorem acO:Yt .i (.om σ.length) (.ah n) (.bool ι) (σ++Z0 (vJ gi l)::bs)=δ (.bool (gZ n (l.map gi))):=by rw[EN .i rfl (by rw[Kj];rfl),adK]
theorem acR:Yt .z (.om (σ.length+1)) (.str k) (.bool ι) (σ++b0::Z0 (qg g l)::bs)=δ (.bool (gZ k (l.map g))):=by rw[EN .z rfl (by rw[SS];rfl),adP]
theorem acP:Yt .i (.om (σ.length+1)) (.ah n) (.bool ι) (σ++b0::Z0 (vJ gi l)::bs)=δ (.bool (gZ n (l.map gi))):=by rw[EN .i rfl (by rw[SS];rfl),adK]
theorem adR(h:gZ k (l.map g)=ι):A.jX .z (.om σ.length) (.str k) (.bool θ) (σ++Z0 (qg g l)::bs)=δ (σ++Z0 (qg g l++[(.str k,.bool θ)])::bs):=by rw[C0 .z rfl (by rw[Kj];rfl),qg,Yg g _ (λx hx e=>Jm.1 h (by rw[<-e];exact aDg hx)),cR,aBV];rfl
theorem adM(h:gZ n (l.map gi)=ι):A.jX .i (.om σ.length) (.ah n) (.bool θ) (σ++Z0 (vJ gi l)::bs)=δ (σ++Z0 (vJ gi l++[(.ah n,.bool θ)])::bs):=by rw[C0 .i rfl (by rw[Kj];rfl),vJ,Yf gi _ (λx hx e=>Jm.1 h (by rw[<-e];exact aDg hx)),cR,aBV];rfl
theorem adS(h:gZ k (l.map g)=ι):A.jX .z (.om (σ.length+1)) (.str k) (.bool θ) (σ++b0::Z0 (qg g l)::bs)=δ (σ++b0::Z0 (qg g l++[(.str k,.bool θ)])::bs):=by rw[C0 .z rfl (by rw[SS];rfl),qg,Yg g _ (λx hx e=>Jm.1 h (by rw[<-e];exact aDg hx)),cR,sG];rfl
theorem adN(h:gZ n (l.map gi)=ι):A.jX .i (.om (σ.length+1)) (.ah n) (.bool θ) (σ++b0::Z0 (vJ gi l)::bs)=δ (σ++b0::Z0 (vJ gi l++[(.ah n,.bool θ)])::bs):=by rw[C0 .i rfl (by rw[SS];rfl),vJ,Yf gi _ (λx hx e=>Jm.1 h (by rw[<-e];exact aDg hx)),cR,sG];rfl
end
theorem adQ{α:Type}(g:α->ByteArray)(l:List α)(x:α):qg g (l++[x])=qg g l++[(.str (g x),.bool θ)]:=by simp [qg]
theorem V1(σ:Heap)(v:AV):Wi (δ (v,σ)) σ=δ v:=by simp [Wi]
def Fz(a:AV):Prop:=∀σ n d,X4 σ n d a=δ a
def kF(l:aq):Prop:=∀σ n d,A.gP σ n d l=δ l
theorem eE(k:IntKind)(n:Int):Fz (.int k n):=λ_ _ d=>by cases d<;>simp [X4]
theorem BY(b:Bool):Fz (.bool b):=λ_ _ d=>by cases d<;>simp [X4]
theorem AL(s:ByteArray):Fz (.str s):=λ_ _ d=>by cases d<;>simp [X4]
theorem agi:Fz .aA:=λ_ _ d=>by cases d<;>simp [X4]
theorem wq{l:aq}(h:kF l):Fz (.agg l):=λσ n d=>by cases d<;>simp [X4,h σ n]
theorem agj{l:aq}(h:kF l):Fz (.aM l):=λσ n d=>by cases d<;>simp [X4,h σ n]
theorem pJ:kF []:=λ_ _ _=>by simp [A.gP]
theorem cE{a:AV}{l:aq}(h:Fz a)(k:kF l):kF (a::l):=λσ n d=>by simp [A.gP,h σ n d,k σ n d]
theorem sk{α:Type}{sz:Nat}{c:α->aq}(h:∀x,kF (c x))(l:List α):Fz (sl sz c l):=by
 intro σ n d
 have:A.lK σ n d (l.map c)=δ (l.map c):=by
  induction l with
  |nil=>simp [A.lK]
  |cons x l ih=>simp [A.lK,h x σ n d,ih]
 cases d<;>simp [sl,X4,this]
theorem Sw{α:Type}{c:α->aq}(h:∀x,kF (c x))(l:List α)(σ:Heap)(n d:Nat):A.lK σ n d (l.map c)=δ (l.map c):=by
 induction l with
 |nil=>simp [A.lK]
 |cons x l ih=>simp [A.lK,h x σ n d,ih]
def zZ{α:Type}(id sz:Nat)(l:List α):AV:=if l=[]then .aA else .os id l.length sz 0 l.length
def wF{α:Type}(sz:Nat)(c:α->aq)(l:List α):Heap:=if l=[]then[]else[.arr l.length sz (l.map c)]
theorem ara{α:Type}(sz:Nat)(c:α->aq):wF sz c []=[]:=rfl
theorem anW{α:Type}{sz most:Nat}(c:α->aq)(l:List α)(x:α)(σ:Heap)(h:l.length+1<=most):WK sz most (zZ σ.length sz l) (.sl sz [c x]) (σ++wF sz c l)=δ (zZ σ.length sz (l++[x]),σ++wF sz c (l++[x])):=by
 unfold zZ wF;cases l with
 |nil=>
  have h1:1<=most:=by simpa using h
  simp [WK,A.p6,VB,h1]
 |cons y l=>
  have h1:l.length+1+1<=most:=by simpa using h
  simp [WK,A.p6,VB,h1,Kj,aBV,lT,n9]
theorem atg{α:Type}{sz:Nat}{c:α->aq}(hc:∀x,kF (c x))(l:List α)(σ:Heap)(d:Nat):X4 (σ++wF sz c l) σ.length (d+1) (zZ σ.length sz l)=δ (if l=[]then .aA else sl sz c l):=by
 unfold zZ wF;split
 ·simp [X4]
 ·rename_i hl;simp only[X4,aDH,if_false,Kj,List.getElem?_cons_zero];rw[aP (by simp)];have e:(List.take l.length (List.drop 0 (l.map c)))=l.map c:=by simp [n9]
  rw[e,Gv,Sw hc];rfl
theorem aqK{α:Type}{sz:Nat}{c:α->aq}(hc:∀x,kF (c x))(l:List α)(k:IntKind)(n:Int)(σ:Heap):wh σ (.aM [zZ σ.length sz l,.int k n]) (σ++wF sz c l)=δ (.aM [if l=[]then .aA else sl sz c l,.int k n],σ):=by
 unfold wh;split
 ·rename_i h;have:wF sz c l=[]:=by simpa using h
  have hl:l=[]:=by
   unfold wF at this;split at this
   ·assumption
   ·cases this
  subst hl;rfl
 ·rw[aP (by simp)]
  have:X4 (σ++wF sz c l) σ.length 8 (.aM [zZ σ.length sz l,.int k n])=δ (.aM [if l=[]then .aA else sl sz c l,.int k n]):=by simp only[X4,A.gP,atg hc,eE k n _ _ _,aJ,cR]
  rw[this];rfl
theorem auw{α:Type}(sz:Nat)(c:α->aq)(l:List α):Y9 (.s sz) (if l=[]then .aA else sl sz c l)=sl sz c l:=by
 split
 ·rename_i h;subst h;rfl
 ·rfl
def iT{α:Type}(p:α->Bool)(l:List α):Int:=match l.findIdx? p with|some i=>i|none=>-1
theorem td{α:Type}(p:α->Bool)(l:List α):(iT p l=-1/\(∀x∈l,p x=ι)/\l.find? p=μ)\/∃(k:Nat)(x:α),l[k]? =δ x/\p x=θ/\iT p l=k/\l.find? p=δ x/\∀(j:Nat)(y:α),j<k->l[j]? =δ y->p y=ι:=by
 induction l with
 |nil=>left;exact⟨rfl,by simp,rfl⟩
 |cons x l ih=>
  cases h:p x
  ·rcases ih with⟨h1,h2,h3⟩|⟨k,y,h1,h2,h3,h4,h5⟩
   ·left;refine⟨?_,?_,?_⟩
    ·unfold iT at h1 ⊢;rw[aDw,h];cases hf:l.findIdx? p with
     |none=>simp
     |some i=>rw[hf]at h1;simp at h1
    ·intro y hy;rcases jP.1 hy with rfl|hy
     ·exact h
     ·exact h2 y hy
    ·simp [Xx,h,h3]
   ·right;refine⟨k+1,y,by simpa using h1,h2,?_,by simp [Xx,h,h4],?_⟩
    ·unfold iT at h3 ⊢;rw[aDw,h];cases hf:l.findIdx? p with
     |none=>rw[hf]at h3;simp at h3
     |some i=>rw[hf]at h3;simp at h3 ⊢;omega
    ·intro j z hj hz;cases j with
     |zero=>simp at hz;subst hz;exact h
     |succ j=>exact h5 j z (by omega) (by simpa using hz)
  ·right;refine⟨0,x,rfl,h,?_,by simp [Xx,h],by intro j y hj;omega⟩;unfold iT;rw[aDw,h];rfl
theorem CU{α:Type}{γ:Type}(p:α->Bool)(K1:Option γ)(K2:Int->Option γ):∀(l pre:List α),(∀x∈pre,p x=ι)->(l9 (λpre x(_:Unit)=>if p x=θ then(Rd.out (pre.length:Int):Rd Unit Int)else .go ()) pre l ()).el (λ_=>K1) K2=if iT p (pre++l)=-1 then K1 else K2 (iT p (pre++l))
 |[],pre,h=>by
  have:iT p (pre++[])=-1:=by
   rcases td p (pre++[])with h1|⟨k,x,h1,h2,_⟩
   ·exact h1.1
   ·have:=h x (by have:=dm h1;simpa using this);rw[h2]at this;cases this
  rw[l9,zH,aP this]
 |x::l,pre,h=>by
  rw[l9];cases hx:p x
  ·simp only[YQ,if_false]
   have:=CU p K1 K2 l (pre++[x]) (λy hy=>by
    rcases jQ.1 hy with hy|hy
    ·exact h y hy
    ·simp at hy;subst hy;exact hx)
   simpa using this
  ·simp only[if_true,zy]
   have:iT p (pre++x::l)=pre.length:=by
    rcases td p (pre++x::l)with h1|⟨k,y,h1,h2,h3,_,h5⟩
    ·have:=h1.2.1 x (by simp);rw[hx]at this;cases this
    ·rw[h3];rcases Nat.lt_trichotomy k pre.length with hk|hk|hk
     ·rw[iS hk]at h1;have:=h y (dm h1);rw[h2]at this;cases this
     ·omega
     ·have:=h5 pre.length x hk (by simp);rw[hx]at this;cases this
   rw[this,aO (by omega)]
theorem aeU{α R γ:Type}(p:α->Bool)(r:R)(K1:Unit->γ)(K2:R->γ):∀(l pre:List α),(l9 (λ_ x(_:Unit)=>if p x=θ then(Rd.out r:Rd Unit R)else .go ()) pre l ()).el K1 K2=if l.any p=θ then K2 r else K1 ()
 |[],pre=>by simp [l9,Rd.el]
 |x::l,pre=>by
  rw[l9];cases h:p x
  ·simp only[YQ,if_false];rw[aeU p r K1 K2 l (pre++[x])];simp [h]
  ·simp [h,Rd.el]
theorem Gj{α:Type}(sz:Nat)(c:α->aq)(l:List α){k:Nat}(h:k<=l.length){σ:Heap}:Wf sz (sl sz c l) μ (δ (.ah (k:Int))) σ=δ (sl sz c (l.take k)):=by simp [Wf,sl,Wb,h,List.map_take]
theorem Rm{α:Type}{l pre rest:List α}{x:α}(h:l=pre++x::rest):l.take pre.length=pre:=by rw[h];simp
theorem adL(l:List Int)(n:Int):vJ id l++[(.ah n,.bool θ)]=vJ id (l++[n]):=by simp [vJ]
theorem apy{κ:Type}[DecidableEq κ](k x:κ)(S:List κ):gZ k (S++[x])=(gZ k S||decide (x=k)):=by simp [gZ]
theorem mT{α:Type}{sz:Nat}{c:α->aq}{sh:List Sh}(h:∀x,TQ sh (c x)=c x)(l:List α):Y9 (.e sz sh) (sl sz c l)=sl sz c l:=by simp only[sl,Y9,YG];congr 1;exact Yq λx _=>h x
theorem RL(sz:Nat)(sh:List Sh):Y9 (.e sz sh) .aA=.sl sz []:=by simp [Y9]
theorem BU{α γ:Type}{f:aq->Heap->Option (AX×aq×Heap)}(l:List α)(p:α->Bool)(vs:Nat->aq)(σ:Heap)(fin:AX×aq×Heap)(ret:Nat->AX×aq×Heap){k:AX×aq×Heap->Option γ}(K1 K2:Option γ)
  (hstep:∀(i:Nat)(x:α),l[i]? =δ x->f (vs i) σ=if p x=θ then δ (ret i)else δ (.normal,vs (i+1),σ)) (hend:f (vs l.length) σ=δ fin) (hk1:k fin=K1) (hk2:∀i,k (ret i)=K2)
  (A7:fin.1≠.normal:=by simp) (Hj:∀i,(ret i).1≠.normal:=by intros;simp) {v:aq} {σ':Heap} (hv:v=vs 0:=by rfl) (iW:σ'=σ:=by rfl):
  (Y7 f v σ').bind k=if l.any p=θ then K2 else K1:=by
 subst hv iW
 refine(oz (S:=Unit) (R:=Unit) l (λ_ x _=>if p x=θ then .out ()else .go ()) (λpre _=>vs pre.length) (λ_ _=>σ') (λ_=>fin) (λpre _ _=>ret pre.length) (λ_ _=>True) () (λ_=>K1) (λ_=>K2)
  ?_ (λ_ _=>hend) trivial (λ_ _ _ _ _ _ _ _=>trivial) (λ_ _=>hk1) (λ_ _ _ _ _ _ _ _=>hk2 _) (λ_=>A7) (λ_ _ _=>Hj _)).trans (aeU p () _ _ l [])
 intro pre x rest u hl _;rw[hstep pre.length x (oC hl)];cases p x<;>simp [Rd.el]
theorem Rk{α κ:Type}[DecidableEq κ](k:κ)(g:α->κ)(l:List α):gZ k (l.map g)=l.any λx=>decide (g x=k):=by simp [gZ,List.any_map];rfl
theorem zn{α:Type}(sz:Nat)(c:α->aq){l:List α}{k:Nat}{x:α}(h:l[k]? =δ x):Zo sz (sl sz c l) (.ah (k:Int))=δ (.rp (c x))/\(k:Int)<(l.length:Int)/\(l.length<=aZ->ξ.wrap ((k:Int)+1)=(k:Int)+1):=
 ⟨lG sz c l h,by have:=(bG.1 h).1;omega,λhl=>cq (by have:=(bG.1 h).1;unfold aY;unfold aZ at hl;omega)⟩
theorem adt{α γ:Type}{f:aq->Heap->Option (AX×aq×Heap)}(l:List α)(p:α->Bool)(vs:Nat->aq)(σ:Heap)(fin:AX×aq×Heap)(ret:Nat->α->AX×aq×Heap){k:AX×aq×Heap->Option γ}(K1:Option γ)(K2:α->Option γ)
  (hstep:∀(i:Nat)(x:α),l[i]? =δ x->f (vs i) σ=if p x=θ then δ (ret i x)else δ (.normal,vs (i+1),σ)) (hend:f (vs l.length) σ=δ fin) (hk1:k fin=K1) (hk2:∀i x,k (ret i x)=K2 x)
  (A7:fin.1≠.normal:=by simp) (Hj:∀i x,(ret i x).1≠.normal:=by intros;simp) {v:aq} {σ':Heap} (hv:v=vs 0:=by rfl) (iW:σ'=σ:=by rfl):
  (Y7 f v σ').bind k=(l.find? p).elim K1 K2:=by
 subst hv iW
 have run:∀(l pre:List α),(l9 (λ_ x(_:Unit)=>if p x=θ then(Rd.out x:Rd Unit α)else .go ()) pre l ()).el (λ_=>K1) K2=(l.find? p).elim K1 K2:=by
  intro l;induction l with
  |nil=>intro pre;rfl
  |cons x l ih=>
   intro pre;rw[l9];cases h:p x
   ·simp only[YQ,if_false];rw[ih,aDr,h]
   ·simp [h,Rd.el]
 refine(oz (S:=Unit) (R:=α) l (λ_ x _=>if p x=θ then .out x else .go ()) (λpre _=>vs pre.length) (λ_ _=>σ') (λ_=>fin) (λpre _ x=>ret pre.length x) (λ_ _=>True) () (λ_=>K1) K2
  ?_ (λ_ _=>hend) trivial (λ_ _ _ _ _ _ _ _=>trivial) (λ_ _=>hk1) (λ_ _ _ _ _ _ _ _=>hk2 _ _) (λ_=>A7) (λ_ _ _=>Hj _ _)).trans (run l [])
 intro pre x rest u hl _;rw[hstep pre.length x (oC hl)];cases p x<;>simp [Rd.el]
theorem aq4{α γ:Type}{f:aq->Heap->Option (AX×aq×Heap)}(l:List α)(p:α->Bool)(vs:Nat->aq)(σ:Heap)(fin:AX×aq×Heap)(ret:Nat->AX×aq×Heap){k:AX×aq×Heap->Option γ}(K1:Option γ)(K2:Int->Option γ)
  (hstep:∀(i:Nat)(x:α),l[i]? =δ x->f (vs i) σ=if p x=θ then δ (ret i)else δ (.normal,vs (i+1),σ)) (hend:f (vs l.length) σ=δ fin) (hk1:k fin=K1) (hk2:∀i:Nat,k (ret i)=K2 i)
  (A7:fin.1≠.normal:=by simp) (Hj:∀i,(ret i).1≠.normal:=by intros;simp) {v:aq} {σ':Heap} (hv:v=vs 0:=by rfl) (iW:σ'=σ:=by rfl):
  (Y7 f v σ').bind k=if iT p l=-1 then K1 else K2 (iT p l):=by
 subst hv iW
 refine(oz (S:=Unit) (R:=Int) l (λpre x _=>if p x=θ then .out (pre.length:Int)else .go ()) (λpre _=>vs pre.length) (λ_ _=>σ') (λ_=>fin) (λpre _ _=>ret pre.length) (λ_ _=>True) () (λ_=>K1) K2
  ?_ (λ_ _=>hend) trivial (λ_ _ _ _ _ _ _ _=>trivial) (λ_ _=>hk1) ?_ (λ_=>A7) (λ_ _ _=>Hj _)).trans ?_
 ·intro pre x rest u hl _;rw[hstep pre.length x (oC hl)];cases p x<;>simp [Rd.el]
 ·intro pre x rest s r hl _ hb;rw[hk2];cases h:p x
  ·rw[h]at hb;cases hb
  ·rw[h]at hb;simp at hb;rw[hb]
 ·have:=CU p K1 K2 l [] (by simp);simpa using this
theorem yg{α:Type}(n:Int)(B:AV->Option α)(s:Option α):((YY (.ah n) (.ah n)).bind λx=>φ x (B x) s)=s:=by simp only[nw,Xz,aJ,decide_false,cF]
section
variable {α β : Type}
theorem ao7{c c':AV}(h:c=c')(t e:Option α):φ c t e=φ c' t e:=by rw[h]
theorem anQ{c c':AV}(h:c=c')(w:Bool)(e d:Option α):η c w e d=η c' w e d:=by rw[h]
theorem aoY{x y:Option α}(h:x=y)(f:α->Option β):x.bind f=y.bind f:=by rw[h]
attribute [congr] ao7 anQ aoY
end
theorem aI:type_of% @aJ.{0,0}/\type_of% @cR.{0,0}/\type_of% @cT/\type_of% @cF/\type_of% @gTT/\type_of% @gTF/\type_of% @gFT/\type_of% @gFF/\type_of% @gN/\type_of% @pT/\type_of% @pF/\type_of% @cU.{1}/\type_of% @bQ.{1}/\type_of% @xN/\type_of% @nQ/\type_of% @tP/\type_of% @AW/\type_of% @nw/\type_of% @Ss/\type_of% @Kg/\type_of% @vD/\type_of% @ag3/\type_of% @ag2/\type_of% @ag0/\type_of% @agZ/\type_of% @jL/\type_of% @fV/\type_of% @Yl/\type_of% @Nf/\type_of% @ahB/\type_of% @ag4/\type_of% @aLb/\type_of% @agV/\type_of% @agW/\type_of% @agX/\type_of% @agY/\type_of% @aDe/\type_of% @aFa/\type_of% @ag1/\type_of% @aCI/\type_of% @aCB/\type_of% @aCS/\type_of% @ahA/\type_of% @p1D/\type_of% @gd0/\type_of% @gd1/\type_of% @gd2/\type_of% @gd3/\type_of% @gd4/\type_of% @gd5/\type_of% @gd6/\type_of% @gd7/\type_of% @gd8/\type_of% @bD/\type_of% @Xh/\type_of% @aej/\type_of% @afh/\type_of% @aek/\type_of% @fu/\type_of% @ite_true.{1}/\type_of% @ite_false.{1}/\type_of% @if_true.{1}/\type_of% @if_false.{1}/\type_of% @YQ/\type_of% @not_true_eq_false/\type_of% @not_false_eq_true/\type_of% @decide_true/\type_of% @decide_false/\type_of% @Ur/\type_of% @Yx/\type_of% @lp.{0}/\type_of% @oJ.{0}/\type_of% @V7.{0}/\type_of% @Zz.{0}/\type_of% @afH/\type_of% @afI/\type_of% @aey/\type_of% @Int.natCast_add/\type_of% @Int.cast_ofNat_Int/\type_of% @V1/\type_of% @zH/\type_of% @zy/\type_of% @B5/\type_of% @acQ/\type_of% @acO/\type_of% @acR/\type_of% @acP/\type_of% @adQ/\type_of% @adR/\type_of% @adM/\type_of% @adS/\type_of% @adN/\type_of% @true_and/\type_of% @and_true/\type_of% @false_and/\type_of% @and_false/\type_of% @true_or/\type_of% @or_true/\type_of% @false_or/\type_of% @or_false/\type_of% @WU.{0}/\type_of% @WO.{0}/\type_of% @ZY.{0}/\type_of% @YZ.{0}/\type_of% @UB.{0}/\type_of% @YW/\type_of% @Nat.add_zero:=
 ⟨@aJ.{0,0},@cR.{0,0},@cT,@cF,@gTT,@gTF,@gFT,@gFF,@gN,@pT,@pF,@cU.{1},@bQ.{1},@xN,@nQ,@tP,@AW,@nw,@Ss,@Kg,@vD,@ag3,@ag2,@ag0,@agZ,@jL,@fV,@Yl,@Nf,@ahB,@ag4,@aLb,@agV,@agW,@agX,@agY,@aDe,@aFa,@ag1,@aCI,@aCB,@aCS,@ahA,@p1D,@gd0,@gd1,@gd2,@gd3,@gd4,@gd5,@gd6,@gd7,@gd8,@bD,@Xh,@aej,@afh,@aek,@fu,@ite_true.{1},@ite_false.{1},@if_true.{1},@if_false.{1},@YQ,@not_true_eq_false,@not_false_eq_true,@decide_true,@decide_false,@Ur,@Yx,@lp.{0},@oJ.{0},@V7.{0},@Zz.{0},@afH,@afI,@aey,@Int.natCast_add,@Int.cast_ofNat_Int,@V1,@zH,@zy,@B5,@acQ,@acO,@acR,@acP,@adQ,@adR,@adM,@adS,@adN,@true_and,@and_true,@false_and,@and_false,@true_or,@or_true,@false_or,@or_false,@WU.{0},@WO.{0},@ZY.{0},@YZ.{0},@UB.{0},@YW,@Nat.add_zero⟩
end
theorem Mm(x:oF):kF (iF x):=(cE (eE _ _) (cE (eE _ _) pJ))
theorem adk(x:p7):kF (lI x):=(cE (eE _ _) (cE (eE _ _) (cE (AL _) pJ)))
theorem aCj(x:ey):kF (cG x):=(cE (AL _) (cE (eE _ _) (cE (eE _ _) (cE (eE _ _) (cE (eE _ _) (cE (BY _) (cE (sk adk _) pJ)))))))
theorem amy(x:cD):kF (cz x):=(cE (AL _) (cE (eE _ _) (cE (sk aCj _) pJ)))
theorem az1(x:iw):kF (dh x):=(cE (eE _ _) (cE (AL _) (cE (eE _ _) (cE (eE _ _) pJ))))
theorem AG(x:aC):kF (aS x):=(cE (eE _ _) (cE (AL _) pJ))
theorem aAU(x:gE):kF (dW x):=(cE (eE _ _) (cE (AL _) (cE (eE _ _) pJ)))
theorem aci(x:fL):kF (dX x):=(cE (eE _ _) (cE (AL _) (cE (sk aAU _) pJ)))
theorem aep(x:gf):kF (ff x):=(cE (eE _ _) (cE (AL _) (cE (eE _ _) (cE (eE _ _) (cE (BY _) (cE (BY _) (cE (eE _ _) (cE (eE _ _) pJ))))))))
theorem JP(x:bA):kF (bg x):=(cE (eE _ _) (cE (AL _) (cE (eE _ _) (cE (eE _ _) (cE (eE _ _) (cE (eE _ _) (cE (eE _ _) (cE (sk Mm _) (cE (BY _) (cE (eE _ _) (cE (sk aep _) pJ)))))))))))
theorem Ml(x:bB):kF (bJ x):=(cE (eE _ _) (cE (AL _) (cE (eE _ _) (cE (eE _ _) (cE (eE _ _) pJ)))))
theorem aqR(x:jl):kF (fc x):=(cE (eE _ _) (cE (sk JP _) pJ))
theorem aBq(x:pH):kF (dA x):=(cE (eE _ _) (cE (eE _ _) (cE (eE _ _) pJ)))
theorem ach(x:iE):kF (dR x):=(cE (eE _ _) (cE (eE _ _) (cE (eE _ _) (cE (eE _ _) (cE (eE _ _) pJ)))))
theorem asy(x:Dv):kF (mR x):=(cE (eE _ _) (cE (AL _) (cE (eE _ _) (cE (eE _ _) (cE (eE _ _) (cE (eE _ _) (cE (eE _ _) (cE (eE _ _) (cE (sk Mm _) (cE (eE _ _) (cE (BY _) pJ)))))))))))
instance : Inhabited ByteArray := ⟨⟨#[]⟩⟩
instance : Inhabited oF := ⟨⟨0, 0⟩⟩
instance : Inhabited tu := ⟨⟨0, []⟩⟩
instance : Inhabited jI := ⟨⟨0, 0, 0, 0, 0, ⟨0, []⟩⟩⟩
instance : Inhabited arJ := ⟨⟨0, 0⟩⟩
instance : Inhabited p7 := ⟨⟨0, 0, ⟨#[]⟩⟩⟩
instance : Inhabited ey := ⟨⟨⟨#[]⟩, 0, 0, 0, 0, ι, []⟩⟩
instance : Inhabited cD := ⟨⟨⟨#[]⟩, 0, []⟩⟩
instance : Inhabited iw := ⟨⟨0, ⟨#[]⟩, 0, 0⟩⟩
instance : Inhabited eU := ⟨⟨[], []⟩⟩
instance : Inhabited aC := ⟨⟨0, ⟨#[]⟩⟩⟩
theorem vq(a b:aC):WN (.s [0,2]) (.agg (aS a)) (.agg (aS b))=δ (decide (a=b)):=by obtain⟨x1,x2⟩:=a;obtain⟨x101,x102⟩:=b;simp only[WN,aS,WS,A.qi,A.qH,A.Ai,A.tV,if_true,aJ,cR,bq];congr 1;rw[pM];simp [and_assoc]
theorem R1(a b:aC):ZA (.s [0,2]) (.agg (aS a)) (.agg (aS b))=δ (.bool (decide (a=b))):=by rw[ZA,vq];rfl
instance : Inhabited gE := ⟨⟨⟨0, ⟨#[]⟩⟩, 0⟩⟩
theorem amw(a b:gE):WN (.s [0,2,0]) (.agg (dW a)) (.agg (dW b))=δ (decide (a=b)):=by obtain⟨⟨x1,x2⟩,x3⟩:=a;obtain⟨⟨x101,x102⟩,Ae⟩:=b;simp only[WN,dW,WS,A.qi,A.qH,A.Ai,A.tV,if_true,aJ,cR,bq];congr 1;rw[pM];simp [and_assoc]
instance : Inhabited fL := ⟨⟨0, ⟨#[]⟩, []⟩⟩
instance : Inhabited avQ := ⟨⟨[], 0, 0⟩⟩
instance : Inhabited mz := ⟨⟨0, 0⟩⟩
theorem apd(a b:mz):WN (.s [0,0]) (.agg (tC a)) (.agg (tC b))=δ (decide (a=b)):=by obtain⟨x1,x2⟩:=a;obtain⟨x101,x102⟩:=b;simp only[WN,tC,WS,A.qi,A.qH,A.Ai,A.tV,if_true,aJ,cR,bq];congr 1;rw[pM];simp [and_assoc]
theorem aeF(a b:mz):UP (.s [0,0]) (.agg (tC a)) (.agg (tC b))=δ (.bool (decide (¬(a=b)))):=by rw[UP,apd,cR,decide_not]
instance : Inhabited gf := ⟨⟨⟨0, ⟨#[]⟩⟩, ⟨0, 0⟩, ι, ι, 0, 0⟩⟩
instance : Inhabited bA := ⟨⟨0, ⟨#[]⟩, 0, 0, 0, 0, ⟨0, []⟩, ι, 0, []⟩⟩
instance : Inhabited bB := ⟨⟨⟨0, ⟨#[]⟩⟩, ⟨0, 0⟩, 0⟩⟩
instance : Inhabited au3 := ⟨⟨0, 0, 0⟩⟩
instance : Inhabited jl := ⟨⟨0, []⟩⟩
instance : Inhabited pH := ⟨⟨0, 0, 0⟩⟩
instance : Inhabited i7 := ⟨⟨⟨[], []⟩, [], [], []⟩⟩
instance : Inhabited iE := ⟨⟨0, 0, 0, 0, 0⟩⟩
instance : Inhabited atN := ⟨⟨0, ⟨0, 0, 0, 0, 0⟩⟩⟩
instance : Inhabited atS := ⟨⟨0, 0, 0, 0⟩⟩
instance : Inhabited Dv := ⟨⟨⟨0, ⟨#[]⟩⟩, ⟨0, 0, 0, 0, 0, ⟨0, []⟩⟩, 0, ι⟩⟩
instance : Inhabited CQ := ⟨⟨0, 0, 0, ι, 0, []⟩⟩
instance : Inhabited abu := ⟨⟨0, 0, 0⟩⟩
instance : Inhabited ae5 := ⟨⟨0, 0, 0, 0, 0, 0, ι, ι, []⟩⟩
instance : Inhabited agU := ⟨⟨0, 0⟩⟩
instance : Inhabited aqc := ⟨⟨⟨0, 0, 0, 0, 0, 0, ι, ι, []⟩, [], 0, [], 0, 0, 0⟩⟩
section
def Rf{β τ:Type}(M:Option β)(T:Option τ)(Q:τ->β->Prop):Prop:=∀t,T=δ t->∃b,M=δ b/\Q t b
section
variable {α β ω τ ζ : Type}
theorem an{M0:Option α}{K:α->Option β}{T:Option τ}{Q:τ->β->Prop}(a:α)(h:M0=δ a)(k:Rf (K a) T Q):Rf (M0.bind K) T Q:=by intro t ht;obtain⟨b,h1,h2⟩:=k t ht;exact⟨b,by rw[h];exact h1,h2⟩
theorem jK{M0:Option α}{K:α->Option β}{o:Option ω}{K':ω->Option τ}{Q:τ->β->Prop}(e:ω->α)(h:∀t,o=δ t->M0=δ (e t))(k:∀t,o=δ t->Rf (K (e t)) (K' t) Q):Rf (M0.bind K) (o.bind K') Q:=by intro t ht;obtain⟨x,h1,h2⟩:=ct.1 ht;obtain⟨b,h3,h4⟩:=k x h1 t h2;exact⟨b,by rw[h x h1];exact h3,h4⟩
theorem N1{M0:Option α}{K:α->Option β}{o:Option ω}{K':ω->Option τ}{Q:τ->β->Prop}(Q0:ω->α->Prop)(h:Rf M0 o Q0)(k:∀t a,Q0 t a->Rf (K a) (K' t) Q):Rf (M0.bind K) (o.bind K') Q:=by intro t ht;obtain⟨x,h1,h2⟩:=ct.1 ht;obtain⟨a,h3,h4⟩:=h x h1;obtain⟨b,h5,h6⟩:=k x a h4 t h2;exact⟨b,by rw[h3];exact h5,h6⟩
theorem bK{t:τ}{b:β}{Q:τ->β->Prop}(h:Q t b):Rf (δ b) (δ t) Q:=by intro u hu;cases hu;exact⟨b,rfl,h⟩
theorem dI{M:Option β}{t:τ}{Q:τ->β->Prop}(b:β)(e:M=δ b)(h:Q t b):Rf M (δ t) Q:=by rw[e];exact bK h
theorem ato{M:Option β}{Q:τ->β->Prop}:Rf M (μ:Option τ) Q:=by intro u hu;cases hu
theorem Yb{M:Option β}{p:Prop}[Decidable p]{T:Option τ}{Q:τ->β->Prop}(h:p->Rf M T Q):Rf M (if p then T else μ) Q:=by
 split
 ·exact h ‹_›
 ·exact ato
theorem jJ{p:Prop}[Decidable p]{X Y:Option β}{X' Y':Option τ}{Q:τ->β->Prop}(h1:p->Rf X X' Q)(h2:¬p->Rf Y Y' Q):Rf (φ (.bool (decide p)) X Y) (if p then X' else Y') Q:=by
 by_cases h:p
 ·simp only[h,decide_true,if_true];exact h1 h
 ·simp only[h,decide_false,if_false];exact h2 h
theorem gy{c:Bool}{X Y:Option β}{X' Y':Option τ}{Q:τ->β->Prop}(h1:c=θ->Rf X X' Q)(h2:c=ι->Rf Y Y' Q):Rf (φ (.bool c) X Y) (if c=θ then X' else Y') Q:=by
 cases c
 ·exact h2 rfl
 ·exact h1 rfl
theorem mC{X Y:Option β}{T:Option τ}{Q:τ->β->Prop}(h:Rf X T Q):Rf (φ (.bool θ) X Y) T Q:=h
theorem mB{X Y:Option β}{T:Option τ}{Q:τ->β->Prop}(h:Rf Y T Q):Rf (φ (.bool ι) X Y) T Q:=h
theorem gO{c:Bool}{X Y:Option β}{T:Option τ}{Q:τ->β->Prop}(e:c=θ)(h:Rf X T Q):Rf (bif c then X else Y) T Q:=by rw[e];exact h
theorem qc{c:Bool}{X Y:Option β}{T:Option τ}{Q:τ->β->Prop}(e:c=ι)(h:Rf Y T Q):Rf (bif c then X else Y) T Q:=by rw[e];exact h
def gv{α:Type}(g:Bool)(e:α->AV)(t:α):AV:=bif g then e t else .aM []
end
inductive Lr (S B R : Type) where
 |go(s:S)
 |brk(b:B)
 |ret(r:R)
def oM{α S B R:Type}(body:Nat->α->S->Option (Lr S B R))(fin:S->Option B):List α->Nat->S->Option (B ⊕ R)
 |[],_,s=>(fin s).map .inl
 |x::l,i,s=>(body i x s).bind λq=>match q with|.go s'=>oM body fin l (i+1) s'|.brk b=>δ (.inl b)|.ret r=>δ (.inr r)
def kr{α S B R γ:Type}(l:List α)(body:Nat->α->S->Option (Lr S B R))(fin:S->Option B)(s:S)(K1:B->Option γ)(K2:R->Option γ):Option γ:=
 if l.length<=aZ then(oM body fin l 0 s).bind λq=>q.elim K1 K2 else μ
def wV{S B R:Type}(body:S->Option (Lr S B R)):Nat->S->Option (B ⊕ R)
 |0,_=>μ
 |n+1,s=>(body s).bind λq=>match q with|.go s'=>wV body n s'|.brk b=>δ (.inl b)|.ret r=>δ (.inr r)
def za {S B R:Type} (body:S->Option (Lr S B R)) (s:S):Option (B ⊕ R):=open Classical in if h:∃n r,wV body n s=δ r then δ (To (Vm h))else μ
def Pj {S B R γ:Type} (body:S->Option (Lr S B R)) (s:S) (K1:B->Option γ) (K2:R->Option γ):Option γ:=(za body s).bind λq=>q.elim K1 K2
theorem asQ{S B R:Type}{body:S->Option (Lr S B R)}:∀{n m:Nat}{s:S}{r r':B ⊕ R},wV body n s=δ r->wV body m s=δ r'->r=r':=by
 intro n;induction n with
 |zero=>intro m s r r' h;cases h
 |succ n ih=>
  intro m s r r' h1 h2;cases m with
  |zero=>cases h2
  |succ m=>
   simp only[wV]at h1 h2;cases hf:body s with
   |none=>rw[hf]at h1;cases h1
   |some q=>
    rw[hf]at h1 h2;simp only[aJ]at h1 h2;cases q with
    |go s'=>exact ih h1 h2
    |brk b=>simp only at h1 h2;rw[h1]at h2;injection h2
    |ret b=>simp only at h1 h2;rw[h1]at h2;injection h2
theorem R9{S B R:Type}{body:S->Option (Lr S B R)}{n:Nat}{s:S}{r:B ⊕ R}(h:wV body n s=δ r):za body s=δ r:=by
 have hex:∃n r,wV body n s=δ r:=⟨n,r,h⟩
 unfold za;rw[dif_pos hex];exact congrArg δ (asQ (Vm (Vm hex)) h)
theorem XU{S B R:Type}{body:S->Option (Lr S B R)}{s:S}{r:B ⊕ R}(h:za body s=δ r):∃n,wV body n s=δ r:=by
 unfold za at h;split at h
 ·rename_i hx;injection h with h
  subst h;exact⟨_,Vm (Vm hx)⟩
 ·cases h
theorem WW{S B R:Type}(body:S->Option (Lr S B R))(s:S):za body s=(body s).bind λq=>match q with|.go s'=>za body s'|.brk b=>δ (.inl b)|.ret r=>δ (.inr r):=by
 cases hf:body s with
 |none=>
  rw[Option.bind_none];unfold za;rw[dif_neg];rintro⟨n,r,h⟩;cases n with
  |zero=>cases h
  |succ n=>simp [wV,hf]at h
 |some q=>
  rw[aJ];cases q with
  |brk b=>exact R9 (n:=1) (by simp [wV,hf])
  |ret b=>exact R9 (n:=1) (by simp [wV,hf])
  |go s'=>
   show za body s=za body s';cases h:za body s' with
   |some r=>obtain⟨n,hn⟩:=XU h;exact R9 (n:=n+1) (by simp [wV,hf,hn])
   |none=>
    cases h2:za body s with
    |none=>rfl
    |some r=>
     obtain⟨n,hn⟩:=XU h2;cases n with
     |zero=>cases hn
     |succ n=>simp only[wV,hf,aJ]at hn;rw[R9 hn]at h;cases h
section
variable {α S B R β τ : Type}
abbrev LS:=AX×aq×Heap
def Og(I:S->aq->Heap->Prop)(QB:B->LS->Prop)(QR:R->LS->Prop)(t:Lr S B R)(q:LS):Prop:=match t with
 |.go s=>q.1=.normal/\I s q.2.1 q.2.2
 |.brk b=>q.1≠.normal/\QB b q
 |.ret r=>q.1≠.normal/\QR r q
theorem l7{I:S->aq->Heap->Prop}{QB:B->LS->Prop}{QR:R->LS->Prop}{s:S}{v:aq}{σ:Heap}(h:I s v σ):Og I QB QR (.go s) (.normal,v,σ):=⟨rfl,h⟩
theorem afQ{I:S->aq->Heap->Prop}{QB:B->LS->Prop}{QR:R->LS->Prop}{b:B}{q:LS}(n:q.1≠.normal)(h:QB b q):Og I QB QR (.brk b) q:=⟨n,h⟩
theorem gd{I:S->aq->Heap->Prop}{QB:B->LS->Prop}{QR:R->LS->Prop}{r:R}{q:LS}(n:q.1≠.normal)(h:QR r q):Og I QB QR (.ret r) q:=⟨n,h⟩
theorem mA{f:aq->Heap->Option LS}{K:LS->Option β}{Q:τ->β->Prop}{l:List α}{body:Nat->α->S->Option (Lr S B R)}{fin:S->Option B}{s0:S}{K1:B->Option τ}{K2:R->Option τ}{v0:aq}{aL:Heap}
  (I:Nat->S->aq->Heap->Prop) (QB:B->LS->Prop) (QR:R->LS->Prop)
  (hstep:l.length<=aZ->∀i x s v σ,l[i]? =δ x->I i s v σ->Rf (f v σ) (body i x s) (Og (I (i+1)) QB QR))
  (hend:l.length<=aZ->∀s v σ,I l.length s v σ->Rf (f v σ) (fin s) (λb q=>q.1≠.normal/\QB b q))
  (h0:I 0 s0 v0 aL) (k1:l.length<=aZ->∀b q,QB b q->Rf (K q) (K1 b) Q) (k2:l.length<=aZ->∀r q,QR r q->Rf (K q) (K2 r) Q):
  Rf ((Y7 f v0 aL).bind K) (kr l body fin s0 K1 K2) Q:=by
 unfold kr;refine Yb λhl=>?_
 have hstep:=hstep hl;have hend:=hend hl
 have key:∀(rest pre:List α)(s:S)(v:aq)(σ:Heap),l=pre++rest->I pre.length s v σ->∀t,oM body fin rest pre.length s=δ t->∃q,(∃n,Xj f n v σ=δ q)/\(match t with|.inl b=>QB b q|.inr r=>QR r q):=by
  intro rest;induction rest with
  |nil=>intro pre s v σ hl hI t ht;rw[VT]at hl;subst hl;simp only[oM]at ht;obtain⟨b,hb,rfl⟩:=fF.1 ht;obtain⟨q,h1,h2,h3⟩:=hend s v σ hI b hb;exact⟨q,vk h1 h2,h3⟩
  |cons x rest ih=>
   intro pre s v σ hl hI t ht;simp only[oM]at ht;obtain⟨y,hy,h2⟩:=ct.1 ht;obtain⟨q,h3,h4⟩:=hstep pre.length x s v σ (by rw[hl];simp) hI y hy;obtain⟨e,v',σ'⟩:=q;cases y with
   |go s'=>obtain⟨rfl,Ow⟩:=h4;obtain⟨q,h5,h6⟩:=ih (pre++[x]) s' v' σ' (by simpa using hl) (by simpa using Ow) t (by simpa using h2);exact⟨q,CR h3 h5,h6⟩
   |brk b=>simp only[Θ]at h2;subst h2;exact⟨_,vk h3 h4.1,h4.2⟩
   |ret b=>simp only[Θ]at h2;subst h2;exact⟨_,vk h3 h4.1,h4.2⟩
 intro t ht;obtain⟨y,hy,h2⟩:=ct.1 ht;obtain⟨q,⟨n,hn⟩,h3⟩:=key l [] s0 v0 aL rfl h0 y hy;cases y with
 |inl b=>obtain⟨z,h4,h5⟩:=k1 hl b q h3 t h2;exact⟨z,by rw[BF hn];exact h4,h5⟩
 |inr b=>obtain⟨z,h4,h5⟩:=k2 hl b q h3 t h2;exact⟨z,by rw[BF hn];exact h4,h5⟩
theorem avK{f:aq->Heap->Option LS}{K:LS->Option β}{Q:τ->β->Prop}{body:S->Option (Lr S B R)}{s0:S}{K1:B->Option τ}{K2:R->Option τ}{v0:aq}{aL:Heap}
  (I:S->aq->Heap->Prop) (QB:B->LS->Prop) (QR:R->LS->Prop)
  (hstep:∀s v σ,I s v σ->Rf (f v σ) (body s) (Og I QB QR))
  (h0:I s0 v0 aL) (k1:∀b q,QB b q->Rf (K q) (K1 b) Q) (k2:∀r q,QR r q->Rf (K q) (K2 r) Q):
  Rf ((Y7 f v0 aL).bind K) (Pj body s0 K1 K2) Q:=by
 have key:∀(n:Nat)(s:S)(v:aq)(σ:Heap),I s v σ->∀t,wV body n s=δ t->∃q,(∃n,Xj f n v σ=δ q)/\(match t with|.inl b=>QB b q|.inr r=>QR r q):=by
  intro n;induction n with
  |zero=>intro s v σ hI t ht;cases ht
  |succ n ih=>
   intro s v σ hI t ht;simp only[wV]at ht;obtain⟨y,hy,h2⟩:=ct.1 ht;obtain⟨q,h3,h4⟩:=hstep s v σ hI y hy;obtain⟨e,v',σ'⟩:=q;cases y with
   |go s'=>obtain⟨rfl,Ow⟩:=h4;obtain⟨q,h5,h6⟩:=ih s' v' σ' Ow t h2;exact⟨q,CR h3 h5,h6⟩
   |brk b=>simp only[Θ]at h2;subst h2;exact⟨_,vk h3 h4.1,h4.2⟩
   |ret b=>simp only[Θ]at h2;subst h2;exact⟨_,vk h3 h4.1,h4.2⟩
 intro t ht;obtain⟨y,hy,h2⟩:=ct.1 ht;obtain⟨n,hn⟩:=XU hy;obtain⟨q,⟨m,hm⟩,h3⟩:=key n s0 v0 aL h0 y hn;cases y with
 |inl b=>obtain⟨z,h4,h5⟩:=k1 b q h3 t h2;exact⟨z,by rw[BF hm];exact h4,h5⟩
 |inr b=>obtain⟨z,h4,h5⟩:=k2 b q h3 t h2;exact⟨z,by rw[BF hm];exact h4,h5⟩
theorem iR{l:List α}{i:Nat}{x:α}(h:l[i]? =δ x):YY (.ah (i:Int)) (.ah (l.length:Int))=δ (.bool θ):=by have:=(bG.1 h).1;rw[nw];simp;omega
theorem iQ(l:List α):YY (.ah (l.length:Int)) (.ah (l.length:Int))=δ (.bool ι):=by rw[nw];simp
theorem fT{l:List α}{i:Nat}{x:α}(h:l[i]? =δ x)(hl:l.length<=aZ):WE (.ah (i:Int)) (.ah 1)=δ (.ah ((i+1:Nat):Int)):=by have:=(bG.1 h).1;rw[nQ,cq (by unfold aY;unfold aZ at hl;omega)];simp
def pU(l:List α)(i:Int):Option α:=if 0<=i then l[i.toNat]? else μ
theorem xz{sz:Nat}{c:α->aq}{l:List α}{i:Int}{x:α}(h:pU l i=δ x):Zo sz (sl sz c l) (.ah i)=δ (.rp (c x)):=by
 unfold pU at h;split at h
 ·exact apm sz c l ‹_› h
 ·cases h
theorem gH{sz:Nat}{c:α->aq}{l:List α}{i:Nat}{x:α}(h:l[i]? =δ x):Zo sz (sl sz c l) (.ah (i:Int))=δ (.rp (c x)):=lG sz c l h
end
theorem eH{M:aF}{v:AV}{σ:Heap}(h:M=δ (v,σ)):Wi M σ=δ v:=by rw[h,V1]
def N2(a b:Int):Option Int:=if b=0 then μ else δ (ξ.wrap (a.tdiv b))
def N3(a b:Int):Option Int:=if b=0 then μ else δ (a.tmod b)
theorem auG{a b c:Int}(h:N2 a b=δ c):A.quo (.ah a) (.ah b)=δ (.ah c):=by
 unfold N2 at h;split at h
 ·cases h
 ·injection h with h;subst h;exact ahC a b ‹_›
theorem auI{a b c:Int}(h:N3 a b=δ c):A.rem (.ah a) (.ah b)=δ (.ah c):=by
 unfold N3 at h;split at h
 ·cases h
 ·injection h with h;subst h;exact avS a b ‹_›
def tq {α:Type} (p:Prop) (x:α):Option α:=open Classical in if p then δ x else μ
theorem tF{α:Type}{p:Prop}{x:α}(h:p):tq p x=δ x:=aP h
theorem tJ{α β:Type}{p:Prop}{x r:α}{M:Option β}{e:α->β}(h:p->M=δ (e x))(k:tq p x=δ r):M=δ (e r):=by
 unfold tq at k;split at k
 ·rename_i hp;injection k with k;subst k;exact h hp
 ·cases k
theorem mO(b t:Bool):UD (.bool b) (bif b then .bool t else .aM []) (.bool ι)=δ (.bool (b&&t)):=by cases b<;>rfl
theorem nO(b t:Bool):UD (.bool b) (.bool θ) (bif !b then .bool t else .aM [])=δ (.bool (b||t)):=by cases b<;>rfl
section
variable {α β ω τ : Type} {G b : Bool} {M0 : Option AV} {K : AV -> Option β} {T : Option τ} {K' : ω -> Option τ} {o : Option ω} {Q : τ -> β -> Prop}
theorem bX(a:AV)(h:b=θ->M0=δ a)(k:Rf (K (bif b then a else .aM [])) T Q):Rf ((η (.bool b) θ M0 (δ (.aM []))).bind K) T Q:=by refine an _ ?_ k;cases b<;>simp_all [η]
theorem ew(a:AV)(h:(!b)=θ->M0=δ a)(k:Rf (K (bif !b then a else .aM [])) T Q):Rf ((η (.bool b) ι M0 (δ (.aM []))).bind K) T Q:=by refine an _ ?_ k;cases b<;>simp_all [η]
theorem AO(a:AV)(h:(G&&b)=θ->M0=δ a)(k:Rf (K (bif G&&b then a else .aM [])) T Q):Rf ((η (bif G then .bool b else .aM []) θ M0 (δ (.aM []))).bind K) T Q:=by refine an _ ?_ k;cases G<;>cases b<;>simp_all [η]
theorem R7(a:AV)(h:(G&&!b)=θ->M0=δ a)(k:Rf (K (bif G&&!b then a else .aM [])) T Q):Rf ((η (bif G then .bool b else .aM []) ι M0 (δ (.aM []))).bind K) T Q:=by refine an _ ?_ k;cases G<;>cases b<;>simp_all [η]
theorem avJ{g:Bool}{M:Option AV}{d:ω}(e:ω->AV)(hM:M=bif g then M0 else δ (.aM []))(h:g=θ->∀t,o=δ t->M0=δ (e t))(k:∀t,(g=θ->o=δ t)->Rf (K (bif g then e t else .aM [])) (K' t) Q):Rf (M.bind K) ((if g=θ then o else δ d).bind K') Q:=by
 subst hM;cases g
 ·exact k d (by simp)
 ·intro t ht;simp only[if_true]at ht;obtain⟨x,h1,h2⟩:=ct.1 ht;obtain⟨y,h3,h4⟩:=k x (λ_=>h1) t h2;refine⟨y,?_,h4⟩;simp only[cU,h rfl x h1,aJ];exact h3
theorem tE{d:ω}(e:ω->AV)(h:b=θ->∀t,o=δ t->M0=δ (e t))(k:∀t,(b=θ->o=δ t)->Rf (K (bif b then e t else .aM [])) (K' t) Q):Rf ((η (.bool b) θ M0 (δ (.aM []))).bind K) ((if b=θ then o else δ d).bind K') Q:=avJ e (by cases b<;>rfl) h k
end
theorem RU{ro:Bool}{fN:List Sh}{iU:Sh}{r:aq->Heap->aF}{args args':aq}{σ:Heap}(hn:TQ fN args=TQ fN args')(h1:args.any A.own=ι)(h2:args'.any A.own=ι):Ω ro fN iU r args σ=Ω ro fN iU r args' σ:=by unfold Ω;rw[h1,h2,hn,Wc,bQ,bQ]
theorem aBx{τ:Type}{ro:Bool}{fN:List Sh}{iU:Sh}{r:aq->Heap->aF}{args args':aq}{σ:Heap}{T:Option τ}{enc:τ->AV}(hn:TQ fN args=args')(h:args.any A.own=ι)(e:Rf (r args' σ) T (λt b=>Y9 iU b.1=enc t/\b.2=σ)):∀t,T=δ t->Ω ro fN iU r args σ=δ (enc t,σ):=by intro t ht;obtain⟨⟨v,σ'⟩,h1,h2,h3⟩:=e t ht;simp only at h2 h3;subst h3;exact wrap_eq h (by rw[hn];exact h1) h2
theorem yj{τ:Type}{ro:Bool}{fN:List Sh}{iU:Sh}{f:AV->Heap->aF}{x0 y0:AV}{σ:Heap}{T:Option τ}{enc:τ->AV}(hn:TQ fN [x0]=[y0])(h:([x0]:aq).any A.own=ι)(e:Rf (f y0 σ) T (λt b=>Y9 iU b.1=enc t/\b.2=σ)):∀t,T=δ t->Ω ro fN iU (YR f) [x0] σ=δ (enc t,σ):=aBx hn h e
theorem rW{τ:Type}{ro:Bool}{fN:List Sh}{iU:Sh}{f:AV->AV->Heap->aF}{x0 x1 y0 y1:AV}{σ:Heap}{T:Option τ}{enc:τ->AV}(hn:TQ fN [x0,x1]=[y0,y1])(h:([x0,x1]:aq).any A.own=ι)(e:Rf (f y0 y1 σ) T (λt b=>Y9 iU b.1=enc t/\b.2=σ)):∀t,T=δ t->Ω ro fN iU (Xw f) [x0,x1] σ=δ (enc t,σ):=aBx hn h e
theorem My{τ:Type}{ro:Bool}{fN:List Sh}{iU:Sh}{f:AV->AV->AV->Heap->aF}{x0 x1 x2 y0 y1 y2:AV}{σ:Heap}{T:Option τ}{enc:τ->AV}(hn:TQ fN [x0,x1,x2]=[y0,y1,y2])(h:([x0,x1,x2]:aq).any A.own=ι)(e:Rf (f y0 y1 y2 σ) T (λt b=>Y9 iU b.1=enc t/\b.2=σ)):∀t,T=δ t->Ω ro fN iU (X5 f) [x0,x1,x2] σ=δ (enc t,σ):=aBx hn h e
end
section
inductive Ct where
 |s(sz:Nat)(es:List aq)
 |m(es:List (AV×AV))
 |b(cs:aq)
def xF:AV->Option Nat
 |.os id _ _ _ _=>δ id
 |.om id=>δ id
 |.op id _=>δ id
 |_=>μ
def Own(n:Nat)(σ:Heap)(p:AV×Ct):Prop:=match p.2 with
 |.s sz es=>(p.1=.aA/\es=[])\/∃id g off a,p.1=.os id g sz off es.length/\n<=id/\σ[id]? =δ (.arr g sz a)/\off<=a.length/\a.drop off=es
 |.m es=>∃id,p.1=.om id/\n<=id/\σ[id]? =δ (.map es)
 |.b cs=>∃id,p.1=.op id 0/\n<=id/\σ[id]? =δ (.box cs)
structure Hp (aL σ : Heap) (L : List (AV × Ct)) : Prop where
 pre:∃bs,σ=aL++bs
 own:∀(i:Nat)p,L[i]? =δ p->Own aL.length σ p
 sep:∀(i j:Nat)p q a,L[i]? =δ p->L[j]? =δ q->xF p.1=δ a->xF q.1=δ a->i=j
section
variable {aL σ σ' : Heap} {L : List (AV × Ct)} {n : Nat}
theorem MP(σ:Heap):Hp σ σ []:=⟨⟨[],by simp⟩,by simp,by simp⟩
theorem MS{p:AV×Ct}{a:Nat}(h:Own n σ p)(e:xF p.1=δ a):n<=a/\a<σ.length:=by
 obtain⟨v,c⟩:=p;cases c with
 |s sz es=>
  rcases h with⟨h1,_⟩|⟨id,g,off,x,h1,h2,h3,_⟩
  ·simp only at h1;subst h1;cases e
  ·simp only at h1;subst h1;injection e with e;subst e;exact⟨h2,(bG.1 h3).1⟩
 |m es=>obtain⟨id,h1,h2,h3⟩:=h;simp only at h1;subst h1;injection e with e;subst e;exact⟨h2,(bG.1 h3).1⟩
 |b es=>obtain⟨id,h1,h2,h3⟩:=h;simp only at h1;subst h1;injection e with e;subst e;exact⟨h2,(bG.1 h3).1⟩
theorem WL{p:AV×Ct}(h:Own n σ p)(k:∀a,xF p.1=δ a->σ'[a]? =σ[a]?):Own n σ' p:=by
 obtain⟨v,c⟩:=p;cases c with
 |s sz es=>
  rcases h with h|⟨id,g,off,x,h1,h2,h3,h4⟩
  ·exact .inl h
  ·simp only at h1;subst h1;exact .inr ⟨id,g,off,x,rfl,h2,by rw[k id rfl];exact h3,h4⟩
 |m es=>obtain⟨id,h1,h2,h3⟩:=h;simp only at h1;subst h1;exact⟨id,rfl,h2,by rw[k id rfl];exact h3⟩
 |b es=>obtain⟨id,h1,h2,h3⟩:=h;simp only at h1;subst h1;exact⟨id,rfl,h2,by rw[k id rfl];exact h3⟩
theorem atl(h:∃bs,σ=aL++bs){id:Nat}(hn:aL.length<=id)(b:aW):∃bs,σ.set id b=aL++bs:=by obtain⟨bs,rfl⟩:=h;exact⟨bs.set (id-aL.length) b,by rw[sy _ _ hn]⟩
theorem aCv(H:Hp aL σ L){k id:Nat}{h h':AV}{c c':Ct}{b:aW}(hk:L[k]? =δ (h,c))(hi:xF h=δ id)(hi':xF h'=δ id)(ho:Own aL.length (σ.set id b) (h',c')):Hp aL (σ.set id b) (L.set k (h',c')):=by
 have hid:=MS (H.own k _ hk) hi;have wS:=(bG.1 hk).1;refine⟨atl H.pre hid.1 b,λi p hp=>?_,λi j p q a hp hq e1 e2=>?_⟩
 ·rw[kE]at hp;split at hp
  ·rename_i e;subst e;simp [wS]at hp;subst hp;exact ho
  ·rename_i e;refine WL (H.own i p hp) λa ha=>?_
   rw[kE];split
   ·rename_i e';subst e';exact absurd (H.sep k i _ _ id hk hp hi ha) e
   ·rfl
 ·have key:∀(i:Nat)(p:AV×Ct),(L.set k (h',c'))[i]? =δ p->xF p.1=δ a->∃p',L[i]? =δ p'/\xF p'.1=δ a:=by
   intro i p hp e;rw[kE]at hp;split at hp
   ·rename_i e';subst e';simp [wS]at hp;subst hp;exact⟨_,hk,by rw[hi];rw[hi']at e;exact e⟩
   ·exact⟨p,hp,e⟩
  obtain⟨p',hp',e1'⟩:=key i p hp e1;obtain⟨q',Ee,Oq⟩:=key j q hq e2;exact H.sep i j p' q' a hp' Ee e1' Oq
theorem aul(H:Hp aL σ L){k:Nat}{h h':AV}{c c':Ct}{b:aW}(hk:L[k]? =δ (h,c))(hi:xF h=μ)(hi':xF h'=δ σ.length)(ho:Own aL.length (σ++[b]) (h',c')):Hp aL (σ++[b]) (L.set k (h',c')):=by
 have wS:=(bG.1 hk).1;refine⟨?_,λi p hp=>?_,λi j p q a hp hq e1 e2=>?_⟩
 ·obtain⟨bs,rfl⟩:=H.pre;exact⟨bs++[b],by simp⟩
 ·rw[kE]at hp;split at hp
  ·rename_i e;subst e;simp [wS]at hp;subst hp;exact ho
  ·refine WL (H.own i p hp) λa ha=>?_
   have:=(MS (H.own i p hp) ha).2;rw[iS this]
 ·have key:∀(i:Nat)(p:AV×Ct),(L.set k (h',c'))[i]? =δ p->xF p.1=δ a->(i=k/\a=σ.length)\/(L[i]? =δ p/\a<σ.length):=by
   intro i p hp e;rw[kE]at hp;split at hp
   ·rename_i e';subst e';simp [wS]at hp;subst hp;rw[hi']at e;injection e with e;exact .inl ⟨rfl,e.symm⟩
   ·exact .inr ⟨hp,(MS (H.own i p hp) e).2⟩
  rcases key i p hp e1 with⟨a1,a2⟩|⟨a1,a2⟩<;>rcases key j q hq e2 with⟨b1,b2⟩|⟨b1,b2⟩
  ·omega
  ·omega
  ·omega
  ·exact H.sep i j p q a a1 b1 e1 e2
theorem asL(H:Hp aL σ L){h':AV}{c':Ct}{b:aW}(hi':xF h'=δ σ.length)(ho:Own aL.length (σ++[b]) (h',c')):Hp aL (σ++[b]) (L++[(h',c')]):=by
 refine⟨?_,λi p hp=>?_,λi j p q a hp hq e1 e2=>?_⟩
 ·obtain⟨bs,rfl⟩:=H.pre;exact⟨bs++[b],by simp⟩
 ·rw[Wl]at hp;split at hp
  ·refine WL (H.own i p hp) λa ha=>?_
   have:=(MS (H.own i p hp) ha).2;rw[iS this]
  ·have hp':=(bG.1 hp).2;simp at hp';subst hp';exact ho
 ·have key:∀(i:Nat)(p:AV×Ct),(L++[(h',c')])[i]? =δ p->xF p.1=δ a->(i=L.length/\a=σ.length)\/(L[i]? =δ p/\a<σ.length):=by
   intro i p hp e;rw[Wl]at hp;split at hp
   ·exact .inr ⟨hp,(MS (H.own i p hp) e).2⟩
   ·obtain⟨h1,h2⟩:=bG.1 hp;simp at h1 h2;subst h2;rw[hi']at e;injection e with e;exact .inl ⟨by omega,e.symm⟩
  rcases key i p hp e1 with⟨a1,a2⟩|⟨a1,a2⟩<;>rcases key j q hq e2 with⟨b1,b2⟩|⟨b1,b2⟩
  ·omega
  ·omega
  ·omega
  ·exact H.sep i j p q a a1 b1 e1 e2
theorem agq(H:Hp aL σ L)(sz:Nat):Hp aL σ (L++[(.aA,.s sz [])]):=by
 refine⟨H.pre,λi p hp=>?_,λi j p q a hp hq e1 e2=>?_⟩
 ·rw[Wl]at hp;split at hp
  ·exact H.own i p hp
  ·have hp':=(bG.1 hp).2;simp at hp';subst hp';exact .inl ⟨rfl,rfl⟩
 ·have key:∀(i:Nat)(p:AV×Ct),(L++[((.aA:AV),Ct.s sz [])])[i]? =δ p->xF p.1=δ a->L[i]? =δ p:=by
   intro i p hp e;rw[Wl]at hp;split at hp
   ·exact hp
   ·have hp':=(bG.1 hp).2;simp at hp';subst hp';cases e
  exact H.sep i j p q a (key i p hp e1) (key j q hq e2) e1 e2
theorem aAt(H:Hp aL σ L):Hp aL (σ++[.map []]) (L++[(.om σ.length,.m [])]):=by
 have hl:aL.length<=σ.length:=by obtain⟨bs,rfl⟩:=H.pre;simp
 exact asL H rfl ⟨σ.length,rfl,hl,by simp⟩
theorem Xk(H:Hp aL σ L):Hp aL σ []:=⟨H.pre,by simp,by simp⟩
theorem auk(H:Hp aL σ L){k sz most:Nat}{h:AV}{es ys:List aq}(hk:L[k]? =δ (h,.s sz es))(hm:es.length+ys.length<=most):∃h' σ',WK sz most h (.sl sz ys) σ=δ (h',σ')/\Hp aL σ' (L.set k (h',.s sz (es++ys))):=by
 have hl:aL.length<=σ.length:=by obtain⟨bs,rfl⟩:=H.pre;simp
 rcases H.own k _ hk with⟨h1,h2⟩|⟨id,g,off,a,h1,h2,h3,h4,h5⟩
 ·simp only at h1 h2;subst h1 h2;by_cases hy:ys=[]
  ·subst hy;refine⟨.aA,σ,by simp [WK,A.p6,VB],?_⟩
   have:L.set k (.aA,.s sz ([]++[]))=L:=by
    apply List.ext_getElem?;intro i;rw[kE];split
    ·rename_i e;subst e;rw[hk];simp [(bG.1 hk).1]
    ·rfl
   rw[this];exact H
  ·refine⟨.os σ.length ys.length sz 0 ys.length,σ++[.arr ys.length sz ys],?_,?_⟩
   ·have:ys.length<=most:=by simpa using hm
    simp [WK,A.p6,VB,hy,this]
   ·exact aul H hk rfl rfl (.inr ⟨σ.length,ys.length,0,ys,by simp,hl,by simp,by simp,by simp⟩)
 ·simp only at h1 h5;subst h1;have hid:=(bG.1 h3).1;have h6:off+es.length=a.length:=by rw[<-h5,List.length_drop];omega
  by_cases hy:ys=[]
  ·subst hy;refine⟨.os id g sz off es.length,σ,?_,?_⟩
   ·have:es.length<=most:=by simpa using hm
    simp [WK,A.p6,VB,h3,h6,this]
   ·have:L.set k (.os id g sz off es.length,.s sz (es++[]))=L:=by
     apply List.ext_getElem?;intro i;rw[kE];split
     ·rename_i e;subst e;rw[hk];simp [(bG.1 hk).1]
     ·rfl
    rw[this];exact H
  ·refine⟨.os id (g+ys.length) sz 0 (es.length+ys.length),σ.set id (.arr (g+ys.length) sz (es++ys)),?_,?_⟩
   ·have ht:(a.drop off).take es.length=es:=by rw[h5];simp
    have hp:0<ys.length:=List.length_pos_iff.2 hy;simp [WK,A.p6,VB,h3,h6,hm,hy,ht,hp]
   ·refine aCv H hk rfl rfl (.inr ⟨id,g+ys.length,0,es++ys,by simp,h2,by simp [hid],by simp,by simp [h5]⟩)
theorem asK(H:Hp aL σ L){k:Nat}{h key v:AV}{ek:A.EK}{es es':List (AV×AV)}(hk:L[k]? =δ (h,.m es))(hok:A.lS ek key=θ)(he:A.upd ek key v es=δ es'):∃σ',A.jX ek h key v σ=δ σ'/\Hp aL σ' (L.set k (h,.m es')):=by obtain⟨id,h1,h2,h3⟩:=H.own k _ hk;simp only at h1 h3;subst h1;have hid:=(bG.1 h3).1;exact⟨σ.set id (.map es'),by simp [A.jX,hok,h3,he],aCv H hk rfl rfl ⟨id,rfl,h2,by simp [hid]⟩⟩
theorem asJ(H:Hp aL σ L){k:Nat}{h key:AV}{ek:A.EK}{es es':List (AV×AV)}(hk:L[k]? =δ (h,.m es))(hok:A.lS ek key=θ)(he:A.del ek key es=δ es'):∃σ',A.Ho ek h key σ=δ σ'/\Hp aL σ' (L.set k (h,.m es')):=by obtain⟨id,h1,h2,h3⟩:=H.own k _ hk;simp only at h1 h3;subst h1;have hid:=(bG.1 h3).1;exact⟨σ.set id (.map es'),by simp [A.Ho,hok,h3,he],aCv H hk rfl rfl ⟨id,rfl,h2,by simp [hid]⟩⟩
theorem asI(H:Hp aL σ L){k:Nat}{h key z:AV}{ek:A.EK}{es:List (AV×AV)}{r:Option AV}(hk:L[k]? =δ (h,.m es))(hok:A.lS ek key=θ)(he:Wh ek key es=δ r):Yt ek h key z σ=δ (r.getD z):=by obtain⟨id,h1,h2,h3⟩:=H.own k _ hk;simp only at h1 h3;subst h1;rw[EN ek hok h3,he];rfl
def SL(aL σ:Heap)(r r':AV):Prop:=(∀d,X4 σ aL.length (d+1) r=δ r')/\(σ=aL->r'=r)
theorem XH{r:AV}(h:Fz r):SL aL σ r r:=⟨λd=>h σ _ (d+1),λ_=>rfl⟩
theorem afk{α:Type}(H:Hp aL σ L){k sz:Nat}{h:AV}{c:α->aq}{l:List α}(hk:L[k]? =δ (h,.s sz (l.map c)))(hc:∀x,kF (c x)):∃r',SL aL σ h r'/\((r'=.aA/\l=[])\/r'=sl sz c l):=by
 rcases H.own k _ hk with⟨h1,h2⟩|⟨id,g,off,a,h1,h2,h3,h4,h5⟩
 ·simp only at h1 h2;have:l=[]:=by simpa using h2
  subst this;subst h1;exact⟨.aA,XH agi,.inl ⟨rfl,rfl⟩⟩
 ·simp only at h1 h5;subst h1;refine⟨sl sz c l,⟨λd=>?_,λe=>?_⟩,.inr rfl⟩
  ·have h6:off+(l.map c).length=a.length:=by rw[<-h5,List.length_drop];omega
   simp only[X4,Nat.not_lt.2 h2,if_false,h3];rw[aP (by simp;simp at h6;omega),Gv,h5,n9 (bN _),Sw hc];rfl
  ·subst e;have:=(bG.1 h3).1;omega
theorem afy{α:Type}{sz:Nat}{c:α->aq}{l:List α}{r:AV}(h:(r=.aA/\l=[])\/r=sl sz c l):Y9 (.s sz) r=sl sz c l:=by rcases h with⟨rfl,rfl⟩|rfl<;>rfl
theorem dO{s1:Sh}{v1 w1:AV}{ss:List Sh}{vs ws:aq}(h1:Y9 s1 v1=w1)(h2:TQ ss vs=ws):TQ (s1::ss) (v1::vs)=w1::ws:=by simp only[TQ,h1,h2]
theorem oH:TQ [] []=[]:=by simp [TQ]
theorem nT{ss:List Sh}{vs ws:aq}(h:TQ ss vs=ws):Y9 (.a ss) (.agg vs)=.agg ws:=by simp only[Y9,h]
theorem Fu{ss:List Sh}{vs ws:aq}(h:TQ ss vs=ws):Y9 (.t ss) (.aM vs)=.aM ws:=by simp only[Y9,h]
theorem RG(d:Nat):∀{es:List (AV×AV)},(∀p∈es,Fz p.1/\Fz p.2)->A.E0 σ n d es=δ es
 |[],_=>by simp [A.E0]
 |(k,v)::es,h=>by have h1:=h (k,v) (by simp);simp only[A.E0,h1.1 σ n d,h1.2 σ n d,aJ,RG d (es:=es) (λp hp=>h p (by simp [hp])),cR]
theorem agk(H:Hp aL σ L){k:Nat}{h:AV}{es:List (AV×AV)}(hk:L[k]? =δ (h,.m es))(hc:∀p∈es,Fz p.1/\Fz p.2):SL aL σ h (.fm es):=by
 obtain⟨id,h1,h2,h3⟩:=H.own k _ hk;simp only at h1 h3;subst h1;refine⟨λd=>?_,λe=>?_⟩
 ·simp only[X4,Nat.not_lt.2 h2,if_false,h3,RG d hc,cR]
 ·subst e;have:=(bG.1 h3).1;omega
theorem JX(H:Hp aL σ L){r r':AV}(h:SL aL σ r r'):wh aL r σ=δ (r',aL):=by
 obtain⟨bs,hb⟩:=H.pre;subst hb;by_cases oU:bs=[]
 ·subst oU;rw[VT]at h ⊢;rw[bD,h.2 rfl]
 ·unfold wh;rw[aO (by simpa using oU),aP (by simp),h.1 7];rfl
end
section
variable {κ ν : Type} [DecidableEq κ]
def dQ(k:κ):List (κ×ν)->Option ν
 |[]=>μ
 |(k',v)::r=>if k=k' then δ v else dQ k r
def fJ(k:κ)(v:ν):List (κ×ν)->List (κ×ν)
 |[]=>[(k,v)]
 |(k',v')::r=>if k=k' then(k,v)::r else(k',v')::fJ k v r
def uJ(k:κ):List (κ×ν)->List (κ×ν)
 |[]=>[]
 |(k',v')::r=>if k=k' then r else(k',v')::uJ k r
variable {ek : A.EK} {eK : κ -> AV} {eV : ν -> AV} (hq : ∀ a b, WN ek (eK a) (eK b) = δ (decide (a = b)))
include hq
theorem EV(k:κ):∀l:List (κ×ν),Wh ek (eK k) (l.map λp=>(eK p.1,eV p.2))=δ ((dQ k l).map eV)
 |[]=>rfl
 |(k',v)::r=>by
  simp only[eP,Wh,hq,aJ,dQ];by_cases h:k=k'
  ·simp [h]
  ·simp [h,EV k r]
theorem GS(k:κ)(v:ν):∀l:List (κ×ν),A.upd ek (eK k) (eV v) (l.map λp=>(eK p.1,eV p.2))=δ ((fJ k v l).map λp=>(eK p.1,eV p.2))
 |[]=>rfl
 |(k',v')::r=>by
  simp only[eP,A.upd,hq,aJ,fJ];by_cases h:k=k'
  ·simp [h]
  ·simp [h,GS k v r]
theorem aha(k:κ):∀l:List (κ×ν),A.del ek (eK k) (l.map λp=>(eK p.1,eV p.2))=δ ((uJ k l).map λp=>(eK p.1,eV p.2))
 |[]=>rfl
 |(k',v')::r=>by
  simp only[eP,A.del,hq,aJ,uJ];by_cases h:k=k'
  ·simp [h]
  ·simp [h,aha k r]
end
theorem afd(a b:ByteArray):WN .z (.str a) (.str b)=δ (decide (a=b)):=by simp only[WN,A.tV,bq]
theorem getD_map{α:Type}(o:Option α)(f:α->AV)(d:α):(o.map f).getD (f d)=f (o.getD d):=by cases o<;>rfl
theorem isSome_map{α:Type}(o:Option α)(f:α->AV):(o.map f).isSome=o.isSome:=by cases o<;>rfl
def yS{κ ν:Type}(eK:κ->AV)(eV:ν->AV)(l:List (κ×ν)):AV:=.fm (l.map λp=>(eK p.1,eV p.2))
section
variable {κ ν : Type} [DecidableEq κ] {ek : A.EK} {eK : κ -> AV} {eV : ν -> AV} {aL σ : Heap} {L : List (AV × Ct)} {h : AV} {l : List (κ × ν)}
theorem aCo(H:Hp aL σ L)(k:Nat)(hk:L[k]? =δ (h,.m (l.map λp=>(eK p.1,eV p.2)))) (hq:∀a b,WN ek (eK a) (eK b)=δ (decide (a=b))) (x:κ) (v:ν) (hok:A.lS ek (eK x)=θ):∃σ',A.jX ek h (eK x) (eV v) σ=δ σ'/\Hp aL σ' (L.set k (h,.m ((fJ x v l).map λp=>(eK p.1,eV p.2)))):=asK H hk hok (GS hq x v l)
theorem asH(H:Hp aL σ L)(k:Nat)(hk:L[k]? =δ (h,.m (l.map λp=>(eK p.1,eV p.2)))) (hq:∀a b,WN ek (eK a) (eK b)=δ (decide (a=b))) (x:κ) (hok:A.lS ek (eK x)=θ):∃σ',A.Ho ek h (eK x) σ=δ σ'/\Hp aL σ' (L.set k (h,.m ((uJ x l).map λp=>(eK p.1,eV p.2)))):=asJ H hk hok (aha hq x l)
theorem aqT(H:Hp aL σ L)(k:Nat)(hk:L[k]? =δ (h,.m (l.map λp=>(eK p.1,eV p.2)))) (hq:∀a b,WN ek (eK a) (eK b)=δ (decide (a=b))) (x:κ) (z:ν) (hok:A.lS ek (eK x)=θ):Yt ek h (eK x) (eV z) σ=δ (eV ((dQ x l).getD z)):=by rw[asI H hk hok (EV hq x l),getD_map]
theorem aqN(hq:∀a b,WN ek (eK a) (eK b)=δ (decide (a=b)))(x:κ)(z:ν)(hok:A.lS ek (eK x)=θ):Yt ek (yS eK eV l) (eK x) (eV z) σ=δ (eV ((dQ x l).getD z)):=by simp only[Yt,yS,hok,cU,US,aJ,EV hq,cR,getD_map]
end
section
variable {α : Type} {c : α -> aq} {l ys : List α} {aL σ : Heap} {L : List (AV × Ct)} {h : AV} {sz : Nat}
theorem afp(H:Hp aL σ L)(k:Nat){most:Nat}(hk:L[k]? =δ (h,.s sz (l.map c)))(hm:l.length+ys.length<=most):∃h' σ',WK sz most h (sl sz c ys) σ=δ (h',σ')/\Hp aL σ' (L.set k (h',.s sz ((l++ys).map c))):=by rw[Z6];exact auk H hk (by simpa using hm)
end
def O3{α:Type}(l:List α)(lo hi:Option Int):Option (List α):=
 let h:=hi.getD l.length
 let k:=lo.getD 0
 if 0<=k/\k<=h/\h<=l.length then δ ((l.take h.toNat).drop k.toNat)else μ
theorem auQ{α:Type}{sz:Nat}{c:α->aq}{l r:List α}{lo hi:Option Int}{σ:Heap}(h:O3 l lo hi=δ r):Wf sz (sl sz c l) (lo.map (.int ξ)) (hi.map (.int ξ)) σ=δ (sl sz c r):=by
 unfold O3 at h;simp only at h;split at h
 ·rename_i hc;injection h with h
  subst h;obtain⟨h1,h2,h3⟩:=hc;simp only[Wf,sl,if_true,X1]
  have e1:Wb l.length l.length (hi.map (.int ξ))=δ (hi.getD l.length).toNat:=by
   cases hi with
   |none=>simp [Wb]
   |some h=>simp only[WU]at h2 h3;simp [Wb,show 0<=h by omega,h3]
  have e2:Wb (hi.getD l.length).toNat 0 (lo.map (.int ξ))=δ (lo.getD 0).toNat:=by
   cases lo with
   |none=>simp [Wb]
   |some k=>
    simp only[WU]at h1 h2;have:k<=((hi.getD l.length).toNat:Int):=by omega
    simp only[cR,Wb,WU];rw[aP ⟨h1,this⟩]
  rw[e1,aJ,e2,cR,List.map_drop,List.map_take]
 ·cases h
end
section
def jR{α:Type}(f:Nat->α->Int):List α->Nat->Int
 |[],_=>0
 |x::l,i=>if f i x=0 then jR f l (i+1)else f i x
section
variable {α β γ S B R : Type}
theorem zi{f:Nat->α->Int}:∀(l:List α)(i:Nat),jR f l i=0↔∀j x,l[j]? =δ x->f (i+j) x=0
 |[],i=>by simp [jR]
 |y::l,i=>by
  rw[jR];by_cases h:f i y=0
  ·rw[aP h,zi l (i+1)];constructor
   ·intro k j x hx;cases j with
    |zero=>simp at hx;subst hx;exact h
    |succ j=>have:=k j x (by simpa using hx);rwa[show i+1+j=i+(j+1) by omega]at this
   ·intro k j x hx;have:=k (j+1) x (by simpa using hx);rwa[show i+(j+1)=i+1+j by omega]at this
  ·rw[aO h];exact⟨λe=>absurd e h,λk=>absurd (k 0 y rfl) h⟩
theorem JM{l:List α}{body:Nat->α->S->Option (Lr S B R)}{fin:S->Option B}{s:S}{K1:B->Option γ}{K2:R->Option γ}(hl:l.length<=aZ):kr l body fin s K1 K2=(oM body fin l 0 s).bind λq=>q.elim K1 K2:=aP hl
theorem yc{f:Nat->α->Int}{l:List α}{body:Nat->α->Unit->Option (Lr Unit Unit Int)}{fin:Unit->Option Unit}{s:Unit}{K1:Unit->Option γ}{K2:Int->Option γ}(hl:l.length<=aZ)(hb:∀i x,l[i]? =δ x->body i x ()=δ (if f i x=0 then .go ()else .ret (f i x)))(hf:fin ()=δ ():=by rfl):kr l body fin s K1 K2=if jR f l 0=0 then K1 ()else K2 (jR f l 0):=by
 rw[JM hl]
 have key:∀(rest pre:List α),l=pre++rest->oM body fin rest pre.length ()=δ (if jR f rest pre.length=0 then .inl ()else .inr (jR f rest pre.length)):=by
  intro rest;induction rest with
  |nil=>intro pre _;simp [oM,hf,jR]
  |cons x rest ih=>
   intro pre hp;rw[oM,hb pre.length x (by rw[hp];simp),aJ,jR];by_cases h:f pre.length x=0
   ·simp only[h,if_true];have:=ih (pre++[x]) (by simpa using hp);simpa using this
   ·simp only[h,if_false]
 have k:=key l [] rfl;rw[UB]at k;rw[show s=()from rfl,k,aJ];split<;>rfl
theorem CY{p:Prop}[Decidable p]{k f:Int}{Y:Option (Lr Unit Unit Int)}(hk:k≠0)(h:Y=δ (if f=0 then .go ()else .ret f)):(if p then δ (.ret k)else Y)=δ (if(if p then k else f)=0 then .go ()else .ret (if p then k else f)):=by
 by_cases hp:p
 ·simp [hp,hk]
 ·simp [hp,h]
theorem go_ret:(δ (.go ()):Option (Lr Unit Unit Int))=δ (if(0:Int)=0 then .go ()else .ret 0):=rfl
theorem Ra(k:Int):(if k=0 then δ (.go ())else δ (.ret k):Option (Lr Unit Unit Int))=δ (if k=0 then .go ()else .ret k):=by split<;>rfl
theorem Mj{p:α->Bool}{l:List α}{body:Nat->α->Unit->Option (Lr Unit Unit R)}{r:α->R}{fin:Unit->Option Unit}{s:Unit}{K1:Unit->Option γ}{K2:R->Option γ}(hl:l.length<=aZ)(hb:∀i x,l[i]? =δ x->body i x ()=δ (if p x=θ then .ret (r x)else .go ()))(hf:fin ()=δ ():=by rfl):kr l body fin s K1 K2=match l.find? p with|some x=>K2 (r x)|none=>K1 ():=by
 rw[JM hl]
 have key:∀(rest pre:List α),l=pre++rest->oM body fin rest pre.length ()=δ (match rest.find? p with|some x=>.inr (r x)|none=>.inl ()):=by
  intro rest;induction rest with
  |nil=>intro pre _;simp [oM,hf]
  |cons x rest ih=>
   intro pre hp;rw[oM,hb pre.length x (by rw[hp];simp),aJ,aDr];cases h:p x
   ·simp only[YQ,if_false];have:=ih (pre++[x]) (by simpa using hp);simpa using this
   ·simp only[if_true]
 have k:=key l [] rfl;rw[UB]at k;rw[show s=()from rfl,k,aJ];cases l.find? p<;>rfl
theorem Gm{l:List α}{body:Nat->α->S->Option (Lr S B R)}{fin:S->Option B}{s:S}{K1:B->Option γ}{K2:R->Option γ}(g:S->α->S)(P:Nat->S->Prop)(hl:l.length<=aZ)(h0:P 0 s)(hP:∀i x s,l[i]? =δ x->P i s->P (i+1) (g s x))(hb:∀i x s,l[i]? =δ x->P i s->body i x s=δ (.go (g s x))):kr l body fin s K1 K2=(fin (l.foldl g s)).bind K1:=by
 rw[JM hl]
 have key:∀(rest pre:List α)(s:S),l=pre++rest->P pre.length s->oM body fin rest pre.length s=(fin (rest.foldl g s)).map .inl:=by
  intro rest;induction rest with
  |nil=>intro pre s _ _;simp [oM]
  |cons x rest ih=>
   intro pre s hp hq;have hx:l[pre.length]? =δ x:=by rw[hp];simp
   rw[oM,hb pre.length x s hx hq,aJ,V4];have:=ih (pre++[x]) (g s x) (by simpa using hp) (by simpa using hP _ _ _ hx hq);simpa using this
 have k:=key l [] s rfl h0;rw[UB]at k;rw[k];cases fin (l.foldl g s)<;>rfl
def pv [Inhabited α](l:List α)(i:Nat):α:=if 0<i then l.getD (i-1) default else default
theorem MK{l:List α}{i:Int}{x:α}(h0:0<=i)(h:l[i.toNat]? =δ x):pU l i=δ x:=by rw[pU,aP h0,h]
theorem C2 [Inhabited α]{l:List α}{i:Nat}{x:α}(h:l[i]? =δ x)(hl:l.length<=aZ):(if decide (0<(i:Int))=θ then pU l (ξ.wrap ((i:Int) -1))else δ default)=δ (pv l i):=by
 have hi:=(bG.1 h).1;unfold pv;by_cases h0:0<i
 ·rw[aP (by simpa using h0),aP h0,cq (by unfold aY;unfold aZ at hl;omega)];refine MK (by omega) ?_;have:((i:Int) -1).toNat=i-1:=by omega
  rw[this,U1,cC (by omega)];rfl
 ·rw[aO (by simpa using h0),aO h0]
theorem asS [Inhabited α]{l:List α}{i:Nat}{x:α}(h:l[i]? =δ x)(hl:l.length<=aZ):(if decide (0<((l.take i).length:Int))=θ then pU (l.take i) (ξ.wrap (((l.take i).length:Int) -1))else δ default)=δ (pv l i):=by
 have hi:=(bG.1 h).1;have e:(l.take i).length=i:=by simp;omega
 rw[e];unfold pv;by_cases h0:0<i
 ·rw[aP (by simpa using h0),aP h0,cq (by unfold aY;unfold aZ at hl;omega)];refine MK (by omega) ?_;have:((i:Int) -1).toNat=i-1:=by omega
  rw[this,U1,aCY,aP (by omega),cC (by omega)];rfl
 ·rw[aO (by simpa using h0),aO h0]
theorem atD{l:List α}{i:Nat}(h:i<=l.length):O3 l μ (δ (i:Int))=δ (l.take i):=by simp [O3,h]
theorem aB6{a b:Int}:(([a,b]:List Int).find? λn=>decide (¬n=0)).getD 0=if ¬(a=0)then a else b:=by
 by_cases ha:a=0
 ·by_cases hb:b=0<;>simp [ha,hb,Xx]
 ·simp [ha,Xx]
end
theorem Rv(s:ByteArray):s.toList=s.data.toList:=ByteArray.toList_eq s
theorem Xc:∀(a b:List UInt8),Xt a b<0↔WR a b=θ
 |[],[]=>by simp [Xt,WR]
 |[],_::_=>by simp [Xt,WR]
 |_::_,[]=>by simp [Xt,WR]
 |a::x,b::y=>by
  rw[Xt,WR];by_cases h1:a<b
  ·simp [h1]
  ·by_cases h2:b<a
   ·have:a≠b:=by rintro rfl;exact h1 h2
    simp [h1,h2,this]
   ·have:a=b:=aDB (XJ.1 h2) (XJ.1 h1);subst this;simp [Zh,Xc x y]
theorem Xb:∀(a b:List UInt8),Xt a b=0↔a=b
 |[],[]=>by simp [Xt]
 |[],_::_=>by simp [Xt]
 |_::_,[]=>by simp [Xt]
 |a::x,b::y=>by
  rw[Xt];by_cases h1:a<b
  ·have:a≠b:=by rintro rfl;exact Zh _ h1
   simp [h1,this]
  ·by_cases h2:b<a
   ·have:a≠b:=by rintro rfl;exact Zh _ h2
    simp [h1,h2,this]
   ·have:a=b:=aDB (XJ.1 h2) (XJ.1 h1);subst this;simp [Zh,Xb x y]
def gK(a b:aC):Bool:=decide (a.unit<b.unit)||(decide (a.unit=b.unit)&&WR a.param.toList b.param.toList)
def zV(a b:aC):Int:=if ¬(a.unit=b.unit)then(if a.unit<b.unit then -1 else 1)else Xt a.param.data.toList b.param.data.toList
theorem aCa(a b:aC):zV a b<0↔gK a b=θ:=by
 unfold zV gK;by_cases h:a.unit=b.unit
 ·simp [h,Rv,Xc]
 ·by_cases h2:a.unit<b.unit<;>simp [h,h2]
theorem ar8(a b:aC):decide (0<=zV a b)=!gK a b:=by
 have:=aCa a b;cases h:gK a b
 ·rw[h]at this;simp at this;simp [this]
 ·rw[h]at this;simp at this;simp [this]
theorem ar0(a b:aC):zV a b=0↔a=b:=by
 obtain⟨u,p⟩:=a;obtain⟨v,q⟩:=b;unfold zV;by_cases h:u=v
 ·subst h;simp only[not_true_eq_false,if_false,Xb,aC.mk.injEq,true_and];exact⟨λe=>by obtain⟨⟨p⟩⟩:=p;obtain⟨⟨q⟩⟩:=q;simp at e;subst e;rfl,λe=>by rw[e]⟩
 ·by_cases h2:u<v<;>simp [h,h2]
end
section
open Go.Sort
theorem af4:∀a:List UInt8,WR a a=ι
 |[]=>rfl
 |x::l=>by simp [WR,Zh,af4 l]
theorem ad5:∀a b c:List UInt8,WR a b=θ->WR b c=θ->WR a c=θ
 |[],[],c,h,_=>by simp [WR]at h
 |[],_::_,[],_,k=>by simp [WR]at k
 |[],_::_,_::_,_,_=>rfl
 |_::_,[],c,h,_=>by simp [WR]at h
 |_::_,_::_,[],_,k=>by simp [WR]at k
 |x::a,y::b,z::c,h,k=>by
  rw[WR]at h k ⊢;simp only[Bool.or_eq_true,jW,decide_eq_true_eq,beq_iff_eq]at h k ⊢;rcases h with h|⟨rfl,h⟩<;>rcases k with k|⟨rfl,k⟩
  ·exact .inl (UInt8.lt_trans h k)
  ·exact .inl h
  ·exact .inl k
  ·exact .inr ⟨rfl,ad5 a b c h k⟩
theorem CZ(a:aC):gK a a=ι:=by simp [gK,af4]
theorem Gn{a b c:aC}(h:gK a b=θ)(k:gK b c=θ):gK a c=θ:=by
 simp only[gK,Bool.or_eq_true,jW,decide_eq_true_eq]at h k ⊢;rcases h with h|⟨h1,h2⟩<;>rcases k with k|⟨k1,k2⟩
 ·left;omega
 ·left;omega
 ·left;omega
 ·right;exact⟨by omega,ad5 _ _ _ h2 k2⟩
theorem aAK{a b:aC}(h:gK a b=ι)(k:gK b a=ι):a=b:=by
 rw[<-ar0];have h1:¬zV a b<0:=λe=>by rw[(aCa a b).1 e]at h;cases h
 have hba:zV b a=-zV a b\/True:=.inr trivial
 -- what is neither smaller nor greater is the same
 unfold zV at h1 ⊢;simp only[gK,qw,Bool.and_eq_false_iff,decide_eq_false_iff_not]at h k;have hu:a.unit=b.unit:=by omega
 simp only[hu,not_true_eq_false,if_false]at h1 ⊢
 have e1:WR a.param.data.toList b.param.data.toList=ι:=by
  rcases h.2 with q|q
  ·exact absurd hu q
  ·simpa [Rv]using q
 have e2:WR b.param.data.toList a.param.data.toList=ι:=by
  rcases k.2 with q|q
  ·exact absurd hu.symm q
  ·simpa [Rv]using q
 rw[Xb]
 have tri:∀x y:List UInt8,WR x y=ι->WR y x=ι->x=y:=by
  intro x;induction x with
  |nil=>intro y p q;cases y with|nil=>rfl|cons y l=>simp [WR]at p
  |cons x xs ih=>
   intro y p q;cases y with
   |nil=>simp [WR]at q
   |cons y ys=>
    rw[WR]at p q;by_cases h1:x<y
    ·simp [h1]at p
    ·by_cases h2:y<x
     ·simp [h2]at q
     ·have:x=y:=aDB (XJ.1 h2) (XJ.1 h1);subst this;simp [h1]at p q;rw[ih ys p q]
 exact tri _ _ e1 e2
theorem EH(a b:aC):nM a b<0↔gK a b=θ:=aCa a b
theorem AH{α:Type}(f:α->aC):SWO (λx y=>decide (nM (f x) (f y)<0)):=by
 refine⟨λx=>?_,λx y z h k=>?_,λx y z h k=>?_⟩
 ·exact cO λh=>by rw[EH,CZ]at h;cases h
 ·have h:=(EH _ _).1 (of_decide_eq_true h);have k:=(EH _ _).1 (of_decide_eq_true k);exact cL ((EH _ _).2 (Gn h k))
 ·have h:gK (f x) (f y)=ι:=by
   cases q:gK (f x) (f y)
   ·rfl
   ·exact absurd ((EH _ _).2 q) (of_decide_eq_false h)
  have k:gK (f y) (f z)=ι:=by
   cases q:gK (f y) (f z)
   ·rfl
   ·exact absurd ((EH _ _).2 q) (of_decide_eq_false k)
  refine cO λq=>?_
  have q:=(EH _ _).1 q;cases e:gK (f y) (f x)
  ·have:=aAK h e;rw[this,k]at q;cases q
  ·have:=Gn e q;rw[k]at this;cases this
theorem ab2(x y:bB)(h:bJ x=bJ y):x=y:=by obtain⟨⟨a,b⟩,⟨p,q⟩,r⟩:=x;obtain⟨⟨a',b'⟩,⟨p',q'⟩,r'⟩:=y;simp [bJ]at h;obtain⟨rfl,rfl,rfl,rfl,rfl⟩:=h;rfl
end
end
end Go.Proofs.YtooknfkholjpbaaGreat
