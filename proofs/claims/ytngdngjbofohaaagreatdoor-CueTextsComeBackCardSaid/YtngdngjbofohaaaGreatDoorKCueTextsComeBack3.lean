/- Parts of the proof of CueTextsComeBack, in order. -/
import Derived.IntWalk
import Derived.Test.YtngdngjbofohaaaGreatDoorShelf
import Derived.WalkSpells
import Derived.ProofKit
import Derived.OpenShut
import Derived.Deep.QuietTactic
import Derived.BigQuiet
import Derived.Lib.Hide
import Derived.Deep.RegionHeld3
import Derived.Test.YtngdngjbofohaaaGreatDoorTrim
import Derived.Lib.SmallJoins
import Derived.Lib.SplitLaws
import Derived.Lib.Builder
import Derived.Lib.AppendStr
import Derived.Lib.UnsafeStr
import Derived.Lib.OthersKept
import Derived.Lib.OwnKind
import Derived.Laws.Externs
import Derived.Shelf.Strings.Builder1
import Derived.Test.YtngdngjbofohaaaGreatDoorKCueTextsComeBack2
namespace Go.Proofs.YtngdngjbofohaaaGreatDoor
set_option linter.unusedVariables false
set_option linter.unusedSimpArgs false
set_option linter.unusedSectionVars false
set_option maxRecDepth 1000000
noncomputable section
open Bool renaming not_eq_true'->VC,or_false->T9,false_and->YM,and_false->ZO,not_true->AV,true_and->Y8,false_or->ZV,eq_false_or_eq_true->apX,false->ε,false_eq_true->n5,not_false->Zy,true->ι
open A renaming add->u9,cell->n8,append->SI,bF->ZJ,dK->X4,sub->Uw,pick->ir,storeAt->WG,cV->YK,aH->n4,fin->Θ,nn->V3,gtr->ZR,eql->p4,bn->Zv,dI->UU,find->Z6,iter->aoM,tab->aoQ,elems->aoZ,look->Zl,entries->apl,loop->Zp,dL->VD,eH->Sv,ext->j0,aN->p9,upd->apa,eF->YB,cells->Φ,wrap->l9,lb->Zm,cond->Γ,deref->Ψ,neq->Lu,eo->Tu,guard->θ,quiet->Zf,bound->Zj,aA->Ω,lss->ZS,bM->ZG,not->Zo
open List renaming all_reverse->apg,mem_map_of_mem->aoV,length_map->XZ,replicate->w8,findIdx?_cons->ao7,getElem?_cons_succ->ap4,nil_append->ZH,drop_zero->apf,getElem?_cons_zero->SD,getElem_range'->ao3,length_range'->Vf,mem_singleton->apF,range'_succ->apw,getD->ZI,length_append->p5,all_cons->Rq,nodup_cons->ao9,append_nil->Zq,flatMap_cons->apc,getElem?_take_of_lt->UY,length_nil->Zh,range'->ZQ,getElem?_drop->XK,getD_eq_getElem?_getD->YA,length_cons->n9,find?->Ws,map_congr_left->Ub
open U renaming rp->T3,az->l6,str->ψ,aD->IM,int->Ru,op->UK,lbx->Z3,ah->η,agg->l7,bool->φ
open AX renaming ret->l8,exit->i6,normal->y9
open Go.Lib renaming hid->Ug,strCells->Zs,OthersKept->aoT,compareBytes->R4,cell_of_heap->UM,IsBuilder->Ui,decNat->apI,BuilderAt->Yq,trimS->ap3
open aF renaming mono->UN
open Nat renaming add_zero->aps,zero_add->ZP
open Sound renaming none->Ze,wrap->Z5
open Go.World renaming drewN->apo,cell?->RD
open Int renaming ofNat_zero->apK,toNat_natCast->Zk,lt_irrefl->Zu
open Option.some renaming injEq->χ
open aI renaming cons->Δ,nil->u0
open Option renaming getD_some->ZY,none->μ,some->δ,getD_none->ZZ
open aS renaming nth->ZW
open Prod.mk renaming injEq->Ξ
open Go.ByteArray renaming toList_eq->ao2
open Classical renaming choose->aoW,choose_spec->Zx
open Go.Op renaming bytesLess->RE
open _root_.ByteArray renaming ext->apA
open _root_.Array renaming getElem?_eq_none->ao8
open IntKind renaming i64->ξ
open Go.IntKind renaming i64->ξ
open Go.Oper renaming upon_value->apR
open List.cons renaming injEq->VP
open UInt8 renaming ofNat->aoS
open Go.Result renaming andThen->apJ
open bQ renaming map->Z2
section
def Lc (a0:U) (σ:Heap):aL:=(jd [a0,(η 0),(η 36000000)] σ).bind λr1=>Θ σ r1.1 r1.2
def wN:ay->Heap->aL:=l9 ι [] .k (Tu Lc)
def KU (a0 a1:U) (σ:Heap):aL:=(Φ 2 a0).bind λc1=>(Φ 2 a1).bind λc2=>(Ω 0 c1).bind λx3=>(Ω 0 c2).bind λx4=>(Lu .i x3 x4).bind λx5=>Γ x5 ((Ω 0 c1).bind λx6=>(Ω 0 c2).bind λx7=>(ZS x6 x7).bind λx8=>Γ x8 (Θ σ (η (-1)) σ) (Θ σ (η 1) σ)) ((Ω 1 c1).bind λx9=>(Ω 1 c2).bind λbO=>(Gq [x9,bO] σ).bind λeC=>Θ σ eC.1 eC.2)
def KQ:ay->Heap->aL:=l9 ι [] .k (Sv KU)
def Kw (a0:U) (σ:Heap):aL:=(ZJ a0).bind λx1=>(Zp (λv2 s3=>(ZS (ak v2 1) x1).bind λx5=>Γ x5 ((Zv 8 a0 (ak v2 1)).bind λx6=>((Ψ x6 s3).bind λc7=>p9 0 8 c7).bind λx8=>(Φ 8 x8).bind λc9=>(n4 0 c9 [(η 0),aV,(η 0),(η 0),aC,aC,(η 0),(η 0)]).bind λdR=>(Ω 0 dR).bind λbB=>(jd [bB,(η 1),(η 9999)] s3).bind λfG=>(Zo fG.1).bind λbU=>Γ bU (δ (l8,[(η 1),(ak v2 1)],fG.2)) ((Ω 1 dR).bind λcr=>(AW [cr] fG.2).bind λiN=>(Zo iN.1).bind λcq=>Γ cq (δ (l8,[(η 5),(ak v2 1)],iN.2)) ((Ω 4 dR).bind λdw=>(θ dw ι (p9 2 2 dR) aq).bind λcU=>(θ dw ι (δ (l7 [(η 0),(η 0)])) aq).bind λcE=>(θ dw ι (Lu (.s [0,0]) cU cE) aq).bind λcK=>(ir dw cK aC).bind λbK=>(θ bK ε (Ω 2 dR) aq).bind λbV=>(θ bK ε (Lu .i bV (η 0)) aq).bind λcQ=>(θ bK ε (δ cQ) aq).bind λdM=>(θ dM ι (Ω 3 dR) aq).bind λdQ=>(θ dM ι (Lu .i dQ (η 0)) aq).bind λdS=>(θ bK ε (ir dM dS aC) aq).bind λcZ=>(ir bK bH cZ).bind λfH=>Γ fH (δ (l8,[(η 3),(ak v2 1)],iN.2)) ((Ω 2 dR).bind λeU=>(jd [eU,(η 0),(η 65535)] iN.2).bind λCe=>(Zo Ce.1).bind λgS=>(θ gS ε (Ω 3 dR) aq).bind λgF=>(θ gS ε (Zf (jd [gF,(η 0),(η 999)] Ce.2) Ce.2) aq).bind λeL=>(θ gS ε (Zo eL) aq).bind λeM=>(ir gS bH eM).bind λcI=>Γ cI (δ (l8,[(η 1),(ak v2 1)],Ce.2)) ((Ω 5 dR).bind λgB=>(Zo gB).bind λdU=>(θ dU ι (Ω 6 dR) aq).bind λfM=>(θ dU ι (Lu .i fM (η 0)) aq).bind λey=>(θ dU ι (δ ey) aq).bind λfk=>(θ fk ε (Ω 7 dR) aq).bind λfu=>(θ fk ε (Lu .i fu (η 0)) aq).bind λia=>(θ dU ι (ir fk bH ia) aq).bind λgr=>(ir dU gr aC).bind λgu=>Γ gu (δ (l8,[(η 3),(ak v2 1)],Ce.2)) ((Ω 6 dR).bind λfX=>(wN [fX] Ce.2).bind λnH=>(Zo nH.1).bind λiZ=>(θ iZ ε (Ω 7 dR) aq).bind λlT=>(θ iZ ε (Zf (wN [lT] nH.2) nH.2) aq).bind λjv=>(θ iZ ε (Zo jv) aq).bind λjx=>(ir iZ bH jx).bind λjc=>Γ jc (δ (l8,[(η 1),(ak v2 1)],nH.2)) ((ZR (ak v2 1) (η 0)).bind λgy=>(θ gy ι (δ a0) aq).bind λjU=>(θ gy ι (δ (ak v2 1)) aq).bind λkN=>(θ gy ι (Uw kN (η 1)) aq).bind λkC=>(θ gy ι (Zv 8 jU kC) aq).bind λjy=>(θ gy ι (YK 0 jy) aq).bind λjz=>(θ gy ι ((Ψ jz nH.2).bind λzG=>p9 0 2 zG) aq).bind λnM=>(θ gy ι (p9 0 2 dR) aq).bind λmH=>(θ gy ι (Zf (KQ [nM,mH] nH.2) nH.2) aq).bind λsO=>(θ gy ι (A.geq sO (η 0)) aq).bind λmI=>(ir gy mI aC).bind λjV=>Γ jV (δ (l8,[(η 7),(ak v2 1)],nH.2)) ((u9 (ak v2 1) (η 1)).bind λwv=>δ (y9,[(ak v2 0),wv],nH.2))))))))) (δ (i6 0,[(ak v2 0),(ak v2 1)],s3))) [(η 0),(η 0)] σ).bind λqU=>bif qU.1==i6 0 then(Θ σ (η 0) qU.2.2)else bif qU.1==l8 then(Θ σ (ak qU.2.1 0) qU.2.2)else μ
def Ks:ay->Heap->aL:=l9 ι [(.s 8)] .k (Tu Kw)
def L6 (a0:U) (σ:Heap):aL:=(ZJ a0).bind λx1=>(ZR x1 (η 300)).bind λx2=>Γ x2 (Θ σ (η 2) σ) ((ZJ a0).bind λx3=>(Zp (λv4 s5=>(ZS (ak v4 2) x3).bind λx7=>Γ x7 ((Zv 11 a0 (ak v4 2)).bind λx8=>((Ψ x8 s5).bind λc9=>p9 0 11 c9).bind λbO=>(Φ 11 bO).bind λmC=>(n4 0 mC [(η 0),aV,(η 0),(η 0),(η 0),(η 0),(η 0),IM,aC,(η 0),IM]).bind λeu=>(Ω 0 eu).bind λbU=>(jd [bU,(η 1),(η 9999999)] s5).bind λeJ=>(Zo eJ.1).bind λct=>Γ ct (δ (l8,[(η 1),(ak v4 1),(ak v4 2)],eJ.2)) ((ZR (ak v4 2) (η 0)).bind λcq=>(θ cq ι (Ω 0 eu) aq).bind λdw=>(θ cq ι (δ a0) aq).bind λcU=>(θ cq ι (δ (ak v4 2)) aq).bind λcE=>(θ cq ι (Uw cE (η 1)) aq).bind λcK=>(θ cq ι (Zv 11 cU cK) aq).bind λbK=>(θ cq ι (YK 0 bK) aq).bind λbV=>(θ cq ι ((Ψ bV eJ.2).bind λlM=>Ω 0 lM) aq).bind λdM=>(θ cq ι (A.leq dw dM) aq).bind λdQ=>(ir cq dQ aC).bind λdS=>Γ dS (δ (l8,[(η 7),(ak v4 1),(ak v4 2)],eJ.2)) ((Ω 1 eu).bind λcZ=>(Lu .z cZ aV).bind λfH=>(θ fH ι (Ω 1 eu) aq).bind λeU=>(θ fH ι (Zf (GI [eU] eJ.2) eJ.2) aq).bind λeD=>(θ fH ι (Zo eD) aq).bind λgS=>(ir fH gS aC).bind λgF=>Γ gF (δ (l8,[(η 3),(ak v4 1),(ak v4 2)],eJ.2)) ((Ω 2 eu).bind λeL=>(wN [eL] eJ.2).bind λdP=>(Zo dP.1).bind λcI=>(θ cI ε (Ω 3 eu) aq).bind λgB=>(θ cI ε (Zf (wN [gB] dP.2) dP.2) aq).bind λdU=>(θ cI ε (Zo dU) aq).bind λfM=>(ir cI bH fM).bind λey=>(θ ey ε (Ω 4 eu) aq).bind λfk=>(θ ey ε (Zf (wN [fk] dP.2) dP.2) aq).bind λfu=>(θ ey ε (Zo fu) aq).bind λia=>(ir ey bH ia).bind λgr=>(θ gr ε (Ω 5 eu) aq).bind λgu=>(θ gr ε (Zf (wN [gu] dP.2) dP.2) aq).bind λfX=>(θ gr ε (Zo fX) aq).bind λgC=>(ir gr bH gC).bind λiZ=>(θ iZ ε (Ω 9 eu) aq).bind λlT=>(θ iZ ε (Zf (jd [lT,(η (-1)),(η 36000000)] dP.2) dP.2) aq).bind λjv=>(θ iZ ε (Zo jv) aq).bind λjx=>(ir iZ bH jx).bind λjc=>Γ jc (δ (l8,[(η 1),(ak v4 1),(ak v4 2)],dP.2)) ((p9 6 2 eu).bind λgy=>(Ax [gy] dP.2).bind λFO=>(Lu .i FO.1 (η 0)).bind λkN=>Γ kN (δ (l8,[FO.1,(ak v4 1),(ak v4 2)],FO.2)) ((Ω 10 eu).bind λkC=>(ZJ kC).bind λjy=>(ZR jy (η 2000)).bind λjz=>Γ jz (δ (l8,[(η 2),(ak v4 1),(ak v4 2)],FO.2)) ((Ω 10 eu).bind λnL=>(Ks [nL] FO.2).bind λJE=>(Lu .i JE.1 (η 0)).bind λmH=>Γ mH (δ (l8,[JE.1,(ak v4 1),(ak v4 2)],JE.2)) ((Ω 10 eu).bind λsO=>(ZJ sO).bind λmI=>(u9 (ak v4 1) mI).bind λjV=>(u9 (ak v4 2) (η 1)).bind λwv=>δ (y9,[(ak v4 0),jV,wv],JE.2))))))))) (δ (i6 0,[(ak v4 0),(ak v4 1),(ak v4 2)],s5))) [(η 0),(η 0),(η 0)] σ).bind λqU=>bif qU.1==i6 0 then((ZR (ak qU.2.1 1) (η 10000)).bind λjA=>(AY [jA,(η 2)] qU.2.2).bind λY5=>Θ σ Y5.1 Y5.2)else bif qU.1==l8 then(Θ σ (ak qU.2.1 0) qU.2.2)else μ)
def LZ:ay->Heap->aL:=l9 ι [(.e 11 sj)] .k (Tu L6)
def KA (a0 a1 a2:U) (σ:Heap):aL:=(Φ 2 a0).bind λc1=>(p9 0 2 c1).bind λx2=>(Gk [x2,a1] σ).bind λr3=>(LZ [a2] r3.2).bind λr4=>((((n8 r3.1).bind λv=>δ [v]).bind λc5=>(n4 0 c5 [(η 0),(η 0)]).bind λc6=>((n8 r4.1).bind λv=>δ [v]).bind λc7=>(n4 1 c7 c6).bind λc8=>δ c8).bind λcs=>δ (U.sl 1 (iO 1 2 cs))).bind λx9=>(CB [x9] r4.2).bind λbG=>(Lu .i bG.1 (η 0)).bind λbB=>Γ bB (Θ σ bG.1 bG.2) ((p9 0 2 c1).bind λbP=>(Gx [bP] bG.2).bind λfW=>(j0 0 fW.1).bind λcr=>(j0 1 fW.1).bind λct=>(ZJ cr).bind λcq=>(Zp (λlR qW=>(ZS (ak lR 0) cq).bind λcK=>Γ cK ((Zv 2 cr (ak lR 0)).bind λbK=>((Ψ bK qW).bind λsw=>p9 0 2 sw).bind λcQ=>(Φ 2 cQ).bind λgp=>(n4 0 gp [(η 0),aV]).bind λiV=>(p9 0 2 iV).bind λdS=>(A.jk (.s [0,2]) (U.om fW.2.length) dS bH qW).bind λh27=>(u9 (ak lR 0) (η 1)).bind λfH=>δ (y9,[fH],h27)) (δ (i6 0,[(ak lR 0)],qW))) [(η 0)] (fW.2++[Z2 []])).bind λY4=>bif Y4.1==i6 0 then((ZJ a2).bind λeD=>(Zp (λv31 Q5=>(ZS (ak v31 1) eD).bind λeM=>Γ eM ((Zv 11 a2 (ak v31 1)).bind λcI=>((Ψ cI Q5).bind λoC=>p9 0 11 oC).bind λdU=>(Φ 11 dU).bind λzD=>(n4 0 zD [(η 0),aV,(η 0),(η 0),(η 0),(η 0),(η 0),IM,aC,(η 0),IM]).bind λP4=>(Ω 10 P4).bind λfk=>(ZJ fk).bind λfu=>(Zp (λyp FU=>(ZS (ak yp 1) fu).bind λfX=>Γ fX ((Zv 8 fk (ak yp 1)).bind λgC=>((Ψ gC FU).bind λsA=>p9 0 8 sA).bind λlT=>(Φ 8 lT).bind λE4=>(n4 0 E4 [(η 0),aV,(η 0),(η 0),aC,aC,(η 0),(η 0)]).bind λP6=>(p9 0 2 P6).bind λjc=>(Zl (.s [0,2]) (U.om fW.2.length) jc aC FU).bind λgy=>(Zo gy).bind λjU=>Γ jU (δ (l8,[(η 8),(ak yp 1)],FU)) ((p9 0 2 P6).bind λkN=>(p9 2 2 P6).bind λkC=>(K6 [a1,kN,kC] FU).bind λJD=>(j0 0 JD.1).bind λjz=>(j0 1 JD.1).bind λnL=>(Lu .i nL (η 0)).bind λnM=>Γ nM (δ (l8,[nL,(ak yp 1)],JD.2)) ((u9 (ak yp 1) (η 1)).bind λmH=>δ (y9,[(ak yp 0),mH],JD.2)))) (δ (i6 4,[(ak yp 0),(ak yp 1)],FU))) [(ak v31 0),(η 0)] Q5).bind λmE=>bif mE.1==i6 4 then((u9 (ak v31 1) (η 1)).bind λmI=>δ (y9,[(ak mE.2.1 0),mI],mE.2.2))else bif mE.1==l8 then(δ (l8,[(ak mE.2.1 0),(ak v31 1)],mE.2.2))else μ) (δ (i6 2,[(ak v31 0),(ak v31 1)],Q5))) [(η 0),(η 0)] Y4.2.2).bind λwo=>bif wo.1==i6 2 then(Θ σ (η 0) wo.2.2)else bif wo.1==l8 then(Θ σ (ak wo.2.1 0) wo.2.2)else μ)else μ)
def AD:ay->Heap->aL:=l9 ι [(.a [(.e 3 vE),(.s 4)]),(.e 3 [.k,.k,(.s 3)]),(.e 11 sj)] .k (A.nA KA)
def Kx (a0:U) (σ:Heap):aL:=(A.quo a0 (η 1000)).bind λx1=>(nQ [x1] σ).bind λr2=>(A.rem a0 (η 1000)).bind λx3=>(ZR x3 (η 0)).bind λx4=>(Γ x4 ((A.rem a0 (η 1000)).bind λx6=>(u9 (η 1000) x6).bind λx7=>(nQ [x7] r2.2).bind λr8=>(A.oN r8.1 (δ (η 1)) μ).bind λx9=>(Av [x9,(ψ ⟨#[48]⟩)] r8.2).bind λbG=>(u9 (ψ ⟨#[46]⟩) bG.1).bind λbB=>(u9 r2.1 bB).bind λbP=>δ ([bP],bG.2)) (δ ([r2.1],r2.2))).bind λr5=>Θ σ (ak r5.1 0) r5.2
def Kt:ay->Heap->aL:=l9 ι [] .k (Tu Kx)
def KJ (a0:U) (σ:Heap):aL:=(Ku [a0] σ).bind λr1=>(j0 0 r1.1).bind λx2=>(j0 1 r1.1).bind λx3=>Θ σ x2 r1.2
def AG:ay->Heap->aL:=l9 ι [] .k (Tu KJ)
def KV (a0:U) (σ:Heap):aL:=(Φ 11 a0).bind λc1=>(Ω 0 c1).bind λx2=>(Kt [x2] σ).bind λr3=>(u9 (ψ ⟨#[99,117,101,32]⟩) r3.1).bind λx4=>(Ω 2 c1).bind λx5=>(Ω 3 c1).bind λx6=>(Ω 4 c1).bind λx7=>(Ω 5 c1).bind λx8=>((((n8 x5).bind λv=>δ [v]).bind λc9=>(n4 0 c9 [(η 0),(η 0),(η 0),(η 0)]).bind λdR=>((n8 x6).bind λv=>δ [v]).bind λmC=>(n4 1 mC dR).bind λeu=>((n8 x7).bind λv=>δ [v]).bind λqh=>(n4 2 qh eu).bind λoA=>((n8 x8).bind λv=>δ [v]).bind λiU=>(n4 3 iU oA).bind λjm=>δ jm).bind λcs=>δ (U.sl 1 (iO 1 4 cs))).bind λdw=>((((n8 (ψ ⟨#[32,100,101,108,97,121,32]⟩)).bind λv=>δ [v]).bind λjo=>(n4 0 jo [aV,aV,aV,aV]).bind λvF=>((n8 (ψ ⟨#[32,117,112,32]⟩)).bind λv=>δ [v]).bind λzx=>(n4 1 zx vF).bind λsu=>((n8 (ψ ⟨#[32,100,111,119,110,32]⟩)).bind λv=>δ [v]).bind λsw=>(n4 2 sw su).bind λlM=>((n8 (ψ ⟨#[32,111,116,104,101,114,32]⟩)).bind λv=>δ [v]).bind λgp=>(n4 3 gp lM).bind λiV=>δ iV).bind λcs=>δ (U.sl 1 (iO 1 4 cs))).bind λdS=>(ZJ dS).bind λcZ=>(Zp (λv28 Cg=>(ZS (ak v28 2) cZ).bind λgS=>Γ gS ((Zv 1 dS (ak v28 2)).bind λgF=>((Ψ gF Cg).bind λzC=>Ω 0 zC).bind λeM=>(Zv 1 dw (ak v28 2)).bind λcI=>((Ψ cI Cg).bind λoC=>Ω 0 oC).bind λdU=>(ZR dU (η 0)).bind λfM=>(Γ fM ((Zv 1 dw (ak v28 2)).bind λfk=>((Ψ fk Cg).bind λsy=>Ω 0 sy).bind λia=>(AG [ia] Cg).bind λjT=>(u9 eM jT.1).bind λgu=>(u9 (ak v28 1) gu).bind λfX=>δ ([(ak v28 0),fX],jT.2)) (δ ([(ak v28 0),(ak v28 1)],Cg))).bind λqT=>(u9 (ak v28 2) (η 1)).bind λgC=>δ (y9,[(ak qT.1 0),(ak qT.1 1),gC],qT.2)) (δ (i6 0,[(ak v28 0),(ak v28 1),(ak v28 2)],Cg))) [(Z3 c1),x4,(η 0)] r3.2).bind λiI=>bif iI.1==i6 0 then(((Zm (ak iI.2.1 0)).bind λ_=>δ (8)).bind λp48=>((Zm (ak iI.2.1 0)).bind λE4=>Ω p48 E4).bind λjx=>(Γ jx ((u9 (ak iI.2.1 1) (ψ ⟨#[32,98,108,111,99,107]⟩)).bind λgy=>δ ([(ak iI.2.1 0),gy],iI.2.2)) (δ ([(ak iI.2.1 0),(ak iI.2.1 1)],iI.2.2))).bind λuv=>((Zm (ak uv.1 0)).bind λ_=>δ (9)).bind λp53=>((Zm (ak uv.1 0)).bind λE5=>Ω p53 E5).bind λkC=>(A.geq kC (η 0)).bind λjy=>(Γ jy (((Zm (ak uv.1 0)).bind λ_=>δ (9)).bind λp58=>((Zm (ak uv.1 0)).bind λvL=>Ω p58 vL).bind λmH=>(AG [mH] uv.2).bind λmE=>(u9 (ψ ⟨#[32,102,111,108,108,111,119,32]⟩) mE.1).bind λmI=>(u9 (ak uv.1 1) mI).bind λjV=>δ ([(ak uv.1 0),jV],mE.2)) (δ ([(ak uv.1 0),(ak uv.1 1)],uv.2))).bind λpg=>((Zm (ak pg.1 0)).bind λ_=>δ (6)).bind λQT=>((Zm (ak pg.1 0)).bind λ_=>δ (QT)).bind λp65=>((Zm (ak pg.1 0)).bind λQa=>Ω p65 Qa).bind λwz=>(Lu .i wz (η 1)).bind λsQ=>(Γ sQ (((Zm (ak pg.1 0)).bind λ_=>δ (6)).bind λp70=>((Zm (ak pg.1 0)).bind λvN=>p9 p70 2 vN).bind λAi=>(Kn [Ai] pg.2).bind λQX=>(j0 0 QX.1).bind λwA=>(j0 1 QX.1).bind λpI=>(u9 (ψ ⟨#[32,99,117,114,118,101,32]⟩) wA).bind λnN=>(u9 (ak pg.1 1) nN).bind λwB=>δ ([(ak pg.1 0),wB],QX.2)) (δ ([(ak pg.1 0),(ak pg.1 1)],pg.2))).bind λpq=>((Zm (ak pq.1 0)).bind λ_=>δ (1)).bind λp78=>((Zm (ak pq.1 0)).bind λQd=>Ω p78 Qd).bind λqA=>(Lu .z qA aV).bind λwC=>(Γ wC (((Zm (ak pq.1 0)).bind λ_=>δ (1)).bind λp83=>((Zm (ak pq.1 0)).bind λQe=>Ω p83 Qe).bind λmJ=>(u9 (ψ ⟨#[32,34]⟩) mJ).bind λwD=>(u9 wD (ψ ⟨#[34]⟩)).bind λAk=>(u9 (ak pq.1 1) Ak).bind λx88=>δ ([x88],pq.2)) (δ ([(ak pq.1 1)],pq.2))).bind λY7=>(u9 (ak Y7.1 0) (ψ ⟨#[10]⟩)).bind λAl=>Θ σ Al Y7.2)else μ
def KR:ay->Heap->aL:=l9 ι [(.a sj)] .k (Tu KV)
def KH (a0:U) (σ:Heap):aL:=(Φ 8 a0).bind λc1=>(Ω 0 c1).bind λx2=>(Zf (nQ [x2] σ) σ).bind λx3=>(u9 (ψ ⟨#[32,32]⟩) x3).bind λx4=>(u9 x4 (ψ ⟨#[46]⟩)).bind λx5=>(Ω 1 c1).bind λx6=>(u9 x5 x6).bind λx7=>(u9 x7 (ψ ⟨#[32]⟩)).bind λx8=>(Ω 4 c1).bind λx9=>(Γ x9 ((u9 x8 (ψ ⟨#[114,101,108,101,97,115,101]⟩)).bind λbB=>δ ([(Z3 c1),bB],σ)) ((Ω 3 c1).bind λbP=>(ZR bP (η 0)).bind λbU=>(Γ bU ((Ω 3 c1).bind λct=>(nQ [ct] σ).bind λuu=>(u9 (ψ ⟨#[112,114,101,115,101,116,32]⟩) uu.1).bind λdw=>(u9 x8 dw).bind λcU=>δ ([(Z3 c1),cU],uu.2)) ((Ω 2 c1).bind λcE=>(K5 [cE] σ).bind λcY=>(j0 0 cY.1).bind λbK=>(j0 1 cY.1).bind λbV=>(u9 x8 bK).bind λcQ=>δ ([(Z3 c1),cQ],cY.2))).bind λeJ=>δ ([(ak eJ.1 0),(ak eJ.1 1)],eJ.2))).bind λbG=>((Zm (ak bG.1 0)).bind λ_=>δ (5)).bind λFN=>((Zm (ak bG.1 0)).bind λiV=>Ω FN iV).bind λdS=>(Γ dS (((Zm (ak bG.1 0)).bind λ_=>δ (7)).bind λp28=>((Zm (ak bG.1 0)).bind λzz=>Ω p28 zz).bind λeD=>(AG [eD] bG.2).bind λqt=>(u9 (ψ ⟨#[32,105,110,32]⟩) qt.1).bind λgF=>(u9 (ak bG.1 1) gF).bind λeL=>((Zm (ak bG.1 0)).bind λ_=>δ (6)).bind λQS=>((Zm (ak bG.1 0)).bind λoB=>Ω QS oB).bind λgB=>(ZR gB (η 0)).bind λdU=>(Γ dU (((Zm (ak bG.1 0)).bind λ_=>δ (6)).bind λp39=>((Zm (ak bG.1 0)).bind λB2=>Ω p39 B2).bind λfu=>(AG [fu] qt.2).bind λCf=>(u9 (ψ ⟨#[32,97,102,116,101,114,32]⟩) Cf.1).bind λgr=>(u9 eL gr).bind λgu=>δ ([gu],Cf.2)) (δ ([eL],qt.2))).bind λiH=>δ ([(ak iH.1 0)],iH.2)) (δ ([(ak bG.1 1)],bG.2))).bind λnG=>(u9 (ak nG.1 0) (ψ ⟨#[10]⟩)).bind λfX=>Θ σ fX nG.2
def KE:ay->Heap->aL:=l9 ι [] .k (Tu KH)
def KI (a0:U) (σ:Heap):aL:=(sU [a0,(ψ ⟨#[32]⟩)] σ).bind λr1=>(Zv 1 r1.1 (η 0)).bind λx2=>((Ψ x2 r1.2).bind λc3=>Ω 0 c3).bind λx4=>(qB [x4,(ψ ⟨#[46]⟩)] r1.2).bind λr5=>(j0 0 r5.1).bind λx6=>(j0 1 r5.1).bind λx7=>(j0 2 r5.1).bind λx8=>(wL [x6] r5.2).bind λr9=>(j0 0 r9.1).bind λbO=>(j0 1 r9.1).bind λbB=>(Zo x8).bind λbP=>(θ bP ε (δ bB) aq).bind λbU=>(θ bP ε (Zo bU) aq).bind λcr=>(ir bP bH cr).bind λct=>(θ ct ε (δ x7) aq).bind λcq=>(θ ct ε (Zf (CK [cq] r9.2) r9.2) aq).bind λdw=>(θ ct ε (Zo dw) aq).bind λcU=>(ir ct bH cU).bind λcE=>(θ cE ε (δ r1.1) aq).bind λcK=>(θ cE ε (ZJ cK) aq).bind λbK=>(θ cE ε (ZS bK (η 2)) aq).bind λbV=>(ir cE bH bV).bind λcQ=>Γ cQ ((Φ 8 (l7 [(η 0),aV,(η 0),(η 0),aC,aC,(η 0),(η 0)])).bind λgp=>(n4 0 gp [(η 0),aV,(η 0),(η 0),aC,aC,(η 0),(η 0)]).bind λiV=>(p9 0 8 iV).bind λdS=>Θ σ (l6 [dS,aC]) r9.2) (((((n8 bO).bind λv=>δ [v]).bind λvG=>(n4 0 vG [(η 0),aV]).bind λzy=>((n8 x7).bind λv=>δ [v]).bind λzz=>(n4 1 zz zy).bind λzA=>δ zA).bind λcs=>δ (l7 cs)).bind λgS=>(((Φ 2 gS).bind λE1=>(n4 0 E1 [(η 0),aV,(η 0),(η 0),aC,aC,(η 0),(η 0)]).bind λzC=>δ zC).bind λcs=>δ (l7 cs)).bind λeM=>(Φ 8 eM).bind λoB=>(n4 0 oB [(η 0),aV,(η 0),(η 0),aC,aC,(η 0),(η 0)]).bind λoC=>(Zv 1 r1.1 (η 1)).bind λdU=>((Ψ dU r9.2).bind λzD=>Ω 0 zD).bind λey=>(p4 .z ey (ψ ⟨#[114,101,108,101,97,115,101]⟩)).bind λfk=>Γ fk (((n8 bH).bind λv=>δ [v]).bind λsy=>(n4 4 sy oC).bind λqM=>(A.gV 1 r1.1 (δ (η 2)) μ r9.2).bind λgr=>(ZJ gr).bind λgu=>(p4 .i gu (η 0)).bind λfX=>Γ fX ((p9 0 8 qM).bind λgC=>(Φ 8 gC).bind λsA=>(n4 0 sA [(η 0),aV,(η 0),(η 0),aC,aC,(η 0),(η 0)]).bind λvK=>(p9 0 8 vK).bind λjv=>Θ σ (l6 [jv,bH]) r9.2) ((Zv 1 gr (η 0)).bind λjx=>((Ψ jx r9.2).bind λzE=>Ω 0 zE).bind λgy=>(Lu .z gy (ψ ⟨#[105,110]⟩)).bind λjU=>(θ jU ε (δ gr) aq).bind λkN=>(θ jU ε (ZJ kN) aq).bind λkC=>(θ jU ε (Lu .i kC (η 2)) aq).bind λjy=>(θ jU ε (δ jy) aq).bind λjz=>(θ jz ι (δ gr) aq).bind λnL=>(θ jz ι (ZJ nL) aq).bind λnM=>(θ jz ι (Lu .i nM (η 4)) aq).bind λmH=>(θ jU ε (ir jz mH aC) aq).bind λsO=>(ir jU bH sO).bind λmI=>Γ mI ((Φ 8 (l7 [(η 0),aV,(η 0),(η 0),aC,aC,(η 0),(η 0)])).bind λzJ=>(n4 0 zJ [(η 0),aV,(η 0),(η 0),aC,aC,(η 0),(η 0)]).bind λvM=>(p9 0 8 vM).bind λsP=>Θ σ (l6 [sP,aC]) r9.2) ((Zv 1 gr (η 1)).bind λjA=>((Ψ jA r9.2).bind λzK=>Ω 0 zK).bind λsQ=>(nO [sQ] r9.2).bind λpq=>(j0 0 pq.1).bind λF4=>(j0 1 pq.1).bind λCk=>((n8 bH).bind λv=>δ [v]).bind λE9=>(n4 5 E9 qM).bind λzN=>((n8 F4).bind λv=>δ [v]).bind λFa=>(n4 7 Fa zN).bind λYn=>(p4 .i Ck (η 0)).bind λnN=>(θ nN ι (δ gr) aq).bind λwB=>(θ nN ι (ZJ wB) aq).bind λRc=>(θ nN ι (p4 .i Rc (η 4)) aq).bind λF5=>(ir nN F5 aC).bind λqA=>Γ qA ((Zv 1 gr (η 3)).bind λwC=>((Ψ wC pq.2).bind λFb=>Ω 0 Fb).bind λF6=>(nO [F6] pq.2).bind λFT=>(j0 0 FT.1).bind λmJ=>(j0 1 FT.1).bind λwD=>((n8 mJ).bind λv=>δ [v]).bind λc87=>(n4 6 c87 Yn).bind λxV=>(Zv 1 gr (η 2)).bind λAl=>((Ψ Al FT.2).bind λc90=>Ω 0 c90).bind λF7=>(Lu .z F7 (ψ ⟨#[97,102,116,101,114]⟩)).bind λAm=>(θ Am ε (Ω 6 xV) aq).bind λF8=>(θ Am ε (p4 .i F8 (η 0)) aq).bind λF9=>(ir Am bH F9).bind λx95=>Γ x95 ((Φ 8 (l7 [(η 0),aV,(η 0),(η 0),aC,aC,(η 0),(η 0)])).bind λc96=>(n4 0 c96 [(η 0),aV,(η 0),(η 0),aC,aC,(η 0),(η 0)]).bind λc97=>(p9 0 8 c97).bind λAn=>Θ σ (l6 [An,aC]) FT.2) ((p9 0 8 xV).bind λGa=>(p4 .i wD (η 0)).bind λvD=>(Φ 8 Ga).bind λahq=>(n4 0 ahq [(η 0),aV,(η 0),(η 0),aC,aC,(η 0),(η 0)]).bind λahr=>(p9 0 8 ahr).bind λBV=>Θ σ (l6 [BV,vD]) FT.2)) ((p9 0 8 Yn).bind λX8=>(p4 .i Ck (η 0)).bind λX9=>(Φ 8 X8).bind λDy=>(n4 0 Dy [(η 0),aV,(η 0),(η 0),aC,aC,(η 0),(η 0)]).bind λahs=>(p9 0 8 ahs).bind λYa=>Θ σ (l6 [Ya,X9]) pq.2)))) ((Zv 1 r1.1 (η 1)).bind λEi=>((Ψ Ei r9.2).bind λaht=>Ω 0 aht).bind λajL=>(p4 .z ajL (ψ ⟨#[112,114,101,115,101,116]⟩)).bind λJb=>(θ Jb ι (δ r1.1) aq).bind λEj=>(θ Jb ι (ZJ Ej) aq).bind λEk=>(θ Jb ι (ZR Ek (η 2)) aq).bind λajM=>(ir Jb ajM aC).bind λEl=>Γ El ((Zv 1 r1.1 (η 2)).bind λpZ=>((Ψ pZ r9.2).bind λahu=>Ω 0 ahu).bind λEm=>(wL [Em] r9.2).bind λvq=>(j0 0 vq.1).bind λBW=>(j0 1 vq.1).bind λEn=>(Zo En).bind λzn=>(θ zn ε (δ BW) aq).bind λajN=>(θ zn ε (p4 .i ajN (η 0)) aq).bind λEo=>(ir zn bH Eo).bind λajO=>Γ ajO ((Φ 8 (l7 [(η 0),aV,(η 0),(η 0),aC,aC,(η 0),(η 0)])).bind λyZ=>(n4 0 yZ [(η 0),aV,(η 0),(η 0),aC,aC,(η 0),(η 0)]).bind λahv=>(p9 0 8 ahv).bind λEp=>Θ σ (l6 [Ep,aC]) vq.2) (((n8 BW).bind λv=>δ [v]).bind λahw=>(n4 3 ahw oC).bind λXf=>(A.gV 1 r1.1 (δ (η 3)) μ vq.2).bind λqL=>(ZJ qL).bind λajP=>(p4 .i ajP (η 0)).bind λEr=>Γ Er ((p9 0 8 Xf).bind λEs=>(Φ 8 Es).bind λahx=>(n4 0 ahx [(η 0),aV,(η 0),(η 0),aC,aC,(η 0),(η 0)]).bind λahy=>(p9 0 8 ahy).bind λajQ=>Θ σ (l6 [ajQ,bH]) vq.2) ((Zv 1 qL (η 0)).bind λEt=>((Ψ Et vq.2).bind λahz=>Ω 0 ahz).bind λEu=>(Lu .z Eu (ψ ⟨#[105,110]⟩)).bind λue=>(θ ue ε (δ qL) aq).bind λEv=>(θ ue ε (ZJ Ev) aq).bind λajR=>(θ ue ε (Lu .i ajR (η 2)) aq).bind λajS=>(θ ue ε (δ ajS) aq).bind λJc=>(θ Jc ι (δ qL) aq).bind λEw=>(θ Jc ι (ZJ Ew) aq).bind λEx=>(θ Jc ι (Lu .i Ex (η 4)) aq).bind λajT=>(θ ue ε (ir Jc ajT aC) aq).bind λajU=>(ir ue bH ajU).bind λxS=>Γ xS ((Φ 8 (l7 [(η 0),aV,(η 0),(η 0),aC,aC,(η 0),(η 0)])).bind λahA=>(n4 0 ahA [(η 0),aV,(η 0),(η 0),aC,aC,(η 0),(η 0)]).bind λahB=>(p9 0 8 ahB).bind λPf=>Θ σ (l6 [Pf,aC]) vq.2) ((Zv 1 qL (η 1)).bind λPg=>((Ψ Pg vq.2).bind λOh=>Ω 0 Oh).bind λPh=>(nO [Ph] vq.2).bind λEa=>(j0 0 Ea.1).bind λPj=>(j0 1 Ea.1).bind λJd=>((n8 bH).bind λv=>δ [v]).bind λahC=>(n4 5 ahC Xf).bind λahD=>((n8 Pj).bind λv=>δ [v]).bind λahE=>(n4 7 ahE ahD).bind λXg=>(p4 .i Jd (η 0)).bind λJe=>(θ Je ι (δ qL) aq).bind λajZ=>(θ Je ι (ZJ ajZ) aq).bind λEz=>(θ Je ι (p4 .i Ez (η 4)) aq).bind λPk=>(ir Je Pk aC).bind λPm=>Γ Pm ((Zv 1 qL (η 3)).bind λPn=>((Ψ Pn Ea.2).bind λOi=>Ω 0 Oi).bind λaj0=>(nO [aj0] Ea.2).bind λEb=>(j0 0 Eb.1).bind λPo=>(j0 1 Eb.1).bind λPp=>((n8 Po).bind λv=>δ [v]).bind λahI=>(n4 6 ahI Xg).bind λIS=>(Zv 1 qL (η 2)).bind λaj2=>((Ψ aj2 Eb.2).bind λOj=>Ω 0 Oj).bind λPq=>(Lu .z Pq (ψ ⟨#[97,102,116,101,114]⟩)).bind λEA=>(θ EA ε (Ω 6 IS) aq).bind λPr=>(θ EA ε (p4 .i Pr (η 0)) aq).bind λaj3=>(ir EA bH aj3).bind λaj4=>Γ aj4 ((Φ 8 (l7 [(η 0),aV,(η 0),(η 0),aC,aC,(η 0),(η 0)])).bind λOl=>(n4 0 Ol [(η 0),aV,(η 0),(η 0),aC,aC,(η 0),(η 0)]).bind λahL=>(p9 0 8 ahL).bind λaj6=>Θ σ (l6 [aj6,aC]) Eb.2) ((p9 0 8 IS).bind λPt=>(p4 .i Pp (η 0)).bind λPu=>(Φ 8 Pt).bind λahN=>(n4 0 ahN [(η 0),aV,(η 0),(η 0),aC,aC,(η 0),(η 0)]).bind λOm=>(p9 0 8 Om).bind λaj8=>Θ σ (l6 [aj8,Pu]) Eb.2)) ((p9 0 8 Xg).bind λaj9=>(p4 .i Jd (η 0)).bind λPv=>(Φ 8 aj9).bind λahQ=>(n4 0 ahQ [(η 0),aV,(η 0),(η 0),aC,aC,(η 0),(η 0)]).bind λahR=>(p9 0 8 ahR).bind λEB=>Θ σ (l6 [EB,Pv]) Ea.2))))) ((Zv 1 r1.1 (η 1)).bind λEC=>((Ψ EC r9.2).bind λDA=>Ω 0 DA).bind λED=>(K4 [ED] r9.2).bind λvu=>(j0 0 vu.1).bind λEE=>(j0 1 vu.1).bind λEF=>(Lu .i EF (η 0)).bind λaka=>Γ aka ((Φ 8 (l7 [(η 0),aV,(η 0),(η 0),aC,aC,(η 0),(η 0)])).bind λahS=>(n4 0 ahS [(η 0),aV,(η 0),(η 0),aC,aC,(η 0),(η 0)]).bind λahT=>(p9 0 8 ahT).bind λEG=>Θ σ (l6 [EG,aC]) vu.2) (((n8 EE).bind λv=>δ [v]).bind λDB=>(n4 2 DB oC).bind λxE=>(A.gV 1 r1.1 (δ (η 2)) μ vu.2).bind λnw=>(ZJ nw).bind λEH=>(p4 .i EH (η 0)).bind λEI=>Γ EI ((p9 0 8 xE).bind λEJ=>(Φ 8 EJ).bind λDC=>(n4 0 DC [(η 0),aV,(η 0),(η 0),aC,aC,(η 0),(η 0)]).bind λDD=>(p9 0 8 DD).bind λakb=>Θ σ (l6 [akb,bH]) vu.2) ((Zv 1 nw (η 0)).bind λEL=>((Ψ EL vu.2).bind λahU=>Ω 0 ahU).bind λEM=>(Lu .z EM (ψ ⟨#[105,110]⟩)).bind λBX=>(θ BX ε (δ nw) aq).bind λakc=>(θ BX ε (ZJ akc) aq).bind λakd=>(θ BX ε (Lu .i akd (η 2)) aq).bind λEN=>(θ BX ε (δ EN) aq).bind λxT=>(θ xT ι (δ nw) aq).bind λEO=>(θ xT ι (ZJ EO) aq).bind λake=>(θ xT ι (Lu .i ake (η 4)) aq).bind λakf=>(θ BX ε (ir xT akf aC) aq).bind λakg=>(ir BX bH akg).bind λEP=>Γ EP ((Φ 8 (l7 [(η 0),aV,(η 0),(η 0),aC,aC,(η 0),(η 0)])).bind λDF=>(n4 0 DF [(η 0),aV,(η 0),(η 0),aC,aC,(η 0),(η 0)]).bind λahV=>(p9 0 8 ahV).bind λER=>Θ σ (l6 [ER,aC]) vu.2) ((Zv 1 nw (η 1)).bind λES=>((Ψ ES vu.2).bind λDG=>Ω 0 DG).bind λakh=>(nO [akh] vu.2).bind λEd=>(j0 0 Ed.1).bind λET=>(j0 1 Ed.1).bind λBY=>((n8 bH).bind λv=>δ [v]).bind λDH=>(n4 5 DH xE).bind λahW=>((n8 ET).bind λv=>δ [v]).bind λahX=>(n4 7 ahX ahW).bind λXj=>(p4 .i BY (η 0)).bind λBZ=>(θ BZ ι (δ nw) aq).bind λPB=>(θ BZ ι (ZJ PB) aq).bind λakj=>(θ BZ ι (p4 .i akj (η 4)) aq).bind λPC=>(ir BZ PC aC).bind λPD=>Γ PD ((Zv 1 nw (η 3)).bind λPE=>((Ψ PE Ed.2).bind λOy=>Ω 0 Oy).bind λakk=>(nO [akk] Ed.2).bind λEe=>(j0 0 Ee.1).bind λPF=>(j0 1 Ee.1).bind λakm=>((n8 PF).bind λv=>δ [v]).bind λah1=>(n4 6 ah1 Xj).bind λXk=>(Zv 1 nw (η 2)).bind λPG=>((Ψ PG Ee.2).bind λah2=>Ω 0 ah2).bind λPI=>(Lu .z PI (ψ ⟨#[97,102,116,101,114]⟩)).bind λPJ=>(θ PJ ε (Ω 6 Xk) aq).bind λakp=>(θ PJ ε (p4 .i akp (η 0)) aq).bind λPK=>(ir PJ bH PK).bind λPL=>Γ PL ((Φ 8 (l7 [(η 0),aV,(η 0),(η 0),aC,aC,(η 0),(η 0)])).bind λOz=>(n4 0 Oz [(η 0),aV,(η 0),(η 0),aC,aC,(η 0),(η 0)]).bind λIT=>(p9 0 8 IT).bind λPM=>Θ σ (l6 [PM,aC]) Ee.2) ((p9 0 8 Xk).bind λPN=>(p4 .i akm (η 0)).bind λPO=>(Φ 8 PN).bind λah5=>(n4 0 ah5 [(η 0),aV,(η 0),(η 0),aC,aC,(η 0),(η 0)]).bind λah6=>(p9 0 8 ah6).bind λaks=>Θ σ (l6 [aks,PO]) Ee.2)) ((p9 0 8 Xj).bind λakt=>(p4 .i BY (η 0)).bind λaku=>(Φ 8 akt).bind λOA=>(n4 0 OA [(η 0),aV,(η 0),(η 0),aC,aC,(η 0),(η 0)]).bind λOB=>(p9 0 8 OB).bind λakv=>Θ σ (l6 [akv,aku]) Ed.2)))))))
def KF:ay->Heap->aL:=l9 ι [] .k (Tu KI)
def Kv (a0:U) (σ:Heap):aL:=(qB [a0,(ψ ⟨#[46]⟩)] σ).bind λr1=>(j0 0 r1.1).bind λx2=>(j0 1 r1.1).bind λx3=>(j0 2 r1.1).bind λx4=>(AF [x2,(η 7)] r1.2).bind λr5=>(j0 0 r5.1).bind λx6=>(j0 1 r5.1).bind λx7=>(Zo x7).bind λx8=>(θ x8 ε (δ x4) aq).bind λx9=>(θ x8 ε (δ x9) aq).bind λbO=>(θ bO ι (δ x3) aq).bind λbB=>(θ bO ι (Zf (AK [bB] r5.2) r5.2) aq).bind λbP=>(θ bO ι (Zo bP) aq).bind λbU=>(θ bO ι (δ bU) aq).bind λcr=>(θ cr ε (δ x3) aq).bind λct=>(θ cr ε (A.gX ct) aq).bind λcq=>(θ cr ε (ZR cq (η 3)) aq).bind λdw=>(θ bO ι (ir cr bH dw) aq).bind λcU=>(θ bO ι (δ cU) aq).bind λcE=>(θ cE ε (δ x3) aq).bind λcK=>(θ cE ε (δ x3) aq).bind λbK=>(θ cE ε (A.gX bK) aq).bind λbV=>(θ cE ε (Uw bV (η 1)) aq).bind λcQ=>(θ cE ε (A.kJ cK cQ) aq).bind λdM=>(θ cE ε (p4 .i dM (Ru .u8 48)) aq).bind λdQ=>(θ bO ι (ir cE bH dQ) aq).bind λdS=>(θ x8 ε (ir bO dS aC) aq).bind λcZ=>(ir x8 bH cZ).bind λfH=>Γ fH (Θ σ (l6 [(η 0),aC]) r5.2) ((Zp (λv29 Q3=>(ZS (ak v29 1) (η 3)).bind λgF=>Γ gF ((A.mul (ak v29 0) (η 10)).bind λeL=>(A.gX x3).bind λeM=>(ZS (ak v29 1) eM).bind λcI=>(Γ cI ((A.kJ x3 (ak v29 1)).bind λdU=>(Uw dU (Ru .u8 48)).bind λfM=>(A.conv ξ fM).bind λey=>(u9 eL ey).bind λfk=>δ ([fk],Q3)) (δ ([eL],Q3))).bind λyj=>(u9 (ak v29 1) (η 1)).bind λfu=>δ (y9,[(ak yj.1 0),fu],yj.2)) (δ (i6 0,[(ak v29 0),(ak v29 1)],Q3))) [x6,(η 0)] r5.2).bind λCf=>bif Cf.1==i6 0 then(Θ σ (l6 [(ak Cf.2.1 0),bH]) Cf.2.2)else μ)
def Az:ay->Heap->aL:=l9 ι [] .k (Tu Kv)
def GD (a0:U) (σ:Heap):aL:=((((n8 (η 1)).bind λv=>δ [v]).bind λc1=>(n4 0 c1 [(η 0),IM]).bind λc2=>δ c2).bind λcs=>δ (l7 cs)).bind λx3=>((((n8 (η (-1))).bind λv=>δ [v]).bind λc4=>(n4 9 c4 [(η 0),aV,(η 0),(η 0),(η 0),(η 0),(η 0),IM,aC,(η 0),IM]).bind λc5=>(Φ 2 x3).bind λc6=>(n4 6 c6 c5).bind λc7=>δ c7).bind λcs=>δ (l7 cs)).bind λx8=>(Φ 11 x8).bind λc9=>(WG (UK σ.length 0) c9 (σ++[bQ.box [(η 0),aV,(η 0),(η 0),(η 0),(η 0),(η 0),IM,aC,(η 0),IM]])).bind λdR=>(qB [a0,(ψ ⟨#[32,34]⟩)] dR).bind λeC=>(j0 0 eC.1).bind λbP=>(j0 1 eC.1).bind λbU=>(j0 2 eC.1).bind λcr=>Γ cr ((Au [bU,(ψ ⟨#[34]⟩)] eC.2).bind λiN=>(j0 0 iN.1).bind λcq=>(j0 1 iN.1).bind λdw=>(Zo dw).bind λcU=>(θ cU ε (δ cq) aq).bind λcE=>(θ cU ε (p4 .z cE aV) aq).bind λcK=>(ir cU bH cK).bind λbK=>Γ bK ((Φ 11 (l7 [(η 0),aV,(η 0),(η 0),(η 0),(η 0),(η 0),IM,aC,(η 0),IM])).bind λsw=>(n4 0 sw [(η 0),aV,(η 0),(η 0),(η 0),(η 0),(η 0),IM,aC,(η 0),IM]).bind λlM=>(p9 0 11 lM).bind λdM=>Θ σ (l6 [dM,aC]) iN.2) ((YK 1 (UK σ.length 0)).bind λdQ=>((n8 cq).bind λv=>δ [v]).bind λsx=>(WG dQ sx iN.2).bind λvG=>(sU [bP,(ψ ⟨#[32]⟩)] vG).bind λjt=>(ZJ jt.1).bind λeU=>(ZS eU (η 2)).bind λeD=>(θ eD ε (δ jt.1) aq).bind λgS=>(θ eD ε (Zv 1 gS (η 0)) aq).bind λgF=>(θ eD ε ((Ψ gF jt.2).bind λzC=>Ω 0 zC) aq).bind λeM=>(θ eD ε (Lu .z eM (ψ ⟨#[99,117,101]⟩)) aq).bind λcI=>(ir eD bH cI).bind λgB=>Γ gB ((Φ 11 (l7 [(η 0),aV,(η 0),(η 0),(η 0),(η 0),(η 0),IM,aC,(η 0),IM])).bind λvH=>(n4 0 vH [(η 0),aV,(η 0),(η 0),(η 0),(η 0),(η 0),IM,aC,(η 0),IM]).bind λzD=>(p9 0 11 zD).bind λey=>Θ σ (l6 [ey,aC]) jt.2) ((Zv 1 jt.1 (η 1)).bind λfk=>((Ψ fk jt.2).bind λsy=>Ω 0 sy).bind λia=>(Az [ia] jt.2).bind λjT=>(j0 0 jT.1).bind λgu=>(j0 1 jT.1).bind λfX=>(Zo fX).bind λgC=>Γ gC ((Φ 11 (l7 [(η 0),aV,(η 0),(η 0),(η 0),(η 0),(η 0),IM,aC,(η 0),IM])).bind λsA=>(n4 0 sA [(η 0),aV,(η 0),(η 0),(η 0),(η 0),(η 0),IM,aC,(η 0),IM]).bind λvK=>(p9 0 11 vK).bind λjv=>Θ σ (l6 [jv,aC]) jT.2) ((YK 0 (UK σ.length 0)).bind λjx=>((n8 gu).bind λv=>δ [v]).bind λzE=>(WG jx zE jT.2).bind λzF=>(A.gV 1 jt.1 (δ (η 2)) μ zF).bind λjU=>(YK 2 (UK σ.length 0)).bind λkN=>(YK 3 (UK σ.length 0)).bind λkC=>(YK 4 (UK σ.length 0)).bind λjy=>(YK 5 (UK σ.length 0)).bind λjz=>((((n8 kN).bind λv=>δ [v]).bind λzG=>(n4 0 zG [U.np,U.np,U.np,U.np]).bind λvL=>((n8 kC).bind λv=>δ [v]).bind λzH=>(n4 1 zH vL).bind λzI=>((n8 jy).bind λv=>δ [v]).bind λP9=>(n4 2 P9 zI).bind λzJ=>((n8 jz).bind λv=>δ [v]).bind λvM=>(n4 3 vM zJ).bind λE7=>δ E7).bind λcs=>δ (U.sl 1 (iO 1 4 cs))).bind λjA=>((((n8 (ψ ⟨#[100,101,108,97,121]⟩)).bind λv=>δ [v]).bind λzK=>(n4 0 zK [aV,aV,aV,aV]).bind λE8=>((n8 (ψ ⟨#[117,112]⟩)).bind λv=>δ [v]).bind λzL=>(n4 1 zL E8).bind λzM=>((n8 (ψ ⟨#[100,111,119,110]⟩)).bind λv=>δ [v]).bind λvN=>(n4 2 vN zM).bind λE9=>((n8 (ψ ⟨#[111,116,104,101,114]⟩)).bind λv=>δ [v]).bind λzN=>(n4 3 zN E9).bind λFa=>δ Fa).bind λcs=>δ (U.sl 1 (iO 1 4 cs))).bind λpI=>(ZJ pI).bind λnN=>(Zp (λeS qw=>(ZS (ak eS 3) nN).bind λqA=>Γ qA ((Zv 1 pI (ak eS 3)).bind λwC=>((Ψ wC qw).bind λFb=>Ω 0 Fb).bind λF6=>(ZJ (ak eS 2)).bind λRg=>(ZS Rg (η 2)).bind λmJ=>(θ mJ ε (δ (ak eS 2)) aq).bind λwD=>(θ mJ ε (Zv 1 wD (η 0)) aq).bind λAk=>(θ mJ ε ((Ψ Ak qw).bind λxV=>Ω 0 xV) aq).bind λAl=>(θ mJ ε (δ F6) aq).bind λRh=>(θ mJ ε (Lu .z Al Rh) aq).bind λF7=>(ir mJ bH F7).bind λAm=>Γ Am ((u9 (ak eS 3) (η 1)).bind λF8=>δ (y9,[(ak eS 0),(ak eS 1),(ak eS 2),F8],qw)) ((Zv 1 (ak eS 2) (η 1)).bind λF9=>((Ψ F9 qw).bind λQf=>Ω 0 Qf).bind λRi=>(nO [Ri] qw).bind λsM=>(j0 0 sM.1).bind λAn=>(j0 1 sM.1).bind λGa=>(Lu .i Ga (η 0)).bind λvD=>(θ vD ε (δ An) aq).bind λzl=>(θ vD ε (p4 .i zl (η 0)) aq).bind λzm=>(ir vD bH zm).bind λBV=>Γ BV ((Zm (ak eS 0)).bind λDy=>(Φ 11 (l7 [(η 0),aV,(η 0),(η 0),(η 0),(η 0),(η 0),IM,aC,(η 0),IM])).bind λN5=>(n4 0 N5 Dy).bind λN6=>δ (l8,[(Z3 N6),aC,(ak eS 2),(ak eS 3)],sM.2)) ((Zv 1 jA (ak eS 3)).bind λJa=>((Ψ Ja sM.2).bind λN7=>Ω 0 N7).bind λEi=>(A.mU Ei).bind λO9=>((n8 An).bind λv=>δ [v]).bind λN8=>(WG O9 N8 sM.2).bind λDz=>(A.gV 1 (ak eS 2) (δ (η 2)) μ Dz).bind λEj=>(u9 (ak eS 3) (η 1)).bind λEk=>δ (y9,[(ak eS 0),(ak eS 1),Ej,Ek],Dz)))) (δ (i6 0,[(ak eS 0),(ak eS 1),(ak eS 2),(ak eS 3)],qw))) [(Z3 [(η 0),aV,(η 0),(η 0),(η 0),(η 0),(η 0),IM,aC,(η 0),IM]),aC,jU,(η 0)] zF).bind λgD=>bif gD.1==i6 0 then((ZJ (ak gD.2.1 2)).bind λEl=>(ZR El (η 0)).bind λpZ=>(θ pZ ι (δ (ak gD.2.1 2)) aq).bind λPa=>(θ pZ ι (Zv 1 Pa (η 0)) aq).bind λEm=>(θ pZ ι ((Ψ Em gD.2.2).bind λN9=>Ω 0 N9) aq).bind λBW=>(θ pZ ι (p4 .z BW (ψ ⟨#[98,108,111,99,107]⟩)) aq).bind λEn=>(ir pZ En aC).bind λzn=>(Γ zn ((YK 8 (UK σ.length 0)).bind λEo=>((n8 bH).bind λv=>δ [v]).bind λOa=>(WG Eo Oa gD.2.2).bind λyZ=>(A.gV 1 (ak gD.2.1 2) (δ (η 1)) μ yZ).bind λPb=>δ ([(ak gD.2.1 0),Pb],yZ)) (δ ([(ak gD.2.1 0),(ak gD.2.1 2)],gD.2.2))).bind λgY=>(ZJ (ak gY.1 1)).bind λEp=>(ZR Ep (η 1)).bind λrY=>(θ rY ι (δ (ak gY.1 1)) aq).bind λPc=>(θ rY ι (Zv 1 Pc (η 0)) aq).bind λqL=>(θ rY ι ((Ψ qL gY.2).bind λOb=>Ω 0 Ob) aq).bind λEr=>(θ rY ι (p4 .z Er (ψ ⟨#[102,111,108,108,111,119]⟩)) aq).bind λEs=>(ir rY Es aC).bind λPd=>Γ Pd ((Zv 1 (ak gY.1 1) (η 1)).bind λPe=>((Ψ Pe gY.2).bind λOc=>Ω 0 Oc).bind λEt=>(nO [Et] gY.2).bind λvr=>(j0 0 vr.1).bind λEu=>(j0 1 vr.1).bind λue=>(Lu .i ue (η 0)).bind λEv=>Γ Ev ((Zm (ak gY.1 0)).bind λOf=>(Φ 11 (l7 [(η 0),aV,(η 0),(η 0),(η 0),(η 0),(η 0),IM,aC,(η 0),IM])).bind λOd=>(n4 0 Od Of).bind λOe=>(p9 0 11 Oe).bind λEw=>Θ σ (l6 [Ew,aC]) vr.2) ((YK 9 (UK σ.length 0)).bind λEx=>((n8 Eu).bind λv=>δ [v]).bind λOg=>(WG Ex Og vr.2).bind λvg=>(A.gV 1 (ak gY.1 1) (δ (η 2)) μ vg).bind λxS=>(ZJ xS).bind λajV=>(ZR ajV (η 1)).bind λEy=>(θ Ey ι (δ xS) aq).bind λPf=>(θ Ey ι (Zv 1 Pf (η 0)) aq).bind λPg=>(θ Ey ι ((Ψ Pg vg).bind λOh=>Ω 0 Oh) aq).bind λPh=>(θ Ey ι (p4 .z Ph (ψ ⟨#[99,117,114,118,101]⟩)) aq).bind λajW=>(ir Ey ajW aC).bind λPj=>Γ Pj ((A.gV 1 xS (δ (η 1)) μ vg).bind λJd=>(uB [Jd,(ψ ⟨#[32]⟩)] vg).bind λX2=>(wG [X2.1] X2.2).bind λI4=>(j0 0 I4.1).bind λajX=>(j0 1 I4.1).bind λajY=>(Φ 2 ajX).bind λahF=>(n4 0 ahF [(η 0),IM]).bind λXh=>(Lu .i ajY (η 0)).bind λEz=>(θ Ez ε (Ω 0 Xh) aq).bind λPk=>(θ Ez ε (p4 .i Pk (η 1)) aq).bind λPm=>(ir Ez bH Pm).bind λPn=>Γ Pn ((Zm (ak gY.1 0)).bind λahH=>(Φ 11 (l7 [(η 0),aV,(η 0),(η 0),(η 0),(η 0),(η 0),IM,aC,(η 0),IM])).bind λOi=>(n4 0 Oi ahH).bind λahG=>(p9 0 11 ahG).bind λPo=>Θ σ (l6 [Po,aC]) I4.2) ((p9 0 2 Xh).bind λPp=>(YK 6 (UK σ.length 0)).bind λaj1=>(Φ 2 Pp).bind λIS=>(WG aj1 IS I4.2).bind λXi=>((Ψ (UK σ.length 0) Xi).bind λOj=>p9 0 11 Oj).bind λPq=>(ZJ IM).bind λEA=>(p4 .i EA (η 0)).bind λPr=>(Zm (ak gY.1 0)).bind λOl=>(Φ 11 Pq).bind λahJ=>(n4 0 ahJ Ol).bind λahK=>(p9 0 11 ahK).bind λaj5=>Θ σ (l6 [aj5,Pr]) Xi)) (((Ψ (UK σ.length 0) vg).bind λahM=>p9 0 11 ahM).bind λPt=>(ZJ xS).bind λPu=>(p4 .i Pu (η 0)).bind λaj7=>(Zm (ak gY.1 0)).bind λahP=>(Φ 11 Pt).bind λOm=>(n4 0 Om ahP).bind λahO=>(p9 0 11 ahO).bind λPv=>Θ σ (l6 [Pv,aj7]) vg))) ((ZJ (ak gY.1 1)).bind λPw=>(ZR Pw (η 1)).bind λrZ=>(θ rZ ι (δ (ak gY.1 1)) aq).bind λEB=>(θ rZ ι (Zv 1 EB (η 0)) aq).bind λEC=>(θ rZ ι ((Ψ EC gY.2).bind λDA=>Ω 0 DA) aq).bind λED=>(θ rZ ι (p4 .z ED (ψ ⟨#[99,117,114,118,101]⟩)) aq).bind λPx=>(ir rZ Px aC).bind λEE=>Γ EE ((A.gV 1 (ak gY.1 1) (δ (η 1)) μ gY.2).bind λEF=>(uB [EF,(ψ ⟨#[32]⟩)] gY.2).bind λEc=>(wG [Ec.1] Ec.2).bind λvw=>(j0 0 vw.1).bind λPy=>(j0 1 vw.1).bind λEG=>(Φ 2 Py).bind λDB=>(n4 0 DB [(η 0),IM]).bind λxE=>(Lu .i EG (η 0)).bind λnw=>(θ nw ε (Ω 0 xE) aq).bind λEH=>(θ nw ε (p4 .i EH (η 1)) aq).bind λEI=>(ir nw bH EI).bind λEJ=>Γ EJ ((Zm (ak gY.1 0)).bind λOn=>(Φ 11 (l7 [(η 0),aV,(η 0),(η 0),(η 0),(η 0),(η 0),IM,aC,(η 0),IM])).bind λDC=>(n4 0 DC On).bind λDD=>(p9 0 11 DD).bind λEL=>Θ σ (l6 [EL,aC]) vw.2) ((p9 0 2 xE).bind λPz=>(YK 6 (UK σ.length 0)).bind λEM=>(Φ 2 Pz).bind λOo=>(WG EM Oo vw.2).bind λDE=>((Ψ (UK σ.length 0) DE).bind λOq=>p9 0 11 Oq).bind λEN=>(ZJ IM).bind λxT=>(p4 .i xT (η 0)).bind λEO=>(Zm (ak gY.1 0)).bind λOv=>(Φ 11 EN).bind λOt=>(n4 0 Ot Ov).bind λOu=>(p9 0 11 Ou).bind λEP=>Θ σ (l6 [EP,EO]) DE)) (((Ψ (UK σ.length 0) gY.2).bind λDF=>p9 0 11 DF).bind λPA=>(ZJ (ak gY.1 1)).bind λER=>(p4 .i ER (η 0)).bind λES=>(Zm (ak gY.1 0)).bind λOx=>(Φ 11 PA).bind λDG=>(n4 0 DG Ox).bind λOw=>(p9 0 11 Ow).bind λET=>Θ σ (l6 [ET,ES]) gY.2)))else bif gD.1==l8 then(((Zm (ak gD.2.1 0)).bind λDH=>p9 0 11 DH).bind λBY=>Θ σ (l6 [BY,(ak gD.2.1 1)]) gD.2.2)else μ)))) ((sU [a0,(ψ ⟨#[32]⟩)] eC.2).bind λxQ=>(ZJ xQ.1).bind λaki=>(ZS aki (η 2)).bind λEU=>(θ EU ε (δ xQ.1) aq).bind λBZ=>(θ EU ε (Zv 1 BZ (η 0)) aq).bind λPB=>(θ EU ε ((Ψ PB xQ.2).bind λahY=>Ω 0 ahY) aq).bind λPC=>(θ EU ε (Lu .z PC (ψ ⟨#[99,117,101]⟩)) aq).bind λPD=>(ir EU bH PD).bind λPE=>Γ PE ((Φ 11 (l7 [(η 0),aV,(η 0),(η 0),(η 0),(η 0),(η 0),IM,aC,(η 0),IM])).bind λOy=>(n4 0 Oy [(η 0),aV,(η 0),(η 0),(η 0),(η 0),(η 0),IM,aC,(η 0),IM]).bind λahZ=>(p9 0 11 ahZ).bind λakl=>Θ σ (l6 [akl,aC]) xQ.2) ((Zv 1 xQ.1 (η 1)).bind λPF=>((Ψ PF xQ.2).bind λah0=>Ω 0 ah0).bind λakn=>(Az [akn] xQ.2).bind λI5=>(j0 0 I5.1).bind λPG=>(j0 1 I5.1).bind λako=>(Zo ako).bind λPI=>Γ PI ((Φ 11 (l7 [(η 0),aV,(η 0),(η 0),(η 0),(η 0),(η 0),IM,aC,(η 0),IM])).bind λah3=>(n4 0 ah3 [(η 0),aV,(η 0),(η 0),(η 0),(η 0),(η 0),IM,aC,(η 0),IM]).bind λah4=>(p9 0 11 ah4).bind λPK=>Θ σ (l6 [PK,aC]) I5.2) ((YK 0 (UK σ.length 0)).bind λPL=>((n8 PG).bind λv=>δ [v]).bind λOz=>(WG PL Oz I5.2).bind λIT=>(A.gV 1 xQ.1 (δ (η 2)) μ IT).bind λPM=>(YK 2 (UK σ.length 0)).bind λPN=>(YK 3 (UK σ.length 0)).bind λPO=>(YK 4 (UK σ.length 0)).bind λakq=>(YK 5 (UK σ.length 0)).bind λakr=>((((n8 PN).bind λv=>δ [v]).bind λah7=>(n4 0 ah7 [U.np,U.np,U.np,U.np]).bind λah8=>((n8 PO).bind λv=>δ [v]).bind λah9=>(n4 1 ah9 ah8).bind λOA=>((n8 akq).bind λv=>δ [v]).bind λOB=>(n4 2 OB OA).bind λaia=>((n8 akr).bind λv=>δ [v]).bind λaib=>(n4 3 aib aia).bind λaic=>δ aic).bind λcs=>δ (U.sl 1 (iO 1 4 cs))).bind λakw=>((((n8 (ψ ⟨#[100,101,108,97,121]⟩)).bind λv=>δ [v]).bind λaid=>(n4 0 aid [aV,aV,aV,aV]).bind λaie=>((n8 (ψ ⟨#[117,112]⟩)).bind λv=>δ [v]).bind λaif=>(n4 1 aif aie).bind λaih=>((n8 (ψ ⟨#[100,111,119,110]⟩)).bind λv=>δ [v]).bind λaii=>(n4 2 aii aih).bind λaij=>((n8 (ψ ⟨#[111,116,104,101,114]⟩)).bind λv=>δ [v]).bind λaik=>(n4 3 aik aij).bind λail=>δ ail).bind λcs=>δ (U.sl 1 (iO 1 4 cs))).bind λYb=>(ZJ Yb).bind λakx=>(Zp (λkj BS=>(ZS (ak kj 3) akx).bind λaky=>Γ aky ((Zv 1 Yb (ak kj 3)).bind λakz=>((Ψ akz BS).bind λaim=>Ω 0 aim).bind λakA=>(ZJ (ak kj 2)).bind λakB=>(ZS akB (η 2)).bind λB0=>(θ B0 ε (δ (ak kj 2)) aq).bind λakC=>(θ B0 ε (Zv 1 akC (η 0)) aq).bind λakD=>(θ B0 ε ((Ψ akD BS).bind λaio=>Ω 0 aio) aq).bind λakE=>(θ B0 ε (δ akA) aq).bind λakF=>(θ B0 ε (Lu .z akE akF) aq).bind λakG=>(ir B0 bH akG).bind λakH=>Γ akH ((u9 (ak kj 3) (η 1)).bind λakI=>δ (y9,[(ak kj 0),(ak kj 1),(ak kj 2),akI],BS)) ((Zv 1 (ak kj 2) (η 1)).bind λakJ=>((Ψ akJ BS).bind λaip=>Ω 0 aip).bind λakK=>(nO [akK] BS).bind λEf=>(j0 0 Ef.1).bind λYc=>(j0 1 Ef.1).bind λakL=>(Lu .i akL (η 0)).bind λPR=>(θ PR ε (δ Yc) aq).bind λakM=>(θ PR ε (p4 .i akM (η 0)) aq).bind λakN=>(ir PR bH akN).bind λakO=>Γ akO ((Zm (ak kj 0)).bind λais=>(Φ 11 (l7 [(η 0),aV,(η 0),(η 0),(η 0),(η 0),(η 0),IM,aC,(η 0),IM])).bind λaiq=>(n4 0 aiq ais).bind λair=>δ (l8,[(Z3 air),aC,(ak kj 2),(ak kj 3)],Ef.2)) ((Zv 1 akw (ak kj 3)).bind λakP=>((Ψ akP Ef.2).bind λait=>Ω 0 ait).bind λakQ=>(A.mU akQ).bind λakR=>((n8 Yc).bind λv=>δ [v]).bind λaiu=>(WG akR aiu Ef.2).bind λXl=>(A.gV 1 (ak kj 2) (δ (η 2)) μ Xl).bind λakS=>(u9 (ak kj 3) (η 1)).bind λakT=>δ (y9,[(ak kj 0),(ak kj 1),akS,akT],Xl)))) (δ (i6 0,[(ak kj 0),(ak kj 1),(ak kj 2),(ak kj 3)],BS))) [(Z3 [(η 0),aV,(η 0),(η 0),(η 0),(η 0),(η 0),IM,aC,(η 0),IM]),aC,PM,(η 0)] IT).bind λoT=>bif oT.1==i6 0 then((ZJ (ak oT.2.1 2)).bind λakU=>(ZR akU (η 0)).bind λEV=>(θ EV ι (δ (ak oT.2.1 2)) aq).bind λakV=>(θ EV ι (Zv 1 akV (η 0)) aq).bind λakW=>(θ EV ι ((Ψ akW oT.2.2).bind λaiv=>Ω 0 aiv) aq).bind λakX=>(θ EV ι (p4 .z akX (ψ ⟨#[98,108,111,99,107]⟩)) aq).bind λakY=>(ir EV akY aC).bind λakZ=>(Γ akZ ((YK 8 (UK σ.length 0)).bind λak0=>((n8 bH).bind λv=>δ [v]).bind λaiw=>(WG ak0 aiw oT.2.2).bind λXm=>(A.gV 1 (ak oT.2.1 2) (δ (η 1)) μ Xm).bind λak1=>δ ([(ak oT.2.1 0),ak1],Xm)) (δ ([(ak oT.2.1 0),(ak oT.2.1 2)],oT.2.2))).bind λjl=>(ZJ (ak jl.1 1)).bind λak2=>(ZR ak2 (η 1)).bind λEW=>(θ EW ι (δ (ak jl.1 1)) aq).bind λak3=>(θ EW ι (Zv 1 ak3 (η 0)) aq).bind λak4=>(θ EW ι ((Ψ ak4 jl.2).bind λaix=>Ω 0 aix) aq).bind λak5=>(θ EW ι (p4 .z ak5 (ψ ⟨#[102,111,108,108,111,119]⟩)) aq).bind λak6=>(ir EW ak6 aC).bind λak7=>Γ ak7 ((Zv 1 (ak jl.1 1) (η 1)).bind λak8=>((Ψ ak8 jl.2).bind λaiy=>Ω 0 aiy).bind λak9=>(nO [ak9] jl.2).bind λI6=>(j0 0 I6.1).bind λala=>(j0 1 I6.1).bind λalb=>(Lu .i alb (η 0)).bind λalc=>Γ alc ((Zm (ak jl.1 0)).bind λaiB=>(Φ 11 (l7 [(η 0),aV,(η 0),(η 0),(η 0),(η 0),(η 0),IM,aC,(η 0),IM])).bind λaiz=>(n4 0 aiz aiB).bind λaiA=>(p9 0 11 aiA).bind λald=>Θ σ (l6 [ald,aC]) I6.2) ((YK 9 (UK σ.length 0)).bind λale=>((n8 ala).bind λv=>δ [v]).bind λaiC=>(WG ale aiC I6.2).bind λBI=>(A.gV 1 (ak jl.1 1) (δ (η 2)) μ BI).bind λJf=>(ZJ Jf).bind λalf=>(ZR alf (η 1)).bind λEX=>(θ EX ι (δ Jf) aq).bind λalg=>(θ EX ι (Zv 1 alg (η 0)) aq).bind λalh=>(θ EX ι ((Ψ alh BI).bind λaiD=>Ω 0 aiD) aq).bind λali=>(θ EX ι (p4 .z ali (ψ ⟨#[99,117,114,118,101]⟩)) aq).bind λalj=>(ir EX alj aC).bind λalk=>Γ alk ((A.gV 1 Jf (δ (η 1)) μ BI).bind λalm=>(uB [alm,(ψ ⟨#[32]⟩)] BI).bind λX3=>(wG [X3.1] X3.2).bind λI7=>(j0 0 I7.1).bind λaln=>(j0 1 I7.1).bind λalo=>(Φ 2 aln).bind λaiE=>(n4 0 aiE [(η 0),IM]).bind λXn=>(Lu .i alo (η 0)).bind λPS=>(θ PS ε (Ω 0 Xn) aq).bind λalp=>(θ PS ε (p4 .i alp (η 1)) aq).bind λalq=>(ir PS bH alq).bind λalr=>Γ alr ((Zm (ak jl.1 0)).bind λaiH=>(Φ 11 (l7 [(η 0),aV,(η 0),(η 0),(η 0),(η 0),(η 0),IM,aC,(η 0),IM])).bind λaiF=>(n4 0 aiF aiH).bind λaiG=>(p9 0 11 aiG).bind λals=>Θ σ (l6 [als,aC]) I7.2) ((p9 0 2 Xn).bind λalu=>(YK 6 (UK σ.length 0)).bind λalv=>(Φ 2 alu).bind λaiI=>(WG alv aiI I7.2).bind λXo=>((Ψ (UK σ.length 0) Xo).bind λaiJ=>p9 0 11 aiJ).bind λalw=>(ZJ IM).bind λalx=>(p4 .i alx (η 0)).bind λaly=>(Zm (ak jl.1 0)).bind λaiM=>(Φ 11 alw).bind λaiK=>(n4 0 aiK aiM).bind λaiL=>(p9 0 11 aiL).bind λalz=>Θ σ (l6 [alz,aly]) Xo)) (((Ψ (UK σ.length 0) BI).bind λaiN=>p9 0 11 aiN).bind λalA=>(ZJ Jf).bind λalB=>(p4 .i alB (η 0)).bind λalC=>(Zm (ak jl.1 0)).bind λaiQ=>(Φ 11 alA).bind λaiO=>(n4 0 aiO aiQ).bind λaiP=>(p9 0 11 aiP).bind λalD=>Θ σ (l6 [alD,alC]) BI))) ((ZJ (ak jl.1 1)).bind λalE=>(ZR alE (η 1)).bind λEY=>(θ EY ι (δ (ak jl.1 1)) aq).bind λalF=>(θ EY ι (Zv 1 alF (η 0)) aq).bind λalG=>(θ EY ι ((Ψ alG jl.2).bind λaiR=>Ω 0 aiR) aq).bind λalH=>(θ EY ι (p4 .z alH (ψ ⟨#[99,117,114,118,101]⟩)) aq).bind λalI=>(ir EY alI aC).bind λalJ=>Γ alJ ((A.gV 1 (ak jl.1 1) (δ (η 1)) μ jl.2).bind λalK=>(uB [alK,(ψ ⟨#[32]⟩)] jl.2).bind λanz=>(wG [anz.1] anz.2).bind λr417=>(j0 0 r417.1).bind λalL=>(j0 1 r417.1).bind λalM=>(Φ 2 alL).bind λaiS=>(n4 0 aiS [(η 0),IM]).bind λXp=>(Lu .i alM (η 0)).bind λPT=>(θ PT ε (Ω 0 Xp) aq).bind λalN=>(θ PT ε (p4 .i alN (η 1)) aq).bind λalO=>(ir PT bH alO).bind λalP=>Γ alP ((Zm (ak jl.1 0)).bind λaiV=>(Φ 11 (l7 [(η 0),aV,(η 0),(η 0),(η 0),(η 0),(η 0),IM,aC,(η 0),IM])).bind λaiT=>(n4 0 aiT aiV).bind λaiU=>(p9 0 11 aiU).bind λalQ=>Θ σ (l6 [alQ,aC]) r417.2) ((p9 0 2 Xp).bind λalR=>(YK 6 (UK σ.length 0)).bind λalS=>(Φ 2 alR).bind λaiW=>(WG alS aiW r417.2).bind λanQ=>((Ψ (UK σ.length 0) anQ).bind λaiX=>p9 0 11 aiX).bind λalT=>(ZJ IM).bind λalU=>(p4 .i alU (η 0)).bind λalV=>(Zm (ak jl.1 0)).bind λai0=>(Φ 11 alT).bind λaiY=>(n4 0 aiY ai0).bind λaiZ=>(p9 0 11 aiZ).bind λalW=>Θ σ (l6 [alW,alV]) anQ)) (((Ψ (UK σ.length 0) jl.2).bind λai1=>p9 0 11 ai1).bind λalX=>(ZJ (ak jl.1 1)).bind λalY=>(p4 .i alY (η 0)).bind λalZ=>(Zm (ak jl.1 0)).bind λai4=>(Φ 11 alX).bind λai2=>(n4 0 ai2 ai4).bind λai3=>(p9 0 11 ai3).bind λal0=>Θ σ (l6 [al0,alZ]) jl.2)))else bif oT.1==l8 then(((Zm (ak oT.2.1 0)).bind λai5=>p9 0 11 ai5).bind λal1=>Θ σ (l6 [al1,(ak oT.2.1 1)]) oT.2.2)else μ)))
def KS:ay->Heap->aL:=l9 ι [] (.t [(.a [.k,.k,.k,.k,.k,.k,.k,(.s 2),.k,.k,.k]),.k]) (Tu GD)
def L5 (a0 a1 a2:U) (σ:Heap):aL:=(Φ 2 a0).bind λc1=>(p9 0 2 c1).bind λx2=>(Gk [x2,a1] σ).bind λr3=>(A.gX a2).bind λx4=>(ZR x4 (η 600000)).bind λx5=>(AY [x5,(η 2)] r3.2).bind λr6=>((((n8 r3.1).bind λv=>δ [v]).bind λc7=>(n4 0 c7 [(η 0),(η 0)]).bind λc8=>((n8 r6.1).bind λv=>δ [v]).bind λc9=>(n4 1 c9 c8).bind λdR=>δ dR).bind λcs=>δ (U.sl 1 (iO 1 2 cs))).bind λbB=>(CB [bB] r6.2).bind λfG=>(Lu .i fG.1 (η 0)).bind λbU=>Γ bU (Θ σ (l6 [IM,(η 0),fG.1]) fG.2) ((K9 [a2] fG.2).bind λeJ=>(j0 0 eJ.1).bind λct=>(j0 1 eJ.1).bind λcq=>(ZJ ct).bind λdw=>(Zp (λiY Q1=>(ZS (ak iY 5) dw).bind λbK=>Γ bK ((Zv 1 ct (ak iY 5)).bind λbV=>((Ψ bV Q1).bind λlM=>Ω 0 lM).bind λdM=>(θ cq ε (δ (ak iY 5)) aq).bind λdQ=>(θ cq ε (δ ct) aq).bind λdS=>(θ cq ε (ZJ dS) aq).bind λcZ=>(θ cq ε (Uw cZ (η 1)) aq).bind λfH=>(θ cq ε (ZS dQ fH) aq).bind λeU=>(ir cq bH eU).bind λeD=>(Gl [dM,(ψ ⟨#[32,32]⟩)] Q1).bind λqt=>(j0 0 qt.1).bind λgF=>(j0 1 qt.1).bind λeL=>(θ eD ι (δ eL) aq).bind λeM=>(ir eD eM aC).bind λcI=>(θ cI ι (δ (ak iY 4)) aq).bind λgB=>(θ cI ι (ZJ gB) aq).bind λdU=>(θ cI ι (ZR dU (η 0)) aq).bind λfM=>(ir cI fM aC).bind λey=>(Γ ey ((KF [gF] qt.2).bind λkZ=>(j0 0 kZ.1).bind λia=>(j0 1 kZ.1).bind λgr=>(Φ 8 ia).bind λP5=>(n4 0 P5 [(η 0),aV,(η 0),(η 0),aC,aC,(η 0),(η 0)]).bind λvJ=>(ZJ (ak iY 4)).bind λgC=>(Uw gC (η 1)).bind λiZ=>(Zv 11 (ak iY 4) iZ).bind λlT=>(A.mU lT).bind λjv=>(YK 10 jv).bind λjx=>((Ψ jx kZ.2).bind λzE=>Ω 0 zE).bind λgy=>(p9 0 8 vJ).bind λjU=>(((Φ 8 jU).bind λE5=>(n4 0 E5 [(η 0),aV,(η 0),(η 0),aC,aC,(η 0),(η 0)]).bind λP8=>δ P8).bind λcs=>δ (U.sl 8 (iO 8 1 cs))).bind λjy=>(SI 8 (140737488355328 / 64) gy jy kZ.2).bind λpg=>(A.mU lT).bind λnL=>(YK 10 nL).bind λnM=>((n8 pg.1).bind λv=>δ [v]).bind λzH=>(WG nM zH pg.2).bind λzI=>δ ([(ak iY 0),(ak iY 4),gr],zI)) ((Γ eD ((KS [dM] qt.2).bind λwo=>(j0 0 wo.1).bind λwv=>(j0 1 wo.1).bind λsP=>(Φ 11 wv).bind λQa=>(n4 0 Qa [(η 0),aV,(η 0),(η 0),(η 0),(η 0),(η 0),IM,aC,(η 0),IM]).bind λzK=>(p9 0 11 zK).bind λsQ=>(((Φ 11 sQ).bind λzL=>(n4 0 zL [(η 0),aV,(η 0),(η 0),(η 0),(η 0),(η 0),IM,aC,(η 0),IM]).bind λzM=>δ zM).bind λcs=>δ (U.sl 11 (iO 11 1 cs))).bind λCk=>(SI 11 (140737488355328 / 128) (ak iY 4) Ck wo.2).bind λqu=>δ ([(ak iY 0),qu.1,sP],qu.2)) (δ ([(ak iY 0),(ak iY 4),eD],qt.2))).bind λyl=>δ ([(ak yl.1 0),(ak yl.1 1),(ak yl.1 2)],yl.2))).bind λiX=>(Zo (ak iX.1 2)).bind λAj=>Γ Aj ((u9 (ak iY 5) (η 1)).bind λwA=>δ (l8,[(ak iX.1 0),IM,wA,(η 9),(ak iX.1 1),(ak iY 5)],iX.2)) ((u9 (ak iY 5) (η 1)).bind λpI=>δ (y9,[(ak iX.1 0),(ak iY 1),(ak iY 2),(ak iY 3),(ak iX.1 1),pI],iX.2))) (δ (i6 0,[(ak iY 0),(ak iY 1),(ak iY 2),(ak iY 3),(ak iY 4),(ak iY 5)],Q1))) [(Z3 c1),IM,(η 0),(η 0),IM,(η 0)] eJ.2).bind λuw=>bif uw.1==i6 0 then(((Zm (ak uw.2.1 0)).bind λQb=>p9 0 2 Qb).bind λRc=>(AD [Rc,a1,(ak uw.2.1 4)] uw.2.2).bind λJG=>(Lu .i JG.1 (η 0)).bind λqA=>Γ qA (Θ σ (l6 [IM,(η 0),JG.1]) JG.2) (Θ σ (l6 [(ak uw.2.1 4),(η 0),(η 0)]) JG.2))else bif uw.1==l8 then(Θ σ (l6 [(ak uw.2.1 1),(ak uw.2.1 2),(ak uw.2.1 3)]) uw.2.2)else μ)
def LY:ay->Heap->aL:=l9 ι [(.a [(.e 3 vE),(.s 4)]),(.e 3 [.k,.k,(.s 3)])] (.t [(.e 11 sj),.k,.k]) (A.nA L5)
end
section
theorem bq(s t:ByteArray):(s==t)=decide (s=t):=by obtain⟨a⟩:=s;obtain⟨b⟩:=t;show(a==b)=_;rw[kg];simp
section
variable {α β : Type}
theorem cT(t e:Option α):Γ (.bool ι) t e=t:=rfl
theorem cF(t e:Option α):Γ (.bool ε) t e=e:=rfl
theorem Yt(e d:Option α):θ (.bool ι) ι e d=e:=rfl
theorem Yr(e d:Option α):θ (.bool ι) ε e d=d:=rfl
theorem aoA(e d:Option α):θ (.bool ε) ι e d=d:=rfl
theorem Yp(e d:Option α):θ (.bool ε) ε e d=e:=rfl
theorem pT(x y:U):ir (.bool ι) x y=δ x:=rfl
theorem pF(x y:U):ir (.bool ε) x y=δ y:=rfl
theorem vU{p:Prop}[Decidable p]{w:Bool}{e d:Option α}{f:α->Option β}:(θ (.bool (decide p)) w e d).bind f=if p then(θ (.bool ι) w e d).bind f else(θ (.bool ε) w e d).bind f:=by by_cases h:p<;>simp [h]
theorem vT{b w:Bool}{e d:Option α}{f:α->Option β}:(θ (.bool b) w e d).bind f=match b with|true=>(θ (.bool ι) w e d).bind f|false=>(θ (.bool ε) w e d).bind f:=by cases b<;>rfl
theorem vQ{p:Prop}[Decidable p]{t e:Option α}:Γ (.bool (decide p)) t e=if p then t else e:=by by_cases h:p<;>simp [h,Γ]
theorem vi{p:Prop}[Decidable p]{t e:Option α}:Γ (.bool (!decide p)) t e=if p then e else t:=by by_cases h:p<;>simp [h,Γ]
theorem vP{b:Bool}{t e:Option α}:Γ (.bool (!b)) t e=match b with|true=>e|false=>t:=by cases b<;>rfl
theorem vO{b:Bool}{t e:Option α}:Γ (.bool b) t e=match b with|true=>t|false=>e:=by cases b<;>rfl
theorem gN(w:Bool)(e d:Option α):θ (.az []) w e d=d:=rfl
theorem xN(a b:AX):(a==b)=decide (a=b):=by rw[kg];simp
end
section
variable (k : IntKind) (a b : Int) (p q : Prop) [Decidable p] [Decidable q] (s t : ByteArray) (x y : U) (σ : Heap) (cs : ay)
theorem NX:u9 (.ah a) (.ah b)=δ (.ah (ξ.wrap (a+b))):=rfl
theorem N0:Uw (.ah a) (.ah b)=δ (.ah (ξ.wrap (a-b))):=rfl
theorem Xd:A.mul (.ah a) (.ah b)=δ (.ah (ξ.wrap (a*b))):=rfl
theorem IQ(h:b≠0):A.quo (.ah a) (.ah b)=δ (.ah (ξ.wrap (a.tdiv b))):=by simp [A.quo,h]
theorem Dx(h:b≠0):A.rem (.ah a) (.ah b)=δ (.ah (a.tmod b)):=by simp [A.rem,h]
theorem BG:ZS (.ah a) (.ah b)=δ (.bool (decide (a<b))):=rfl
theorem NZ:A.leq (.ah a) (.ah b)=δ (.bool (decide (a<=b))):=rfl
theorem NY:ZR (.ah a) (.ah b)=δ (.bool (decide (b<a))):=rfl
theorem Xc:A.geq (.ah a) (.ah b)=δ (.bool (decide (b<=a))):=rfl
theorem WB:ZS (.int .u8 a) (.int .u8 b)=δ (.bool (decide (a<b))):=rfl
theorem WA:A.leq (.int .u8 a) (.int .u8 b)=δ (.bool (decide (a<=b))):=rfl
theorem Wy:ZR (.int .u8 a) (.int .u8 b)=δ (.bool (decide (b<a))):=rfl
theorem Wx:A.geq (.int .u8 a) (.int .u8 b)=δ (.bool (decide (b<=a))):=rfl
theorem eG:p4 .i (.int k a) (.int k b)=δ (.bool (decide (a=b))):=by simp only[p4,X4,A.jN,if_true,eB];congr 2
theorem fC:Lu .i (.int k a) (.int k b)=δ (.bool (decide (¬a=b))):=by simp only[Lu,X4,A.jN,if_true,eB];congr 2;rw[kg];simp
theorem kW:p4 .z (.str s) (.str t)=δ (.bool (decide (s=t))):=by simp only[p4,X4,A.lN,eB,bq]
theorem pX:Lu .z (.str s) (.str t)=δ (.bool (decide (¬s=t))):=by simp only[Lu,X4,A.lN,eB,bq];simp
theorem Xe(b:Bool):Zo (.bool b)=δ (.bool (!b)):=rfl
theorem WC:Zo (.bool (decide p))=δ (.bool (decide (¬p))):=by simp [Zo]
theorem aon:Zm (.lbx cs)=δ cs:=rfl
theorem Wt(l:ay):j0 0 (.az (x::l))=δ x:=rfl
theorem Wu(x0 x:U)(l:ay):j0 1 (.az (x0::x::l))=δ x:=rfl
theorem aoo(x0 x1 x:U)(l:ay):j0 2 (.az (x0::x1::x::l))=δ x:=rfl
theorem Ww(x0 x1 x2 x:U)(l:ay):j0 3 (.az (x0::x1::x2::x::l))=δ x:=rfl
theorem anB:Ψ (.rp cs) σ=δ cs:=rfl
theorem Yj(o:Nat):YK o (.rp cs)=δ (.rp (cs.drop o)):=rfl
theorem Wz:A.gX (.str s)=δ (.ah s.size):=rfl
theorem Yg(n:Int):n8 (.int k n)=δ (.int k n):=rfl
theorem Yf(b:Bool):n8 (.bool b)=δ (.bool b):=rfl
theorem Yh:n8 (.str s)=δ (.str s):=rfl
theorem Xb(sz:Nat)(es:List ay):n8 (.sl sz es)=δ (.sl sz es):=rfl
theorem QO(o k:Nat):Ω o (cs.drop k)=Ω (k+o) cs:=by simp [Ω,XK]
end
theorem Yu(a d:U)(l:ay):(a::l).getD 0 d=a:=rfl
theorem Yv(a b d:U)(l:ay):(b::a::l).getD 1 d=a:=rfl
theorem Yw(a b c d:U)(l:ay):(b::c::a::l).getD 2 d=a:=rfl
theorem Yx(a b c e d:U)(l:ay):(b::c::e::a::l).getD 3 d=a:=rfl
theorem Yy(a b c e f d:U)(l:ay):(b::c::e::f::a::l).getD 4 d=a:=rfl
theorem Yz(a b c e f g d:U)(l:ay):(b::c::e::f::g::a::l).getD 5 d=a:=rfl
theorem anV(a b c e f g h d:U)(l:ay):(b::c::e::f::g::h::a::l).getD 6 d=a:=rfl
theorem anG(a b c e f g h i d:U)(l:ay):(b::c::e::f::g::h::i::a::l).getD 7 d=a:=rfl
theorem YC(a b c e f g h i j d:U)(l:ay):(b::c::e::f::g::h::i::j::a::l).getD 8 d=a:=rfl
theorem dh{n:Int}(h:aR n):ξ.wrap n=n:=IntWalk.i64_in n h
theorem wrap_eq{ro:Bool}{dF:List Sh}{dO:Sh}{r:ay->Heap->aL}{args:ay}{σ σ':Heap}{v v':U}(h:args.any A.own=ε)(e:r (VD dF args) σ=δ (v,σ'))(hv:V3 dO v=v'):l9 ro dF dO r args σ=δ (v',σ'):=by unfold l9;rw[h,ZO,bA,e];simp [hv]
theorem LQ{v:U}(n:Nat)(h:A.pR v=ι):A.fresh v=ι/\A.shift n v=v:=by cases v<;>first|exact⟨h,rfl⟩|cases h
theorem anC{v:U}(n:Nat)(h:A.zh v=ι):A.uO v=ι/\A.tI n v=v:=by
 have key:(∀vs,v≠.az vs)->A.uO v=ι/\A.tI n v=v:=by intro k;have:=LQ (v:=v) n;cases v<;>first|exact absurd rfl (k _)|exact this h
 by_cases ht:∃vs,v=.az vs
 ·obtain⟨vs,rfl⟩:=ht;simp only[A.zh,kV]at h;refine⟨by simp only[A.uO,kV];exact λx hx=>(LQ n (h x hx)).1,?_⟩;simp only[A.tI];congr 1
  calc vs.map (A.shift n)=vs.map id:=Ub λx hx=>(LQ n (h x hx)).2
   _=vs:=List.map_id vs
 ·exact key λvs e=>ht ⟨vs,e⟩
theorem ML{dF:List Sh}{dO:Sh}{r:ay->Heap->aL}{args args':ay}{σ:Heap}{v:U}(h:args.any A.own=ι)(hz:UU σ 0 8 args=δ args')(ho:args'.any A.own=ε)(e:l9 ι dF dO r args' []=δ (v,[]))(hs:A.zh v=ι):l9 ι dF dO r args σ=δ (v,σ):=by unfold l9 at e ⊢;rw[ho,ZO,bA]at e;obtain⟨⟨q1,q2⟩,e1,e2⟩:=cL.1 e;simp only[Ξ]at e2;obtain⟨rfl,rfl⟩:=e2;rw[h,Bool.and_self,bR,hz];simp [e1,(anC σ.length hs).1,(anC σ.length hs).2]
theorem bf(σ:Heap)(r:U):Θ σ r σ=δ (r,σ):=by simp [Θ]
theorem Ti(σ:Heap)(n d:Nat){a:U}(h:A.qK a=ι):ZG σ n d a=δ a:=by
 cases a<;>simp only[A.qK]at h<;>first|(cases h;done)|skip
 case sl sz es=>cases es with
  |nil=>cases d<;>simp [ZG,A.iP]
  |cons _ _=>simp at h
 all_goals cases d<;>simp [ZG]
theorem anE(σ:Heap)(n d:Nat):∀{l:ay},l.all A.qK=ι->UU σ n d l=δ l
 |[],_=>by simp [UU]
 |a::l,h=>by simp only[Rq,dZ]at h;simp [UU,Ti σ n d h.1,anE σ n d h.2]
theorem Tj(σ:Heap)(n d:Nat){a:U}(h:A.pR a=ι):ZG σ n d a=δ a:=by
 unfold A.pR at h;split at h
 ·cases d<;>simp [ZG,anE σ n _ h]
 ·exact Ti σ n d h
theorem aor(σ:Heap)(n d:Nat):∀{l:ay},l.all A.pR=ι->UU σ n d l=δ l
 |[],_=>by simp [UU]
 |a::l,h=>by simp only[Rq,dZ]at h;simp [UU,Tj σ n d h.1,aor σ n d h.2]
theorem ad9(σ:Heap)(n d:Nat){a:U}(h:A.zh a=ι):ZG σ n d a=δ a:=by
 unfold A.zh at h;split at h
 ·cases d<;>simp [ZG,aor σ n _ h]
 ·exact Tj σ n d h
theorem Hr(σ bs:Heap){r:U}(h:A.zh r=ι):Θ σ r (σ++bs)=δ (r,σ):=by
 unfold Θ;split
 ·rfl
 ·rw[aG (by simp),ad9 _ _ _ h];rfl
theorem MU(σ bs:Heap)(k:IntKind)(n:Int):Θ σ (.int k n) (σ++bs)=δ (.int k n,σ):=Hr σ bs rfl
theorem T6(σ bs:Heap)(b:Bool):Θ σ (.bool b) (σ++bs)=δ (.bool b,σ):=Hr σ bs rfl
theorem UW(σ bs:Heap)(s:ByteArray):Θ σ (.str s) (σ++bs)=δ (.str s,σ):=Hr σ bs rfl
theorem an5(σ bs:Heap):Θ σ (.az []) (σ++bs)=δ (.az [],σ):=Hr σ bs rfl
theorem Jq(σ bs:Heap)(j:Nat):(σ++bs)[σ.length+j]? =bs[j]? :=by rw[jH (by omega)];congr 1;omega
theorem vk(σ bs:Heap):(σ++bs)[σ.length]? =bs[0]? :=by rw[jH (cg _),Nat.sub_self]
theorem hset(σ bs:Heap)(j:Nat)(b:bQ):(σ++bs).set (σ.length+j) b=σ++bs.set j b:=by rw[BF _ _ (by omega)];congr 2;omega
theorem IJ(σ bs:Heap)(b:bQ):(σ++bs).set σ.length b=σ++bs.set 0 b:=by rw[BF _ _ (cg _),Nat.sub_self]
section
variable {α : Type} (sz : Nat) (c : α -> ay) (l : List α)
theorem dc:ZJ (sl sz c l)=δ (.ah l.length):=by simp [sl,ZJ]
theorem oJ{k:Nat}{x:α}(h:l[k]? =δ x):Zv sz (sl sz c l) (.ah (k:Int))=δ (.rp (c x)):=by have hk:k<l.length:=(cD.1 h).1;have hx:l[k]=x:=(cD.1 h).2;simp [Zv,sl,A.idx,hk,hx]
theorem adf{i:Int}{x:α}(h0:0<=i)(h:l[i.toNat]? =δ x):Zv sz (sl sz c l) (.ah i)=δ (.rp (c x)):=by have:=oJ sz c l h;rwa[Int.toNat_of_nonneg h0]at this
end
inductive Rd (S R : Type) where
 |go(s:S)
 |out(r:R)
def Rd.el{S R γ:Type}(x:Rd S R)(f:S->γ)(g:R->γ):γ:=match x with|.go s=>f s|.out r=>g r
theorem xm{S R γ:Type}(s:S)(f:S->γ)(g:R->γ):(Rd.go s:Rd S R).el f g=f s:=rfl
theorem wZ{S R γ:Type}(r:R)(f:S->γ)(g:R->γ):(Rd.out r:Rd S R).el f g=g r:=rfl
theorem Bv{S R γ:Type}{p:Prop}[Decidable p](x y:Rd S R)(f:S->γ)(g:R->γ):(if p then x else y).el f g=if p then x.el f g else y.el f g:=by split<;>rfl
def gZ{α S R:Type}(body:List α->α->S->Rd S R):List α->List α->S->Rd S R
 |_,[],s=>.go s
 |pre,x::l,s=>match body pre x s with|.go s'=>gZ body (pre++[x]) l s'|.out r=>.out r
theorem adi{f:ay->Heap->Option (AX×ay×Heap)}{v:ay}{σ:Heap}:∀{n m:Nat}{r r':AX×ay×Heap},aoM f n v σ=δ r->aoM f m v σ=δ r'->r=r':=by
 intro n;induction n generalizing v σ with
 |zero=>intro m r r' h;cases h
 |succ n ih=>
  intro m r r' h1 h2;cases m with
  |zero=>cases h2
  |succ m=>
   simp only[aoM]at h1 h2;cases hf:f v σ with
   |none=>rw[hf]at h1;cases h1
   |some q=>
    rw[hf]at h1 h2;simp only[aB]at h1 h2;obtain⟨e,v',σ'⟩:=q;cases e with
    |normal=>exact ih h1 h2
    |exit i=>simp only at h1 h2;rw[h1]at h2;injection h2
    |ret=>simp only at h1 h2;rw[h1]at h2;injection h2
theorem yD{f:ay->Heap->Option (AX×ay×Heap)}{v:ay}{σ:Heap}{n:Nat}{r:AX×ay×Heap}(h:aoM f n v σ=δ r):Zp f v σ=δ r:=by
 have hex:∃n r,aoM f n v σ=δ r:=⟨n,r,h⟩
 unfold Zp;rw[dif_pos hex];exact congrArg δ (adi (Zx (Zx hex)) h)
theorem sY{f:ay->Heap->Option (AX×ay×Heap)}{v v':ay}{σ σ':Heap}{r:AX×ay×Heap}(h:f v σ=δ (.normal,v',σ'))(k:∃n,aoM f n v' σ'=δ r):∃n,aoM f n v σ=δ r:=by obtain⟨n,k⟩:=k;exact⟨n+1,by simp [aoM,h,k]⟩
theorem uF{f:ay->Heap->Option (AX×ay×Heap)}{v:ay}{σ:Heap}{r:AX×ay×Heap}(h:f v σ=δ r)(hr:r.1≠.normal):∃n,aoM f n v σ=δ r:=by obtain⟨e,v',σ'⟩:=r;refine⟨1,?_⟩;cases e<;>first|(simp [aoM,h];done)|exact absurd rfl hr
theorem qE{α S R γ:Type}{f:ay->Heap->Option (AX×ay×Heap)}(l:List α)(body:List α->α->S->Rd S R)(st:List α->S->ay)(hp:List α->S->Heap)
  (fin:S->AX×ay×Heap) (out:List α->S->R->AX×ay×Heap) (P:List α->S->Prop) (s0:S) {k:AX×ay×Heap->Option γ} (K1:S->Option γ) (K2:R->Option γ)
  (hstep:∀pre x rest s,l=pre++x::rest->P pre s->f (st pre s) (hp pre s)=δ ((body pre x s).el (λs'=>(.normal,st (pre++[x]) s',hp (pre++[x]) s')) (λr=>out pre s r)))
  (hend:∀s,P l s->f (st l s) (hp l s)=δ (fin s)) (h0:P [] s0)
  (hP:∀pre x rest s s',l=pre++x::rest->P pre s->body pre x s=.go s'->P (pre++[x]) s')
  (hk1:∀s,P l s->k (fin s)=K1 s) (hk2:∀pre x rest s r,l=pre++x::rest->P pre s->body pre x s=.out r->k (out pre s r)=K2 r)
  (vn:∀s,(fin s).1≠.normal:=by intros;simp) (hout:∀pre s r,(out pre s r).1≠.normal:=by intros;simp) {v:ay} {σ:Heap} (hv:v=st [] s0:=by rfl) (eI:σ=hp [] s0:=by rfl):
  (Zp f v σ).bind k=(gZ body [] l s0).el K1 K2:=by
 have key:∀(rest pre:List α)(s:S),l=pre++rest->P pre s->∃q,(∃n,aoM f n (st pre s) (hp pre s)=δ q)/\k q=(gZ body pre rest s).el K1 K2:=by
  intro rest;induction rest with
  |nil=>intro pre s hl hp';rw[Zq]at hl;subst hl;exact⟨fin s,uF (hend s hp') (vn s),by rw[gZ,xm,hk1 s hp']⟩
  |cons x rest ih=>
   intro pre s hl hp';have h:=hstep pre x rest s hl hp';rw[gZ];cases hb:body pre x s with
   |go s'=>rw[hb]at h;obtain⟨q,h1,h2⟩:=ih (pre++[x]) s' (by simpa using hl) (hP pre x rest s s' hl hp' hb);exact⟨q,sY h h1,h2⟩
   |out r=>rw[hb]at h;exact⟨out pre s r,uF h (hout pre s r),by rw[wZ,hk2 pre x rest s r hl hp' hb]⟩
 obtain⟨q,⟨n,h1⟩,h2⟩:=key l [] s0 rfl h0;rw[hv,eI,yD h1,aB,h2]
theorem GW{α:Type}{body:List α->α->Unit->Rd Unit Int}{qi:List α->List α->Int}(h0:∀pre,qi pre []=0)(h:∀pre x rest,qi pre (x::rest)=(body pre x ()).el (λ_=>qi (pre++[x]) rest) (λr=>r)) {γ:Type} (K:Int->γ):
  ∀(l pre:List α),(gZ body pre l ()).el (λ_=>K 0) K=K (qi pre l)
 |[],pre=>by rw[gZ,h0];rfl
 |x::l,pre=>by
  rw[gZ,h];cases body pre x ()with
  |go s=>exact GW h0 h K l (pre++[x])
  |out r=>rfl
theorem qH{α:Type}{l pre rest:List α}{x:α}(h:l=pre++x::rest):l[pre.length]? =δ x:=by rw[h];simp
theorem tG{α:Type}{l pre rest:List α}{x:α}(h:l=pre++x::rest):pre.length<l.length:=by rw[h];simp
theorem Ur{α:Type}{l pre rest:List α}{x:α}(h:l=pre++x::rest)(h0:0<pre.length):∃y,pre.getLast? =δ y/\l[pre.length-1]? =δ y:=by
 cases hp:pre.getLast? with
 |none=>rw[List.getLast?_eq_none_iff]at hp;subst hp;simp at h0
 |some y=>refine⟨y,rfl,?_⟩;rw[h,iK (by omega),<-hp,List.getLast?_eq_getElem?]
theorem TR{γ:Type}{p:UInt8->Bool}{f:ay->Heap->Option (AX×ay×Heap)}(s:ByteArray){σ:Heap}{k:AX×ay×Heap->Option γ}(K2:Option γ)
  (hstep:∀(i:Nat)(c:UInt8),i<s.size->A.kJ (.str s) (.ah (i:Int))=δ (.int .u8 c.toNat)->f [.bool ε,.ah (i:Int)] σ=if p c=ι then δ (.normal,[.bool ε,.ah ((i:Int)+1)],σ)else δ (.ret,[.bool ε,.ah (i:Int)],σ))
  (hend:f [.bool ε,.ah (s.size:Int)] σ=δ (.exit 0,[.bool ε,.ah (s.size:Int)],σ)) (hk2:∀i:Int,k (.ret,[.bool ε,.ah i],σ)=K2):
  (Zp f [.bool ε,.ah 0] σ).bind k=if s.data.toList.all p=ι then k (.exit 0,[.bool ε,.ah (s.size:Int)],σ)else K2:=by
 have hsz:s.data.toList.length=s.size:=rfl
 refine(qE (S:=Unit) (R:=Unit) s.data.toList (λ_ c _=>if p c=ι then .go ()else .out ()) (λpre _=>[.bool ε,.ah (pre.length:Int)]) (λ_ _=>σ) (λ_=>(.exit 0,[.bool ε,.ah (s.size:Int)],σ)) (λpre _ _=>(.ret,[.bool ε,.ah (pre.length:Int)],σ)) (λ_ _=>True) ()
  (λ_=>k (.exit 0,[.bool ε,.ah (s.size:Int)],σ)) (λ_=>K2) ?_ ?_ trivial (λ_ _ _ _ _ _ _ _=>trivial) (λ_ _=>rfl) (λ_ _ _ _ _ _ _ _=>hk2 _)).trans ?_
 ·intro pre c rest u hl _;have hlt:=tG hl;have hc:=qH hl;rw[hsz]at hlt
  have hsi:A.kJ (.str s) (.ah (pre.length:Int))=δ (.int .u8 c.toNat):=by have h2:s[pre.length]=c:=(cD.1 hc).2;simp [A.kJ,A.idx,hlt,h2]
  rw[hstep pre.length c hlt hsi];cases p c<;>simp [Rd.el]
 ·intro u _;rw[hsz];exact hend
 ·have key:∀(l pre:List UInt8),(gZ (λ(_:List UInt8)c(_:Unit)=>if p c=ι then(Rd.go ():Rd Unit Unit)else .out ()) pre l ()).el (λ_=>k (.exit 0,[.bool ε,.ah (s.size:Int)],σ)) (λ_=>K2)=if l.all p=ι then k (.exit 0,[.bool ε,.ah (s.size:Int)],σ)else K2:=by
   intro l;induction l with
   |nil=>intro pre;simp [gZ,Rd.el]
   |cons c l ih=>
    intro pre;rw[gZ];cases hc:p c
    ·simp [hc,Rd.el]
    ·simp only[if_true];rw[ih];simp [hc]
  exact key s.data.toList []
section
variable {α : Type} (g : α -> ByteArray) (gi : α -> Int) (v : α -> U)
theorem VT(k:ByteArray):∀(l:List α),Z6 .z (.str k) (l.map λx=>(ψ (g x),v x))=δ ((l.find? λx=>decide (k=g x)).map v)
 |[]=>rfl
 |x::l=>by
  simp only[dJ,Z6,X4,A.lN,aB,Ws];by_cases h:k=g x
  ·rw[bq];simp [h]
  ·rw[bq];simp [h,VT k l]
theorem VS(kk:IntKind)(k:Int):∀(l:List α),Z6 .i (.int kk k) (l.map λx=>(Ru kk (gi x),v x))=δ ((l.find? λx=>decide (k=gi x)).map v)
 |[]=>rfl
 |x::l=>by
  simp only[dJ,Z6,X4,A.jN,if_true,aB,Ws];by_cases h:k=gi x
  ·have:(k==gi x)=ι:=by simpa using h
   simp [this,h]
  ·have:(k==gi x)=ε:=by simpa using h
   simp [this,h,VS kk k l]
theorem NS{k:ByteArray}{w:U}:∀{l:List α},(∀x∈l,g x≠k)->apa .z (.str k) w (l.map λx=>(ψ (g x),v x))=δ ((l.map λx=>(ψ (g x),v x))++[(.str k,w)])
 |[],_=>rfl
 |x::l,h=>by
  have h1:(k==g x)=ε:=by rw[bq];exact gJ λe:k=g x=>h x (by simp) e.symm
  simp only[dJ,apa,X4,A.lN,aB,h1,bA];rw[NS (λy hy=>h y (by simp [hy]))];rfl
theorem NR{kk:IntKind}{k:Int}{w:U}:∀{l:List α},(∀x∈l,gi x≠k)->apa .i (.int kk k) w (l.map λx=>(Ru kk (gi x),v x))=δ ((l.map λx=>(Ru kk (gi x),v x))++[(.int kk k,w)])
 |[],_=>rfl
 |x::l,h=>by
  have h1:(k==gi x)=ε:=by simpa using λe:k=gi x=>h x (by simp) e.symm
  simp only[dJ,apa,X4,A.jN,if_true,aB,h1,bA];rw[NR (λy hy=>h y (by simp [hy]))];rfl
end
theorem wT(e:A.EK){k z:U}{σ:Heap}{id:Nat}{es:List (U×U)}(hk:A.jg e k=ι)(h:σ[id]? =δ (.map es)):Zl e (.om id) k z σ=(Z6 e k es).map λr=>r.getD z:=by simp [Zl,hk,apl,h]
theorem C8(e:A.EK){k w:U}{σ:Heap}{id:Nat}{es:List (U×U)}(hk:A.jg e k=ι)(h:σ[id]? =δ (.map es)):A.jk e (.om id) k w σ=(apa e k w es).map λes=>σ.set id (.map es):=by simp [A.jk,hk,h]
theorem Uk{α:Type}(l:List α)(x:α):(((l++[x]).length:Nat):Int)=(l.length:Int)+1:=by simp
theorem GQ{α:Type}(sz:Nat)(c:α->ay)(l:List α){k:Nat}{x:α}(h0:0<k)(h:l[k-1]? =δ x):Zv sz (sl sz c l) (.ah ((k:Int) -1))=δ (.rp (c x)):=by have:=oJ sz c l h;rwa[show((k-1:Nat):Int)=(k:Int) -1 by omega]at this
def jL{α:Type}(g:α->ByteArray)(l:List α):List (U×U):=l.map λx=>(ψ (g x),φ ι)
def nu{α:Type}(g:α->Int)(l:List α):List (U×U):=l.map λx=>(η (g x),φ ι)
theorem Mu{α:Type}(p:α->Bool):∀(l:List α),((l.find? p).map λ_=>φ ι).getD aC=φ (l.any p)
 |[]=>rfl
 |x::l=>by
  simp only[Ws,List.any_cons];cases h:p x
  ·simpa using Mu p l
  ·rfl
theorem TD{α:Type}(g:α->ByteArray)(k:ByteArray)(l:List α):(Z6 .z (.str k) (jL g l)).map (λr=>r.getD (.bool ε))=δ (.bool (gM k (l.map g))):=by unfold jL;rw[VT g (λ_=>φ ι) k l,eB,Mu];refine congrArg δ (congrArg φ ?_);rw[kg,MD];simp only[List.any_eq_true,decide_eq_true_eq,jJ];exact⟨λ⟨x,h,e⟩=>⟨x,h,e.symm⟩,λ⟨x,h,e⟩=>⟨x,h,e.symm⟩⟩
theorem Tz{α:Type}(g:α->Int)(k:Int)(l:List α):(Z6 .i (.ah k) (nu g l)).map (λr=>r.getD (.bool ε))=δ (.bool (gM k (l.map g))):=by unfold nu;rw[VS g (λ_=>φ ι) ξ k l,eB,Mu];refine congrArg δ (congrArg φ ?_);rw[kg,MD];simp only[List.any_eq_true,decide_eq_true_eq,jJ];exact⟨λ⟨x,h,e⟩=>⟨x,h,e.symm⟩,λ⟨x,h,e⟩=>⟨x,h,e.symm⟩⟩
section
variable {α : Type} (g : α -> ByteArray) (gi : α -> Int) (l : List α) (k : ByteArray) (n : Int) (σ bs : Heap) (b0 : bQ)
theorem SZ:Zl .z (.om σ.length) (.str k) (.bool ε) (σ++Z2 (jL g l)::bs)=δ (.bool (gM k (l.map g))):=by rw[wT .z rfl (by rw[vk];rfl),TD]
theorem SX:Zl .i (.om σ.length) (.ah n) (.bool ε) (σ++Z2 (nu gi l)::bs)=δ (.bool (gM n (l.map gi))):=by rw[wT .i rfl (by rw[vk];rfl),Tz]
theorem S0:Zl .z (.om (σ.length+1)) (.str k) (.bool ε) (σ++b0::Z2 (jL g l)::bs)=δ (.bool (gM k (l.map g))):=by rw[wT .z rfl (by rw[Jq];rfl),TD]
theorem SY:Zl .i (.om (σ.length+1)) (.ah n) (.bool ε) (σ++b0::Z2 (nu gi l)::bs)=δ (.bool (gM n (l.map gi))):=by rw[wT .i rfl (by rw[Jq];rfl),Tz]
theorem TF(h:gM k (l.map g)=ε):A.jk .z (.om σ.length) (.str k) (.bool ι) (σ++Z2 (jL g l)::bs)=δ (σ++Z2 (jL g l++[(.str k,.bool ι)])::bs):=by rw[C8 .z rfl (by rw[vk];rfl),jL,NS g _ (λx hx e=>GR.1 h (by rw[<-e];exact aoV hx)),eB,IJ];rfl
theorem TB(h:gM n (l.map gi)=ε):A.jk .i (.om σ.length) (.ah n) (.bool ι) (σ++Z2 (nu gi l)::bs)=δ (σ++Z2 (nu gi l++[(.ah n,.bool ι)])::bs):=by rw[C8 .i rfl (by rw[vk];rfl),nu,NR gi _ (λx hx e=>GR.1 h (by rw[<-e];exact aoV hx)),eB,IJ];rfl
theorem TG(h:gM k (l.map g)=ε):A.jk .z (.om (σ.length+1)) (.str k) (.bool ι) (σ++b0::Z2 (jL g l)::bs)=δ (σ++b0::Z2 (jL g l++[(.str k,.bool ι)])::bs):=by rw[C8 .z rfl (by rw[Jq];rfl),jL,NS g _ (λx hx e=>GR.1 h (by rw[<-e];exact aoV hx)),eB,hset];rfl
theorem TC(h:gM n (l.map gi)=ε):A.jk .i (.om (σ.length+1)) (.ah n) (.bool ι) (σ++b0::Z2 (nu gi l)::bs)=δ (σ++b0::Z2 (nu gi l++[(.ah n,.bool ι)])::bs):=by rw[C8 .i rfl (by rw[Jq];rfl),nu,NR gi _ (λx hx e=>GR.1 h (by rw[<-e];exact aoV hx)),eB,hset];rfl
end
theorem aot{α:Type}(g:α->ByteArray)(l:List α)(x:α):jL g (l++[x])=jL g l++[(.str (g x),.bool ι)]:=by simp [jL]
theorem L4(σ:Heap)(v:U):Zf (δ (v,σ)) σ=δ v:=by simp [Zf]
def Fz(a:U):Prop:=∀σ n d,ZG σ n d a=δ a
def iS(l:ay):Prop:=∀σ n d,UU σ n d l=δ l
theorem fO(k:IntKind)(n:Int):Fz (.int k n):=λ_ _ d=>by cases d<;>simp [ZG]
theorem Bn(b:Bool):Fz (.bool b):=λ_ _ d=>by cases d<;>simp [ZG]
theorem uQ(s:ByteArray):Fz (.str s):=λ_ _ d=>by cases d<;>simp [ZG]
theorem uP:Fz .aD:=λ_ _ d=>by cases d<;>simp [ZG]
theorem It{l:ay}(h:iS l):Fz (.agg l):=λσ n d=>by cases d<;>simp [ZG,h σ n]
theorem VX{l:ay}(h:iS l):Fz (.az l):=λσ n d=>by cases d<;>simp [ZG,h σ n]
theorem nZ:iS []:=λ_ _ _=>by simp [UU]
theorem cS{a:U}{l:ay}(h:Fz a)(k:iS l):iS (a::l):=λσ n d=>by simp [UU,h σ n d,k σ n d]
theorem xq{α:Type}{sz:Nat}{c:α->ay}(h:∀x,iS (c x))(l:List α):Fz (sl sz c l):=by
 intro σ n d
 have:A.iP σ n d (l.map c)=δ (l.map c):=by
  induction l with
  |nil=>simp [A.iP]
  |cons x l ih=>simp [A.iP,h x σ n d,ih]
 cases d<;>simp [sl,ZG,this]
theorem OF{α:Type}{c:α->ay}(h:∀x,iS (c x))(l:List α)(σ:Heap)(n d:Nat):A.iP σ n d (l.map c)=δ (l.map c):=by
 induction l with
 |nil=>simp [A.iP]
 |cons x l ih=>simp [A.iP,h x σ n d,ih]
theorem VQ{σ:Heap}(bs:Heap){r:U}(h:Fz r):Θ σ r (σ++bs)=δ (r,σ):=by
 unfold Θ;split
 ·rfl
 ·rw[aG (by simp),h];rfl
def gn{α:Type}(id sz:Nat)(l:List α):U:=if l=[]then .aD else .os id l.length sz 0 l.length
def gO{α:Type}(sz:Nat)(c:α->ay)(l:List α):Heap:=if l=[]then[]else[.arr l.length sz (l.map c)]
theorem MF{α:Type}(sz:Nat)(c:α->ay):gO sz c []=[]:=rfl
theorem L2{α:Type}{sz most:Nat}(c:α->ay)(l:List α)(x:α)(σ:Heap)(h:l.length+1<=most):SI sz most (gn σ.length sz l) (.sl sz [c x]) (σ++gO sz c l)=δ (gn σ.length sz (l++[x]),σ++gO sz c (l++[x])):=by
 unfold gn gO;cases l with
 |nil=>
  have h1:1<=most:=by simpa using h
  simp [SI,A.qG,aoZ,h1]
 |cons y l=>
  have h1:l.length+1+1<=most:=by simpa using h
  simp [SI,A.qG,aoZ,h1,vk,IJ,gf,rU]
theorem afF{α:Type}{sz:Nat}{c:α->ay}(hc:∀x,iS (c x))(l:List α)(σ:Heap)(d:Nat):ZG (σ++gO sz c l) σ.length (d+1) (gn σ.length sz l)=δ (if l=[]then .aD else sl sz c l):=by
 unfold gn gO;split
 ·simp [ZG]
 ·rename_i hl;simp only[ZG,Nat.lt_irrefl,if_false,vk,SD];rw[aG (by simp)];have e:(List.take l.length (List.drop 0 (l.map c)))=l.map c:=by simp [rU]
  rw[e,Bb,OF hc];rfl
theorem ad3{α:Type}{sz:Nat}{c:α->ay}(hc:∀x,iS (c x))(l:List α)(k:IntKind)(n:Int)(σ:Heap):Θ σ (.az [gn σ.length sz l,.int k n]) (σ++gO sz c l)=δ (.az [if l=[]then .aD else sl sz c l,.int k n],σ):=by
 unfold Θ;split
 ·rename_i h;have:gO sz c l=[]:=by simpa using h
  have hl:l=[]:=by
   unfold gO at this;split at this
   ·assumption
   ·cases this
  subst hl;rfl
 ·rw[aG (by simp)]
  have:ZG (σ++gO sz c l) σ.length 8 (.az [gn σ.length sz l,.int k n])=δ (.az [if l=[]then .aD else sl sz c l,.int k n]):=by simp only[ZG,UU,afF hc,fO k n _ _ _,aB,eB]
  rw[this];rfl
theorem agw{α:Type}(sz:Nat)(c:α->ay)(l:List α):V3 (.s sz) (if l=[]then .aD else sl sz c l)=sl sz c l:=by
 split
 ·rename_i h;subst h;rfl
 ·rfl
def uc{α:Type}(p:α->Bool)(l:List α):Int:=match l.findIdx? p with|some i=>i|none=>-1
theorem LW{α:Type}(p:α->Bool)(l:List α):(uc p l=-1/\(∀x∈l,p x=ε)/\l.find? p=μ)\/∃(k:Nat)(x:α),l[k]? =δ x/\p x=ι/\uc p l=k/\l.find? p=δ x/\∀(j:Nat)(y:α),j<k->l[j]? =δ y->p y=ε:=by
 induction l with
 |nil=>left;exact⟨rfl,by simp,rfl⟩
 |cons x l ih=>
  cases h:p x
  ·rcases ih with⟨h1,h2,h3⟩|⟨k,y,h1,h2,h3,h4,h5⟩
   ·left;refine⟨?_,?_,?_⟩
    ·unfold uc at h1 ⊢;rw[ao7,h];cases hf:l.findIdx? p with
     |none=>simp
     |some i=>rw[hf]at h1;simp at h1
    ·intro y hy;rcases dW.1 hy with rfl|hy
     ·exact h
     ·exact h2 y hy
    ·simp [Ws,h,h3]
   ·right;refine⟨k+1,y,by simpa using h1,h2,?_,by simp [Ws,h,h4],?_⟩
    ·unfold uc at h3 ⊢;rw[ao7,h];cases hf:l.findIdx? p with
     |none=>rw[hf]at h3;simp at h3
     |some i=>rw[hf]at h3;simp at h3 ⊢;omega
    ·intro j z hj hz;cases j with
     |zero=>simp at hz;subst hz;exact h
     |succ j=>exact h5 j z (by omega) (by simpa using hz)
  ·right;refine⟨0,x,rfl,h,?_,by simp [Ws,h],by intro j y hj;omega⟩;unfold uc;rw[ao7,h];rfl
theorem anw{α:Type}{γ:Type}(p:α->Bool)(K1:Option γ)(K2:Int->Option γ):∀(l pre:List α),(∀x∈pre,p x=ε)->(gZ (λpre x(_:Unit)=>if p x=ι then(Rd.out (pre.length:Int):Rd Unit Int)else .go ()) pre l ()).el (λ_=>K1) K2=if uc p (pre++l)=-1 then K1 else K2 (uc p (pre++l))
 |[],pre,h=>by
  have:uc p (pre++[])=-1:=by
   rcases LW p (pre++[])with h1|⟨k,x,h1,h2,_⟩
   ·exact h1.1
   ·have:=h x (by have:=cW h1;simpa using this);rw[h2]at this;cases this
  rw[gZ,xm,aG this]
 |x::l,pre,h=>by
  rw[gZ];cases hx:p x
  ·simp only[n5,if_false]
   have:=anw p K1 K2 l (pre++[x]) (λy hy=>by
    rcases ga.1 hy with hy|hy
    ·exact h y hy
    ·simp at hy;subst hy;exact hx)
   simpa using this
  ·simp only[if_true,wZ]
   have:uc p (pre++x::l)=pre.length:=by
    rcases LW p (pre++x::l)with h1|⟨k,y,h1,h2,h3,_,h5⟩
    ·have:=h1.2.1 x (by simp);rw[hx]at this;cases this
    ·rw[h3];rcases Nat.lt_trichotomy k pre.length with hk|hk|hk
     ·rw[iK hk]at h1;have:=h y (cW h1);rw[h2]at this;cases this
     ·omega
     ·have:=h5 pre.length x hk (by simp);rw[hx]at this;cases this
   rw[this,aE (by omega)]
theorem Ux{α R γ:Type}(p:α->Bool)(r:R)(K1:Unit->γ)(K2:R->γ):∀(l pre:List α),(gZ (λ_ x(_:Unit)=>if p x=ι then(Rd.out r:Rd Unit R)else .go ()) pre l ()).el K1 K2=if l.any p=ι then K2 r else K1 ()
 |[],pre=>by simp [gZ,Rd.el]
 |x::l,pre=>by
  rw[gZ];cases h:p x
  ·simp only[n5,if_false];rw[Ux p r K1 K2 l (pre++[x])];simp [h]
  ·simp [h,Rd.el]
theorem aol(l:List Int)(n:Int):nu id l++[(.ah n,.bool ι)]=nu id (l++[n]):=by simp [nu]
theorem adp{κ:Type}[DecidableEq κ](k x:κ)(S:List κ):gM k (S++[x])=(gM k S||decide (x=k)):=by simp [gM]
theorem ng{α:Type}{sz:Nat}{c:α->ay}{sh:List Sh}(h:∀x,VD sh (c x)=c x)(l:List α):V3 (.e sz sh) (sl sz c l)=sl sz c l:=by simp only[sl,V3,List.map_map];congr 1;exact Ub λx _=>h x
theorem afz(sz:Nat)(sh:List Sh):V3 (.e sz sh) .aD=.sl sz []:=by simp [V3]
theorem Um{α γ:Type}{f:ay->Heap->Option (AX×ay×Heap)}(l:List α)(p:α->Bool)(vs:Nat->ay)(σ:Heap)(fin:AX×ay×Heap)(ret:Nat->AX×ay×Heap){k:AX×ay×Heap->Option γ}(K1 K2:Option γ)
  (hstep:∀(i:Nat)(x:α),l[i]? =δ x->f (vs i) σ=if p x=ι then δ (ret i)else δ (.normal,vs (i+1),σ)) (hend:f (vs l.length) σ=δ fin) (hk1:k fin=K1) (hk2:∀i,k (ret i)=K2)
  (vn:fin.1≠.normal:=by simp) (DT:∀i,(ret i).1≠.normal:=by intros;simp) {v:ay} {σ':Heap} (hv:v=vs 0:=by rfl) (eI:σ'=σ:=by rfl):
  (Zp f v σ').bind k=if l.any p=ι then K2 else K1:=by
 subst hv eI
 refine(qE (S:=Unit) (R:=Unit) l (λ_ x _=>if p x=ι then .out ()else .go ()) (λpre _=>vs pre.length) (λ_ _=>σ') (λ_=>fin) (λpre _ _=>ret pre.length) (λ_ _=>True) () (λ_=>K1) (λ_=>K2)
  ?_ (λ_ _=>hend) trivial (λ_ _ _ _ _ _ _ _=>trivial) (λ_ _=>hk1) (λ_ _ _ _ _ _ _ _=>hk2 _) (λ_=>vn) (λ_ _ _=>DT _)).trans (Ux p () _ _ l [])
 intro pre x rest u hl _;rw[hstep pre.length x (qH hl)];cases p x<;>simp [Rd.el]
theorem Uh{α:Type}(sz:Nat)(c:α->ay){l:List α}{k:Nat}{x:α}(h:l[k]? =δ x):Zv sz (sl sz c l) (.ah (k:Int))=δ (.rp (c x))/\(k:Int)<(l.length:Int)/\(l.length<=cz->ξ.wrap ((k:Int)+1)=(k:Int)+1):=
 ⟨oJ sz c l h,by have:=(cD.1 h).1;omega,λhl=>dh (by have:=(cD.1 h).1;unfold aR;unfold cz at hl;omega)⟩
theorem adk{α γ:Type}{f:ay->Heap->Option (AX×ay×Heap)}(l:List α)(p:α->Bool)(vs:Nat->ay)(σ:Heap)(fin:AX×ay×Heap)(ret:Nat->α->AX×ay×Heap){k:AX×ay×Heap->Option γ}(K1:Option γ)(K2:α->Option γ)
  (hstep:∀(i:Nat)(x:α),l[i]? =δ x->f (vs i) σ=if p x=ι then δ (ret i x)else δ (.normal,vs (i+1),σ)) (hend:f (vs l.length) σ=δ fin) (hk1:k fin=K1) (hk2:∀i x,k (ret i x)=K2 x)
  (vn:fin.1≠.normal:=by simp) (DT:∀i x,(ret i x).1≠.normal:=by intros;simp) {v:ay} {σ':Heap} (hv:v=vs 0:=by rfl) (eI:σ'=σ:=by rfl):
  (Zp f v σ').bind k=(l.find? p).elim K1 K2:=by
 subst hv eI
 have run:∀(l pre:List α),(gZ (λ_ x(_:Unit)=>if p x=ι then(Rd.out x:Rd Unit α)else .go ()) pre l ()).el (λ_=>K1) K2=(l.find? p).elim K1 K2:=by
  intro l;induction l with
  |nil=>intro pre;rfl
  |cons x l ih=>
   intro pre;rw[gZ];cases h:p x
   ·simp only[n5,if_false];rw[ih,List.find?_cons,h]
   ·simp [h,Rd.el]
 refine(qE (S:=Unit) (R:=α) l (λ_ x _=>if p x=ι then .out x else .go ()) (λpre _=>vs pre.length) (λ_ _=>σ') (λ_=>fin) (λpre _ x=>ret pre.length x) (λ_ _=>True) () (λ_=>K1) K2
  ?_ (λ_ _=>hend) trivial (λ_ _ _ _ _ _ _ _=>trivial) (λ_ _=>hk1) (λ_ _ _ _ _ _ _ _=>hk2 _ _) (λ_=>vn) (λ_ _ _=>DT _ _)).trans (run l [])
 intro pre x rest u hl _;rw[hstep pre.length x (qH hl)];cases p x<;>simp [Rd.el]
theorem Be{α:Type}(n:Int)(B:U->Option α)(s:Option α):((ZS (.ah n) (.ah n)).bind λx=>Γ x (B x) s)=s:=by simp only[BG,Zu,aB,decide_false,cF]
section
variable {α β : Type}
theorem acW{c c':U}(h:c=c')(t e:Option α):Γ c t e=Γ c' t e:=by rw[h]
theorem ab8{c c':U}(h:c=c')(w:Bool)(e d:Option α):θ c w e d=θ c' w e d:=by rw[h]
theorem acR{x y:Option α}(h:x=y)(f:α->Option β):x.bind f=y.bind f:=by rw[h]
attribute [congr] acW ab8 acR
end
theorem aQ:type_of% @aB.{0,0}/\type_of% @eB.{0,0}/\type_of% @cT/\type_of% @cF/\type_of% @Yt/\type_of% @Yr/\type_of% @aoA/\type_of% @Yp/\type_of% @gN/\type_of% @pT/\type_of% @pF/\type_of% @bR.{1}/\type_of% @bA.{1}/\type_of% @xN/\type_of% @NX/\type_of% @N0/\type_of% @Xd/\type_of% @BG/\type_of% @NZ/\type_of% @NY/\type_of% @Xc/\type_of% @WB/\type_of% @WA/\type_of% @Wy/\type_of% @Wx/\type_of% @eG/\type_of% @fC/\type_of% @kW/\type_of% @pX/\type_of% @Xe/\type_of% @WC/\type_of% @aon/\type_of% @Wt/\type_of% @Wu/\type_of% @aoo/\type_of% @Ww/\type_of% @anB/\type_of% @Yj/\type_of% @Wz/\type_of% @Yg/\type_of% @Yf/\type_of% @Yh/\type_of% @Xb/\type_of% @QO/\type_of% @Yu/\type_of% @Yv/\type_of% @Yw/\type_of% @Yx/\type_of% @Yy/\type_of% @Yz/\type_of% @anV/\type_of% @anG/\type_of% @YC/\type_of% @bf/\type_of% @MU/\type_of% @T6/\type_of% @UW/\type_of% @an5/\type_of% @dc/\type_of% @ite_true.{1}/\type_of% @ite_false.{1}/\type_of% @if_true.{1}/\type_of% @if_false.{1}/\type_of% @n5/\type_of% @not_true_eq_false/\type_of% @not_false_eq_true/\type_of% @decide_true/\type_of% @decide_false/\type_of% @AV/\type_of% @Zy/\type_of% @rR.{0}/\type_of% @iA.{0}/\type_of% @ZH.{0}/\type_of% @apf.{0}/\type_of% @Vn/\type_of% @Vo/\type_of% @Uk/\type_of% @Int.natCast_add/\type_of% @Int.cast_ofNat_Int/\type_of% @L4/\type_of% @xm/\type_of% @wZ/\type_of% @Bv/\type_of% @SZ/\type_of% @SX/\type_of% @S0/\type_of% @SY/\type_of% @aot/\type_of% @TF/\type_of% @TB/\type_of% @TG/\type_of% @TC/\type_of% @true_and/\type_of% @and_true/\type_of% @false_and/\type_of% @and_false/\type_of% @true_or/\type_of% @or_true/\type_of% @false_or/\type_of% @or_false/\type_of% @ZY.{0}/\type_of% @ZZ.{0}/\type_of% @p5.{0}/\type_of% @n9.{0}/\type_of% @Zh.{0}/\type_of% @ZP/\type_of% @aps:=
 ⟨@aB.{0,0},@eB.{0,0},@cT,@cF,@Yt,@Yr,@aoA,@Yp,@gN,@pT,@pF,@bR.{1},@bA.{1},@xN,@NX,@N0,@Xd,@BG,@NZ,@NY,@Xc,@WB,@WA,@Wy,@Wx,@eG,@fC,@kW,@pX,@Xe,@WC,@aon,@Wt,@Wu,@aoo,@Ww,@anB,@Yj,@Wz,@Yg,@Yf,@Yh,@Xb,@QO,@Yu,@Yv,@Yw,@Yx,@Yy,@Yz,@anV,@anG,@YC,@bf,@MU,@T6,@UW,@an5,@dc,@ite_true.{1},@ite_false.{1},@if_true.{1},@if_false.{1},@n5,@not_true_eq_false,@not_false_eq_true,@decide_true,@decide_false,@AV,@Zy,@rR.{0},@iA.{0},@ZH.{0},@apf.{0},@Vn,@Vo,@Uk,@Int.natCast_add,@Int.cast_ofNat_Int,@L4,@xm,@wZ,@Bv,@SZ,@SX,@S0,@SY,@aot,@TF,@TB,@TG,@TC,@true_and,@and_true,@false_and,@and_false,@true_or,@or_true,@false_or,@or_false,@ZY.{0},@ZZ.{0},@p5.{0},@n9.{0},@Zh.{0},@ZP,@aps⟩
end
open Rd renaming el->apn
theorem ac9(x:eA):iS (cx x):=(cS (fO _ _) (cS (fO _ _) nZ))
theorem ada(x:lX):iS (lz x):=(cS (fO _ _) (cS (fO _ _) (cS (uQ _) nZ)))
theorem ac8(x:iu):iS (jf x):=(cS (uQ _) (cS (fO _ _) (cS (fO _ _) (cS (fO _ _) (cS (fO _ _) (cS (Bn _) (cS (xq ada _) nZ)))))))
theorem abz(x:dG):iS (fI x):=(cS (uQ _) (cS (fO _ _) (cS (xq ac8 _) nZ)))
theorem aeb(x:fS):iS (gH x):=(cS (fO _ _) (cS (uQ _) (cS (fO _ _) (cS (fO _ _) nZ))))
theorem aff(x:ef):iS (cR x):=(cS (xq abz _) (cS (xq aeb _) nZ))
theorem U3(x:au):iS (cB x):=(cS (fO _ _) (cS (uQ _) nZ))
theorem abA(x:rD):iS (qD x):=(cS (fO _ _) (cS (uQ _) (cS (fO _ _) nZ)))
theorem ab7(x:fY):iS (gT x):=(cS (fO _ _) (cS (uQ _) (cS (xq abA _) nZ)))
theorem aea(x:aJ):iS (aW x):=(cS (fO _ _) (cS (uQ _) (cS (fO _ _) (cS (fO _ _) (cS (Bn _) (cS (Bn _) (cS (fO _ _) (cS (fO _ _) nZ))))))))
def xy:List ay->Option (List UInt8)
 |[]=>δ []
 |[.int ξ u,.str p,.int ξ l,.int ξ q,.bool r,.bool t,.int ξ d,.int ξ m]::rest=>
  match KE [.agg [.int ξ u,.str p,.int ξ l,.int ξ q,.bool r,.bool t,.int ξ d,.int ξ m]] []with
  |some (.str s,[])=>(xy rest).map (lZ s++·)
  |_=>μ
 |_::_=>μ
def yS:List ay->Option (List UInt8)
 |[]=>δ []
 |[.int ξ n,.str t,.int ξ d,.int ξ u,.int ξ w,.int ξ o,.int ξ k,.sl 2 ps,.bool b,.int ξ f,.sl 8 ms]::rest=>
  match KR [.agg [.int ξ n,.str t,.int ξ d,.int ξ u,.int ξ w,.int ξ o,.int ξ k,.sl 2 ps,.bool b,.int ξ f,.sl 8 ms]] []with
  |some (.str s,[])=>if ms.length<=cz then(xy ms).bind λa=>(yS rest).map λb=>lZ s++(a++b)else μ
  |_=>μ
 |_::_=>μ
def zk (e:Int) (es:List ay):aL:=
 if e=0 then(yS es).bind λt=>if t.length<=600000 then δ (.az [.str (bZ t),.int ξ 0],[])else if t.length<=140737488355328 then δ (.az [.str ⟨#[]⟩,.int ξ 2],[])else μ
 else δ (.az [.str ⟨#[]⟩,.int ξ e],[])
def uE:ay->Heap->aL:=A.nA λr ps l σ=>match σ,r,l with
 |[],.agg [.sl 3 us,.sl 4 gs],.sl 11 es=>(AD [.agg [.sl 3 us,.sl 4 gs],ps,.sl 11 es] []).bind λq=>match q with
  |(.int ξ e,[])=>if es.length<=cz then zk e es else μ
  |_=>μ
 |_,_,_=>μ
section
def Lb (a0 a1:U) (σ:Heap):aL:=(Φ 11 a0).bind λc1=>(Φ 11 a1).bind λc2=>(Ω 0 c1).bind λx3=>(Ω 0 c2).bind λx4=>(p4 .i x3 x4).bind λx5=>(θ x5 ι (Ω 1 c1) aq).bind λx6=>(θ x5 ι (Ω 1 c2) aq).bind λx7=>(θ x5 ι (p4 .z x6 x7) aq).bind λx8=>(ir x5 x8 aC).bind λx9=>(θ x9 ι (Ω 2 c1) aq).bind λbO=>(θ x9 ι (Ω 2 c2) aq).bind λbB=>(θ x9 ι (p4 .i bO bB) aq).bind λbP=>(ir x9 bP aC).bind λbU=>(θ bU ι (Ω 3 c1) aq).bind λcr=>(θ bU ι (Ω 3 c2) aq).bind λct=>(θ bU ι (p4 .i cr ct) aq).bind λcq=>(ir bU cq aC).bind λdw=>(θ dw ι (Ω 4 c1) aq).bind λcU=>(θ dw ι (Ω 4 c2) aq).bind λcE=>(θ dw ι (p4 .i cU cE) aq).bind λcK=>(ir dw cK aC).bind λbK=>(θ bK ι (Ω 5 c1) aq).bind λbV=>(θ bK ι (Ω 5 c2) aq).bind λcQ=>(θ bK ι (p4 .i bV cQ) aq).bind λdM=>(ir bK dM aC).bind λdQ=>(θ dQ ι (Ω 8 c1) aq).bind λdS=>(θ dQ ι (Ω 8 c2) aq).bind λcZ=>(θ dQ ι (p4 .b dS cZ) aq).bind λfH=>(ir dQ fH aC).bind λeU=>(θ eU ι (Ω 9 c1) aq).bind λeD=>(θ eU ι (Ω 9 c2) aq).bind λgS=>(θ eU ι (p4 .i eD gS) aq).bind λgF=>(ir eU gF aC).bind λeL=>(θ eL ι (Ω 6 c1) aq).bind λeM=>(θ eL ι (Ω 6 c2) aq).bind λcI=>(θ eL ι (p4 .i eM cI) aq).bind λgB=>(ir eL gB aC).bind λdU=>(θ dU ι (Ω 7 c1) aq).bind λfM=>(θ dU ι (Ω 7 c2) aq).bind λey=>(θ dU ι (Zf (J1 [fM,ey] σ) σ) aq).bind λfk=>(ir dU fk aC).bind λfu=>(θ fu ι (Ω 10 c1) aq).bind λia=>(θ fu ι (Ω 10 c2) aq).bind λgr=>(θ fu ι (Zf (J3 [ia,gr] σ) σ) aq).bind λgu=>(ir fu gu aC).bind λfX=>Θ σ fX σ
def wM:ay->Heap->aL:=l9 ι [(.a sj),(.a sj)] .k (Sv Lb)
def GC (a0 a1:U) (σ:Heap):aL:=(Gi (aoQ (λ_ _=>μ) [(201,wM)]) [a0,a1,(U.fn 201 [])] σ).bind λr1=>Θ σ r1.1 r1.2
def KP:ay->Heap->aL:=l9 ι [(.e 11 sj),(.e 11 sj)] .k (Sv GC)
def Cq (a0 a1 a2:U) (σ:Heap):aL:=(Φ 2 a0).bind λc1=>(p9 0 2 c1).bind λx2=>(uE [x2,a1,a2] σ).bind λr3=>(j0 0 r3.1).bind λx4=>(j0 1 r3.1).bind λx5=>(Lu .i x5 (η 0)).bind λx6=>Γ x6 ((p4 .z x4 aV).bind λx7=>Θ σ x7 r3.2) ((p9 0 2 c1).bind λx8=>(LY [x8,a1,x4] r3.2).bind λr9=>(j0 0 r9.1).bind λbO=>(j0 1 r9.1).bind λbB=>(j0 2 r9.1).bind λbP=>(p4 .i bP (η 0)).bind λbU=>(θ bU ι (δ bO) aq).bind λcr=>(θ bU ι (δ a2) aq).bind λct=>(θ bU ι (Zf (KP [cr,ct] r9.2) r9.2) aq).bind λcq=>(ir bU cq aC).bind λdw=>Θ σ dw r9.2)
def Rm:ay->Heap->aL:=l9 ι [(.a [(.e 3 vE),(.s 4)]),(.e 3 [.k,.k,(.s 3)]),(.e 11 sj)] .k (A.nA Cq)
end
section
open Go.RowKit
theorem iJ.same{P:Program}{nm:List Nat}{f:FuncId}{args:ay}{σ:Heap}{r:U}(hc:∀us w,(callFunc f us).run P w=.ok (.enter f us) w)
  (h:∀(c:RC)(vs:Array Value)(w:World),aF c args vs.toList->Calls P f vs w λe w'=>∃v,e=.returned v/\Below w.heap.size w w'/\∀c',an c' r v):iJ P nm f args σ r σ:=by
 refine .inl ⟨f,hc,λz vs e1 e2 hh ha=>(h _ vs z.w ha).mono ?_⟩;rintro e w' ⟨v,k1,k2,k3⟩;have ho:Out z z.w z.E:=⟨rfl,rfl,rfl,cg _,λ_ _ _=>rfl,λi p hp=>.inr ⟨p,hp,rfl⟩,λi p hp=>⟨p,hp,.inl rfl⟩,e2,λp hp=>hh.lt hp⟩
 exact⟨v,z.E,k1,ho.grow k2,hh.mono (nX k2) rfl (λp hp=>k2.block _ (hh.lt hp)),k3 _⟩
theorem W0{c:RC}{a:U}{vs:Array Value}(h:aF c [a] vs.toList):∃v,vs=#[v]/\an c a v:=by simp only[aF]at h;obtain⟨v,vs',e,h1,e2⟩:=h;refine⟨v,?_,h1⟩;subst e2;cases vs;simp at e;simp [e]
theorem yV{c:RC}{a b:U}{vs:Array Value}(h:aF c [a,b] vs.toList):∃v u,vs=#[v,u]/\an c a v/\an c b u:=by simp only[aF]at h;obtain⟨v,vs',e,h1,u,vs2,e2,h2,e3⟩:=h;refine⟨v,u,?_,h1,h2⟩;subst e3;subst e2;cases vs;simp at e;simp [e]
theorem RB:Sound Tryz.prog aX 98 Gq:=by
 intro args σ r σ' h;unfold Gq Sv at h;split at h
 ·simp only at h;split at h
  ·simp only[χ,Ξ]at h;obtain⟨rfl,rfl⟩:=h;refine iJ.same Tryz.call98 λc vs w hr=>?_
   obtain⟨v,u,rfl,h1,h2⟩:=yV hr;simp only[an]at h1 h2;subst h1 h2;refine(Tryz.strings_Compare _ _ w).mono ?_;rintro e w' ⟨rfl,rfl⟩;exact⟨_,rfl,Below.refl _ _,λc'=>by simp [an]⟩
  ·cases h
 ·cases h
end
section
open Go.RowKit Go.Sort
theorem iJ.tab{P:Program}{nm:List Nat}{f:FuncId}{args:ay}{σ:Heap}{r:U}(hc:∀us w,(callFunc f us).run P w=.ok (.enter f us) w)
  (h:∀(c:RC)(vs:Array Value)(w:World)(free:Nat->Prop),tP w free->aF c args vs.toList->Calls P f vs w λe w'=>∃v,e=.returned v/\Below w.heap.size w w'/\∀c',an c' r v):iJ P nm f args σ r σ:=by
 refine .inl ⟨f,hc,λz vs e1 e2 hh ha=>(h _ vs z.w _ e2.tab ha).mono ?_⟩;rintro e w' ⟨v,k1,k2,k3⟩;have ho:Out z z.w z.E:=⟨rfl,rfl,rfl,cg _,λ_ _ _=>rfl,λi p hp=>.inr ⟨p,hp,rfl⟩,λi p hp=>⟨p,hp,.inl rfl⟩,e2,λp hp=>hh.lt hp⟩
 exact⟨v,z.E,k1,ho.grow k2,hh.mono (nX k2) rfl (λp hp=>k2.block _ (hh.lt hp)),k3 _⟩
theorem AI:Sound Tryz.prog aX 39 nQ:=by
 intro args σ r σ' h;unfold nQ Tu at h;split at h
 ·simp only at h;split at h
  ·split at h
   ·rename_i hb;simp only[χ,Ξ]at h;obtain⟨rfl,rfl⟩:=h;refine iJ.tab Tryz.call39 λc vs w free ht hr=>?_
    obtain⟨v,rfl,h1⟩:=W0 hr;simp only[an]at h1;subst h1;refine(Tryz.strconv_Itoa _ hb.1 hb.2 w ht.pow).mono ?_;rintro e w' ⟨rfl,j,os,rfl⟩;exact⟨_,rfl,⟨rfl,rfl,rfl,by simp [grow,apo],λk hk=>by simp [grow,apo,Array.getElem?_append,hk]⟩,λc'=>by simp [an,ke]⟩
   ·cases h
  ·cases h
 ·cases h
end
section
open Go.RowKit
def Gr(w w':World):Prop:=Below w.heap.size w w'
theorem Gr.refl(w:World):Gr w w:=Below.refl _ _
theorem Gr.trans{a b c:World}(h:Gr a b)(k:Gr b c):Gr a c:=Below.trans h (Below.mono k (Below.size h))
theorem Gr.alloc{a b:World}(h:Gr a b)(o:Obj):Gr a (b.alloc o):=Below.alloc h (Below.size h) o
theorem Gr.drew{a b:World}(h:Gr a b):Gr a b.drew:=Below.drew h
theorem Gr.drewN{a b:World}(h:Gr a b)(n:Nat):Gr a (b.drewN n):=⟨h.os,h.tape,h.output,h.size,h.block⟩
theorem Gr.put{a b:World}{k o:Nat}(hp:a.heap.size<=k)(h:Gr a b)(u:Value):Gr a (b.setCell ⟨k,o,μ⟩ u):=Below.setCell h hp u
theorem Gr.after{a b c:World}(k:Gr b c)(h:Gr a b):Gr a c:=h.trans k
theorem Gr.cell{a b:World}(h:Gr a b){p:Addr}{v:Value}(hc:a.cell? p=δ v):b.cell? p=δ v:=by
 by_cases hp:p.block<a.heap.size
 ·rw[Below.cell h hp];exact hc
 ·have:a.heap[p.block]? =μ:=ao8 (by omega);simp [RD,this]at hc
abbrev amt(w:World)(b:Nat)(v0:Value):Prop:=(w.cell? ⟨b,0,μ⟩=δ v0)/\(w.frozen? ⟨b,0,μ⟩=ε)/\b<w.heap.size
abbrev amu(w:World)(b:Nat)(v0 v1:Value):Prop:=(w.cell? ⟨b,0,μ⟩=δ v0/\w.cell? ⟨b,1,μ⟩=δ v1)/\(w.frozen? ⟨b,0,μ⟩=ε/\w.frozen? ⟨b,1,μ⟩=ε)/\b<w.heap.size
abbrev amv(w:World)(b:Nat)(v0 v1 v2:Value):Prop:=(w.cell? ⟨b,0,μ⟩=δ v0/\w.cell? ⟨b,1,μ⟩=δ v1/\w.cell? ⟨b,2,μ⟩=δ v2)/\(w.frozen? ⟨b,0,μ⟩=ε/\w.frozen? ⟨b,1,μ⟩=ε/\w.frozen? ⟨b,2,μ⟩=ε)/\b<w.heap.size
abbrev amw(w:World)(b:Nat)(v0 v1 v2 v3:Value):Prop:=(w.cell? ⟨b,0,μ⟩=δ v0/\w.cell? ⟨b,1,μ⟩=δ v1/\w.cell? ⟨b,2,μ⟩=δ v2/\w.cell? ⟨b,3,μ⟩=δ v3)/\(w.frozen? ⟨b,0,μ⟩=ε/\w.frozen? ⟨b,1,μ⟩=ε/\w.frozen? ⟨b,2,μ⟩=ε/\w.frozen? ⟨b,3,μ⟩=ε)/\b<w.heap.size
abbrev amx(w:World)(b:Nat)(v0 v1 v2 v3 v4:Value):Prop:=(w.cell? ⟨b,0,μ⟩=δ v0/\w.cell? ⟨b,1,μ⟩=δ v1/\w.cell? ⟨b,2,μ⟩=δ v2/\w.cell? ⟨b,3,μ⟩=δ v3/\w.cell? ⟨b,4,μ⟩=δ v4)/\(w.frozen? ⟨b,0,μ⟩=ε/\w.frozen? ⟨b,1,μ⟩=ε/\w.frozen? ⟨b,2,μ⟩=ε/\w.frozen? ⟨b,3,μ⟩=ε/\w.frozen? ⟨b,4,μ⟩=ε)/\b<w.heap.size
abbrev amy(w:World)(b:Nat)(v0 v1 v2 v3 v4 v5:Value):Prop:=(w.cell? ⟨b,0,μ⟩=δ v0/\w.cell? ⟨b,1,μ⟩=δ v1/\w.cell? ⟨b,2,μ⟩=δ v2/\w.cell? ⟨b,3,μ⟩=δ v3/\w.cell? ⟨b,4,μ⟩=δ v4/\w.cell? ⟨b,5,μ⟩=δ v5)/\(w.frozen? ⟨b,0,μ⟩=ε/\w.frozen? ⟨b,1,μ⟩=ε/\w.frozen? ⟨b,2,μ⟩=ε/\w.frozen? ⟨b,3,μ⟩=ε/\w.frozen? ⟨b,4,μ⟩=ε/\w.frozen? ⟨b,5,μ⟩=ε)/\b<w.heap.size
abbrev amz(w:World)(b:Nat)(v0 v1 v2 v3 v4 v5 v6:Value):Prop:=(w.cell? ⟨b,0,μ⟩=δ v0/\w.cell? ⟨b,1,μ⟩=δ v1/\w.cell? ⟨b,2,μ⟩=δ v2/\w.cell? ⟨b,3,μ⟩=δ v3/\w.cell? ⟨b,4,μ⟩=δ v4/\w.cell? ⟨b,5,μ⟩=δ v5/\w.cell? ⟨b,6,μ⟩=δ v6)/\(w.frozen? ⟨b,0,μ⟩=ε/\w.frozen? ⟨b,1,μ⟩=ε/\w.frozen? ⟨b,2,μ⟩=ε/\w.frozen? ⟨b,3,μ⟩=ε/\w.frozen? ⟨b,4,μ⟩=ε/\w.frozen? ⟨b,5,μ⟩=ε/\w.frozen? ⟨b,6,μ⟩=ε)/\b<w.heap.size
abbrev amA(w:World)(b:Nat)(v0 v1 v2 v3 v4 v5 v6 v7:Value):Prop:=(w.cell? ⟨b,0,μ⟩=δ v0/\w.cell? ⟨b,1,μ⟩=δ v1/\w.cell? ⟨b,2,μ⟩=δ v2/\w.cell? ⟨b,3,μ⟩=δ v3/\w.cell? ⟨b,4,μ⟩=δ v4/\w.cell? ⟨b,5,μ⟩=δ v5/\w.cell? ⟨b,6,μ⟩=δ v6/\w.cell? ⟨b,7,μ⟩=δ v7)/\(w.frozen? ⟨b,0,μ⟩=ε/\w.frozen? ⟨b,1,μ⟩=ε/\w.frozen? ⟨b,2,μ⟩=ε/\w.frozen? ⟨b,3,μ⟩=ε/\w.frozen? ⟨b,4,μ⟩=ε/\w.frozen? ⟨b,5,μ⟩=ε/\w.frozen? ⟨b,6,μ⟩=ε/\w.frozen? ⟨b,7,μ⟩=ε)/\b<w.heap.size
abbrev amB(w:World)(b:Nat)(v0 v1 v2 v3 v4 v5 v6 v7 v8:Value):Prop:=(w.cell? ⟨b,0,μ⟩=δ v0/\w.cell? ⟨b,1,μ⟩=δ v1/\w.cell? ⟨b,2,μ⟩=δ v2/\w.cell? ⟨b,3,μ⟩=δ v3/\w.cell? ⟨b,4,μ⟩=δ v4/\w.cell? ⟨b,5,μ⟩=δ v5/\w.cell? ⟨b,6,μ⟩=δ v6/\w.cell? ⟨b,7,μ⟩=δ v7/\w.cell? ⟨b,8,μ⟩=δ v8)/\(w.frozen? ⟨b,0,μ⟩=ε/\w.frozen? ⟨b,1,μ⟩=ε/\w.frozen? ⟨b,2,μ⟩=ε/\w.frozen? ⟨b,3,μ⟩=ε/\w.frozen? ⟨b,4,μ⟩=ε/\w.frozen? ⟨b,5,μ⟩=ε/\w.frozen? ⟨b,6,μ⟩=ε/\w.frozen? ⟨b,7,μ⟩=ε/\w.frozen? ⟨b,8,μ⟩=ε)/\b<w.heap.size
abbrev amc(w:World)(b:Nat)(v0 v1 v2 v3 v4 v5 v6 v7 v8 v9:Value):Prop:=(w.cell? ⟨b,0,μ⟩=δ v0/\w.cell? ⟨b,1,μ⟩=δ v1/\w.cell? ⟨b,2,μ⟩=δ v2/\w.cell? ⟨b,3,μ⟩=δ v3/\w.cell? ⟨b,4,μ⟩=δ v4/\w.cell? ⟨b,5,μ⟩=δ v5/\w.cell? ⟨b,6,μ⟩=δ v6/\w.cell? ⟨b,7,μ⟩=δ v7/\w.cell? ⟨b,8,μ⟩=δ v8/\w.cell? ⟨b,9,μ⟩=δ v9)/\(w.frozen? ⟨b,0,μ⟩=ε/\w.frozen? ⟨b,1,μ⟩=ε/\w.frozen? ⟨b,2,μ⟩=ε/\w.frozen? ⟨b,3,μ⟩=ε/\w.frozen? ⟨b,4,μ⟩=ε/\w.frozen? ⟨b,5,μ⟩=ε/\w.frozen? ⟨b,6,μ⟩=ε/\w.frozen? ⟨b,7,μ⟩=ε/\w.frozen? ⟨b,8,μ⟩=ε/\w.frozen? ⟨b,9,μ⟩=ε)/\b<w.heap.size
abbrev amd(w:World)(b:Nat)(v0 v1 v2 v3 v4 v5 v6 v7 v8 v9 v10:Value):Prop:=(w.cell? ⟨b,0,μ⟩=δ v0/\w.cell? ⟨b,1,μ⟩=δ v1/\w.cell? ⟨b,2,μ⟩=δ v2/\w.cell? ⟨b,3,μ⟩=δ v3/\w.cell? ⟨b,4,μ⟩=δ v4/\w.cell? ⟨b,5,μ⟩=δ v5/\w.cell? ⟨b,6,μ⟩=δ v6/\w.cell? ⟨b,7,μ⟩=δ v7/\w.cell? ⟨b,8,μ⟩=δ v8/\w.cell? ⟨b,9,μ⟩=δ v9/\w.cell? ⟨b,10,μ⟩=δ v10)/\(w.frozen? ⟨b,0,μ⟩=ε/\w.frozen? ⟨b,1,μ⟩=ε/\w.frozen? ⟨b,2,μ⟩=ε/\w.frozen? ⟨b,3,μ⟩=ε/\w.frozen? ⟨b,4,μ⟩=ε/\w.frozen? ⟨b,5,μ⟩=ε/\w.frozen? ⟨b,6,μ⟩=ε/\w.frozen? ⟨b,7,μ⟩=ε/\w.frozen? ⟨b,8,μ⟩=ε/\w.frozen? ⟨b,9,μ⟩=ε/\w.frozen? ⟨b,10,μ⟩=ε)/\b<w.heap.size
abbrev ame(w:World)(b:Nat)(v0 v1 v2 v3 v4 v5 v6 v7 v8 v9 v10 v11:Value):Prop:=(w.cell? ⟨b,0,μ⟩=δ v0/\w.cell? ⟨b,1,μ⟩=δ v1/\w.cell? ⟨b,2,μ⟩=δ v2/\w.cell? ⟨b,3,μ⟩=δ v3/\w.cell? ⟨b,4,μ⟩=δ v4/\w.cell? ⟨b,5,μ⟩=δ v5/\w.cell? ⟨b,6,μ⟩=δ v6/\w.cell? ⟨b,7,μ⟩=δ v7/\w.cell? ⟨b,8,μ⟩=δ v8/\w.cell? ⟨b,9,μ⟩=δ v9/\w.cell? ⟨b,10,μ⟩=δ v10/\w.cell? ⟨b,11,μ⟩=δ v11)/\(w.frozen? ⟨b,0,μ⟩=ε/\w.frozen? ⟨b,1,μ⟩=ε/\w.frozen? ⟨b,2,μ⟩=ε/\w.frozen? ⟨b,3,μ⟩=ε/\w.frozen? ⟨b,4,μ⟩=ε/\w.frozen? ⟨b,5,μ⟩=ε/\w.frozen? ⟨b,6,μ⟩=ε/\w.frozen? ⟨b,7,μ⟩=ε/\w.frozen? ⟨b,8,μ⟩=ε/\w.frozen? ⟨b,9,μ⟩=ε/\w.frozen? ⟨b,10,μ⟩=ε/\w.frozen? ⟨b,11,μ⟩=ε)/\b<w.heap.size
abbrev amf(w:World)(b:Nat)(v0 v1 v2 v3 v4 v5 v6 v7 v8 v9 v10 v11 v12:Value):Prop:=(w.cell? ⟨b,0,μ⟩=δ v0/\w.cell? ⟨b,1,μ⟩=δ v1/\w.cell? ⟨b,2,μ⟩=δ v2/\w.cell? ⟨b,3,μ⟩=δ v3/\w.cell? ⟨b,4,μ⟩=δ v4/\w.cell? ⟨b,5,μ⟩=δ v5/\w.cell? ⟨b,6,μ⟩=δ v6/\w.cell? ⟨b,7,μ⟩=δ v7/\w.cell? ⟨b,8,μ⟩=δ v8/\w.cell? ⟨b,9,μ⟩=δ v9/\w.cell? ⟨b,10,μ⟩=δ v10/\w.cell? ⟨b,11,μ⟩=δ v11/\w.cell? ⟨b,12,μ⟩=δ v12)/\(w.frozen? ⟨b,0,μ⟩=ε/\w.frozen? ⟨b,1,μ⟩=ε/\w.frozen? ⟨b,2,μ⟩=ε/\w.frozen? ⟨b,3,μ⟩=ε/\w.frozen? ⟨b,4,μ⟩=ε/\w.frozen? ⟨b,5,μ⟩=ε/\w.frozen? ⟨b,6,μ⟩=ε/\w.frozen? ⟨b,7,μ⟩=ε/\w.frozen? ⟨b,8,μ⟩=ε/\w.frozen? ⟨b,9,μ⟩=ε/\w.frozen? ⟨b,10,μ⟩=ε/\w.frozen? ⟨b,11,μ⟩=ε/\w.frozen? ⟨b,12,μ⟩=ε)/\b<w.heap.size
abbrev amg(w:World)(b:Nat)(v0 v1 v2 v3 v4 v5 v6 v7 v8 v9 v10 v11 v12 v13:Value):Prop:=(w.cell? ⟨b,0,μ⟩=δ v0/\w.cell? ⟨b,1,μ⟩=δ v1/\w.cell? ⟨b,2,μ⟩=δ v2/\w.cell? ⟨b,3,μ⟩=δ v3/\w.cell? ⟨b,4,μ⟩=δ v4/\w.cell? ⟨b,5,μ⟩=δ v5/\w.cell? ⟨b,6,μ⟩=δ v6/\w.cell? ⟨b,7,μ⟩=δ v7/\w.cell? ⟨b,8,μ⟩=δ v8/\w.cell? ⟨b,9,μ⟩=δ v9/\w.cell? ⟨b,10,μ⟩=δ v10/\w.cell? ⟨b,11,μ⟩=δ v11/\w.cell? ⟨b,12,μ⟩=δ v12/\w.cell? ⟨b,13,μ⟩=δ v13)/\(w.frozen? ⟨b,0,μ⟩=ε/\w.frozen? ⟨b,1,μ⟩=ε/\w.frozen? ⟨b,2,μ⟩=ε/\w.frozen? ⟨b,3,μ⟩=ε/\w.frozen? ⟨b,4,μ⟩=ε/\w.frozen? ⟨b,5,μ⟩=ε/\w.frozen? ⟨b,6,μ⟩=ε/\w.frozen? ⟨b,7,μ⟩=ε/\w.frozen? ⟨b,8,μ⟩=ε/\w.frozen? ⟨b,9,μ⟩=ε/\w.frozen? ⟨b,10,μ⟩=ε/\w.frozen? ⟨b,11,μ⟩=ε/\w.frozen? ⟨b,12,μ⟩=ε/\w.frozen? ⟨b,13,μ⟩=ε)/\b<w.heap.size
end
section
open Go.RowKit Go.Sort
def vc:List UInt8:=[48,49,50,51,52,53,54,55,56,57]
theorem aeK:∀n:Fin 256,vc.contains (aoS n.val)=iB (aoS n.val):=by decide+kernel
theorem Yd(b:UInt8):vc.contains b=iB b:=by have:=aeK ⟨b.toNat,b.toNat_lt⟩;simpa using this
theorem drop_nil{p:UInt8->Bool}:∀l:List UInt8,l.dropWhile p=[]↔l.all p=ι
 |[]=>by simp
 |x::l=>by
  rw[List.dropWhile_cons];cases h:p x
  ·simp [h]
  ·simp [h,drop_nil l]
theorem aeG(l:List UInt8):(ap3 l vc).isEmpty=l.all iB:=by
 have hp:(λb=>vc.contains b)=iB:=funext Yd;unfold ap3 Lib.trimLeftS Lib.trimRightS;rw[show(λx=>vc.contains x)=iB from hp];rw[kg,List.isEmpty_iff,drop_nil];constructor
 ·intro h;rw[apg]at h;cases hd:l.reverse.dropWhile iB with
  |nil=>rw[drop_nil,apg]at hd;exact hd
  |cons y r=>
   have hy:iB y=ε:=by have:=List.head?_dropWhile_not iB l.reverse;rw[hd]at this;simpa using this
   rw[hd]at h;simp [hy]at h
 ·intro h;have:l.reverse.dropWhile iB=[]:=by rw[drop_nil,apg];exact h
  rw[this];rfl
theorem Sz(s:ByteArray)(hs:s.size<=9223372036854775807)(w:World):
  Calls Tryz.prog 104 #[.string s] w λe w'=>e=.returned (.bool (mo s))/\Gr w w':=by
 have Xz:=λW=>Tryz.strings_Trim s ⟨#[48,49,50,51,52,53,54,55,56,57]⟩ W hs (by decide) (by
  intro j c h;have:c∈vc:=cW h;have h2:vc.contains c=ι:=by simpa using this
  rw[Yd]at h2;have:=of_decide_eq_true h2
  omega)
 obtain⟨r,hr⟩:∃r,r=(⟨(ap3 s.data.toList vc).toArray⟩:ByteArray):=⟨_,rfl⟩
 have WL:∀W,Calls Tryz.prog 145 #[.string s,.string ⟨#[48,49,50,51,52,53,54,55,56,57]⟩] W λe w'=>e=.returned (.string r)/\Gr W w':=λW=>by rw[hr];exact Xz W
 clear Xz;have HC:=Ug WL;clear WL
 have hre:(r.toList==[])=(lZ s).all iB:=by rw[hr,ao2,<-aeG];cases ap3 s.data.toList vc<;>rfl
 clear hr;unfold mo
 have hse:(s.toList==[])=(lZ s).isEmpty:=by rw[ao2];unfold lZ;cases s.data.toList<;>rfl
 generalize (lZ s).all iB=q at *
 generalize (lZ s).isEmpty=u at *
 go_enter Tryz.func104,Tryz.ntmps104
 go_wp2_with (go_at_call 145;refine(HC.out _).mono ?_;rintro e w' ⟨rfl,hb⟩)
 ·rename_i hu;rw[hu]
  go_ret
  exact⟨rfl,(by repeat (first|exact Gr.refl _|assumption|refine Gr.alloc ?_ _|refine Gr.drew ?_|refine Gr.drewN ?_ _|(refine Gr.put ?_ ?_ _;first|exact cg _|(simp;done)|omega)|(apply Gr.after;assumption)))⟩
 ·rename_i hu;rw[Bool.eq_false_iff.2 hu]
  go_ret
  exact⟨rfl,hb⟩
theorem UR:∀(l:List UInt8)(acc:Nat),l.all iB=ι->∃m,Lib.decFrom acc l=δ m
 |[],acc,_=>⟨acc,rfl⟩
 |b::r,acc,h=>by rw[Rq,dZ]at h;have hb:=of_decide_eq_true h.1;rw[Lib.decFrom,show Lib.digitVal b=δ (b.toNat-48)from aG hb];exact UR r _ h.2
theorem adZ{s:ByteArray}(h:mo s=ι):Lib.atoi s.data.toList=δ ((apI (lZ s)).getD 0:Nat):=by
 unfold mo at h;rw[dZ,VC]at h;show Lib.atoi (lZ s)=_;cases hl:lZ s with
 |nil=>rw[hl]at h;cases h.1
 |cons b r=>
  rw[hl]at h;obtain⟨m,hm⟩:=UR (b::r) 0 h.2;rw[Rq,dZ]at h;have hb:=of_decide_eq_true h.2.1;have h45:(b==45)=ε:=by rw[beq_eq_false_iff_ne];rintro rfl;exact absurd hb.1 (by decide)
  have h43:(b==43)=ε:=by rw[beq_eq_false_iff_ne];rintro rfl;exact absurd hb.1 (by decide)
  have hd:apI (b::r)=δ m:=by unfold apI;exact hm
  rw[Lib.atoi,h45,h43,hd];rfl
theorem ant{s:ByteArray}(h:0<s.size):(lZ s).head? =δ s[0]:=by rw[List.head?_eq_getElem?,cy (by exact h)];rfl
theorem aaM(s:ByteArray)(n:Int)(hs:s.size<=9223372036854775807)(hn:n<=18)(w:World):
  Calls Tryz.prog 102 #[.string s,.int ξ n] w λe w'=>e=.returned (.tuple #[.int ξ (lJ s n).1,.bool (lJ s n).2])/\Gr w w':=by
 have HD:=Ug (Sz s hs);obtain⟨r,hr⟩:∃r,r=lJ s n:=⟨_,rfl⟩
 rw[<-hr];have HR:=Ug hr;clear hr;cases hd:mo s with
 |false=>
  have h1:=HR.out;unfold lJ at h1;rw[aG (.inl hd)]at h1;subst h1;clear HR;rw[hd]at HD
  go_enter Tryz.func102,Tryz.ntmps102
  go_wp2_with (go_at_call 104;refine(HD.out _).mono ?_;rintro e w' ⟨rfl,hb⟩)
  exact bodyPost_ret (v:=.tuple #[.int ξ 0,.bool ε]) (by simp [results,Tryz.results102,go_sem]) rfl ⟨rfl,hb⟩
 |true=>
  rw[hd]at HD;by_cases h1:n<(s.size:Int)
  ·have h2:=HR.out;unfold lJ at h2;rw[aG (.inr (.inl h1))]at h2;subst h2;clear HR
   go_enter Tryz.func102,Tryz.ntmps102
   go_wp2_with (go_at_call 104;refine(HD.out _).mono ?_;rintro e w' ⟨rfl,hb⟩)
   exact bodyPost_ret (v:=.tuple #[.int ξ 0,.bool ε]) (by simp [results,Tryz.results102,go_sem]) rfl ⟨rfl,hb⟩
  ·by_cases h2:1<s.size/\(lZ s).head? =δ 48
   ·have h3:=HR.out;unfold lJ at h3;rw[aG (.inr (.inr h2))]at h3;subst h3;clear HR;obtain⟨h2,h4⟩:=h2
    go_enter Tryz.func102,Tryz.ntmps102
    go_wp2_with (go_at_call 104;refine(HD.out _).mono ?_;rintro e w' ⟨rfl,hb⟩)
    all_goals first
     |exact bodyPost_ret (v:=.tuple #[.int ξ 0,.bool ε]) (by simp [results,Tryz.results102,go_sem]) rfl ⟨rfl,hb⟩
     |(exfalso;rename_i q0 q _ _ _ _;have h5:=(ant q0).symm.trans h4;have h6:s[0].toNat=48:=(by injection h5 with h5;rw[h5];rfl);have h7:=q.2;rw[h6]at h7;exact absurd h7 (by decide))
   ·have h3:=HR.out;unfold lJ at h3;have h0:¬mo s=ε:=λq=>by rw[hd]at q;cases q
    rw[aE (λq=>q.elim h0 (λq=>q.elim h1 h2))]at h3;subst h3;clear HR
    have hA:∀W:World,Calls Tryz.prog 123 #[.string s] W λe w'=>e=.returned (.tuple #[.int ξ ((apI (lZ s)).getD 0:Nat),.nilIface])/\Gr W w':=λW=>
     (Tryz.strconv_Atoi s _ (by omega) (adZ hd) W).mono λe w'⟨h,t,hw⟩=>⟨h,by rw[hw];exact Go.Joins.below_bytesWorld _ _ _ _ (cg _)⟩
    generalize ((apI (lZ s)).getD 0:Nat)=m at *
    have HA:=Ug hA;clear hA
    go_enter Tryz.func102,Tryz.ntmps102
    go_wp2_with (first
     |(go_at_call 104;refine(HD.out _).mono ?_;rintro e w' ⟨rfl,hb⟩)
     |(go_at_call 123;refine(HA.out _).mono ?_;rintro e w2 ⟨rfl,Fq⟩))
    ·exfalso;rename_i q0 q;rcases q with q|q
     ·omega
     ·refine h2 ⟨by omega,?_⟩;rw[ant q0];have h6:(s[0].toNat:Int)=48:=by simpa using q
      congr 1;exact UInt8.toNat_inj.1 (by show s[0].toNat=48;omega)
    all_goals
     go_quiet (fail)
     go_wp2
     exact bodyPost_ret (v:=.tuple #[.int ξ (m:Int),.bool ι]) (by simp [results,Tryz.results102,go_sem]) rfl ⟨rfl,(by repeat (first|exact Gr.refl _|assumption|refine Gr.alloc ?_ _|refine Gr.drew ?_|refine Gr.drewN ?_ _|(refine Gr.put ?_ ?_ _;first|exact cg _|(simp;done)|omega)|(apply Gr.after;assumption)))⟩
end
section
open Go.RowKit Go.Sort
theorem abr(w:World)(n:Nat):Below w.heap.size w (w.drewN n):=⟨rfl,rfl,rfl,by simp [apo],λk hk=>by simp [apo]⟩
theorem AM:Sound Tryz.prog aX 49 qB:=by
 intro args σ r σ' h;unfold qB Sv at h;split at h
 ·simp only at h;split at h
  ·split at h
   ·rename_i hb;simp only[χ,Ξ]at h;obtain⟨rfl,rfl⟩:=h;refine iJ.tab Tryz.call49 λc vs w free ht hr=>?_
    obtain⟨v,u,rfl,h1,h2⟩:=yV hr;simp only[an]at h1 h2;subst h1 h2;obtain⟨m,hm⟩:=ht.2.1;refine(Tryz.strings_Cut _ _ m w hb hm).mono ?_;rintro e w' ⟨rfl,n,rfl⟩;exact⟨_,rfl,abr w n,λc'=>by simp [an,aF,iL,bZ,lZ]⟩
   ·cases h
  ·cases h
 ·cases h
theorem al2:Sound Tryz.prog aX 106 Gn:=by
 intro args σ r σ' h;unfold Gn Sv at h;split at h
 ·simp only at h;split at h
  ·split at h
   ·rename_i hb;simp only[χ,Ξ]at h;obtain⟨rfl,rfl⟩:=h;refine iJ.tab Tryz.call106 λc vs w free ht hr=>?_
    obtain⟨v,u,rfl,h1,h2⟩:=yV hr;simp only[an]at h1 h2;subst h1 h2;obtain⟨m,hm⟩:=ht.2.1;refine(Tryz.strings_Contains _ _ m w hb hm).mono ?_;rintro e w' ⟨rfl,rfl⟩;exact⟨_,rfl,Below.refl _ _,λc'=>by simp [an]⟩
   ·cases h
  ·cases h
 ·cases h
theorem Rv:Sound Tryz.prog aX 89 Av:=by
 intro args σ r σ' h;unfold Av Sv at h;split at h
 ·simp only at h;split at h
  ·split at h
   ·rename_i hb;simp only[χ,Ξ]at h;obtain⟨rfl,rfl⟩:=h;refine iJ.tab Tryz.call89 λc vs w free ht hr=>?_
    obtain⟨v,u,rfl,h1,h2⟩:=yV hr;simp only[an]at h1 h2;subst h1 h2;refine(Tryz.strings_TrimRight_one _ _ hb.1 w hb.2).mono ?_;rintro e w' ⟨rfl,rfl⟩;exact⟨_,rfl,Below.refl _ _,λc'=>by simp [an,bZ,lZ]⟩
   ·cases h
  ·cases h
 ·cases h
theorem SO{c:RC}{b:Nat}:∀(l:List ByteArray)(off:Nat),(∀k(h:k<l.length),c.w.cell? ⟨b,off+k,μ⟩=δ (.string l[k]))->bw c 1 b off (l.map cO)
 |[],off,h=>by simp [bw]
 |x::l,off,h=>by
  simp only[dJ,bw];refine⟨rfl,?_,SO l (off+1) λk hk=>?_⟩
  ·unfold cO;simp only[aS];exact⟨⟨_,h 0 (by simp),rfl,by simp [an]⟩,trivial⟩
  ·have:=h (k+1) (by simp;omega);rw[show off+1+k=off+(k+1) by omega];simpa using this
theorem S2{c:RC}{b:Nat}:∀(l:List ByteArray)(off:Nat),bw c 1 b off (l.map cO)->∀k(h:k<l.length),c.w.cell? ⟨b,off+k,μ⟩=δ (.string l[k])
 |[],off,h,k,hk=>by simp at hk
 |x::l,off,h,k,hk=>by
  simp only[dJ,bw]at h;obtain⟨_,h2,h3⟩:=h;cases k with
  |zero=>unfold cO at h2;simp only[aS,an]at h2;obtain⟨⟨v,h4,_,h5⟩,_⟩:=h2;subst h5;exact h4
  |succ k=>have:=S2 l (off+1) h3 k (by simp at hk;omega);rw[show off+1+k=off+(k+1) by omega]at this;simpa using this
theorem Gv:Sound Tryz.prog aX 47 sU:=by
 intro args σ r σ' h;unfold sU Sv at h;split at h
 ·simp only at h;split at h
  ·split at h
   ·rename_i s p hb;simp only[χ,Ξ]at h;obtain⟨rfl,rfl⟩:=h;refine .inl ⟨47,Tryz.call47,λz vs e1 e2 hh ha=>?_⟩;obtain⟨v,u,rfl,h1,h2⟩:=yV ha;simp only[an]at h1 h2;subst h1 h2;obtain⟨m,hm⟩:=e2.tab.2.1;refine(Tryz.strings_Split s p m z.w hb.1 hm hb.2).mono ?_;rintro e w' ⟨rfl,rfl⟩;have Ft:Below z.w.heap.size z.w (z.w.alloc (.cells ((Lib.splitB p 0 (Lib.countB s p) s).map Value.string).toArray 9)):=(Below.refl _ _).alloc (cg _) _;have hout:Out z z.w z.E:=⟨rfl,rfl,rfl,cg _,λ_ _ _=>rfl,λi p hp=>.inr ⟨p,hp,rfl⟩,λi p hp=>⟨p,hp,.inl rfl⟩,e2,λp hp=>hh.lt hp⟩
    refine⟨_,z.E,rfl,hout.grow Ft,hh.mono (nX Ft) rfl (λp hp=>Ft.block _ (hh.lt hp)),?_⟩;have hlen:(mS s p).length=Lib.countB s p+1:=Lib.splitB_all p hb.2 0 _ s rfl;simp only[sl,an,XZ];refine⟨δ ⟨z.w.heap.size,0,μ⟩,Lib.countB s p+1,by rw[hlen],by rw[hlen];exact cg _,by decide,.inr ⟨z.w.heap.size,0,rfl,?_,?_,?_⟩⟩
    ·show z.w.heap.size<(z.w.heap.push _).size;rw[Array.size_push];omega
    ·rintro(q|⟨p,hp,q⟩|⟨i,q⟩)
     ·have:=e2 _ q;omega
     ·have:=hh.lt (p:=p) hp;simp only[ctx]at this;omega
     ·cases q
    ·refine SO _ 0 λk hk=>?_
     simp only[ctx,RD,World.alloc];simp [mS]at hk ⊢
   ·cases h
  ·cases h
 ·cases h
theorem K0:Sound Tryz.prog aX 104 AK:=by
 intro args σ r σ' h;unfold AK Tu at h;split at h
 ·simp only at h;split at h
  ·split at h
   ·rename_i hb;simp only[χ,Ξ]at h;obtain⟨rfl,rfl⟩:=h;refine iJ.tab Tryz.call104 λc vs w free ht hr=>?_
    obtain⟨v,rfl,h1⟩:=W0 hr;simp only[an]at h1;subst h1;refine(Sz _ hb w).mono ?_;rintro e w' ⟨rfl,hg⟩;exact⟨_,rfl,hg,λc'=>by simp [an]⟩
   ·cases h
  ·cases h
 ·cases h
theorem KD:Sound Tryz.prog aX 102 AF:=by
 intro args σ r σ' h;unfold AF Sv at h;split at h
 ·simp only at h;split at h
  ·split at h
   ·rename_i hb;simp only[χ,Ξ]at h;obtain⟨rfl,rfl⟩:=h;refine iJ.tab Tryz.call102 λc vs w free ht hr=>?_
    obtain⟨v,u,rfl,h1,h2⟩:=yV hr;simp only[an]at h1 h2;subst h1 h2;refine(aaM _ _ hb.1 hb.2 w).mono ?_;rintro e w' ⟨rfl,hg⟩;exact⟨_,rfl,hg,λc'=>by simp [an,aF]⟩
   ·cases h
  ·cases h
 ·cases h
theorem TK:∀{es:List ay}{l:List ByteArray},strsOf es=δ l->es=l.map cO
 |[],l,h=>by
  unfold strsOf at h;injection h with h
  subst h;rfl
 |e::r,l,h=>by
  unfold strsOf at h;split at h
  ·rename_i h';cases h'
  ·rename_i s r' h';injection h' with h1 h2
   subst h1 h2;obtain⟨l',h3,rfl⟩:=cL.1 h;rw[TK h3];rfl
  ·cases h
theorem iJ.ajK{P:Program}{nm:List Nat}{f:FuncId}{args:ay}{σ:Heap}{r:U}(hc:∀us w,(callFunc f us).run P w=.ok (.enter f us) w)
  (h:∀(c:RC)(vs:Array Value)(free:Nat->Prop),tP c.w free->aF c args vs.toList->Calls P f vs c.w λe w'=>∃v,e=.returned v/\Below c.w.heap.size c.w w'/\∀c',an c' r v):iJ P nm f args σ r σ:=by
 refine .inl ⟨f,hc,λz vs e1 e2 hh ha=>(h (ctx z z.w z.E cm) vs _ e2.tab ha).mono ?_⟩;rintro e w' ⟨v,k1,k2,k3⟩;have k2:Below z.w.heap.size z.w w':=k2;have ho:Out z z.w z.E:=⟨rfl,rfl,rfl,cg _,λ_ _ _=>rfl,λi p hp=>.inr ⟨p,hp,rfl⟩,λi p hp=>⟨p,hp,.inl rfl⟩,e2,λp hp=>hh.lt hp⟩
 exact⟨v,z.E,k1,ho.grow k2,hh.mono (nX k2) rfl (λp hp=>k2.block _ (hh.lt hp)),k3 _⟩
theorem aal:Sound Tryz.prog aX 57 uB:=by
 intro args σ r σ' h;unfold uB Sv at h;split at h
 ·simp only at h;split at h
  ·obtain⟨l,hl,h⟩:=bh.1 h;split at h
   ·rename_i hb;simp only[χ,Ξ]at h;obtain⟨rfl,rfl⟩:=h;have he:=TK hl;subst he;refine iJ.ajK Tryz.call57 λc vs free ht hr=>?_
    obtain⟨v,u,rfl,h1,h2⟩:=yV hr;simp only[an,XZ]at h1 h2;obtain⟨a,cap,rfl,hcap,_,Qz⟩:=h1;subst h2;by_cases hn:l=[]
    ·subst hn;refine(Tryz.strings_Join_none a cap _ c.w).mono ?_;rintro e w' ⟨rfl,rfl⟩;exact⟨_,rfl,Below.refl _ _,λc'=>by simp [an,xx,bZ,Lib.join]⟩
    ·rcases Qz with Qz|⟨b,off,rfl,hlt,_,hE⟩
     ·exact absurd (List.map_eq_nil_iff.1 Qz) hn
     refine(Tryz.strings_Join b off cap l _ c.w (λj x hx=>?_) hlt hb.1 hcap hb.2).mono ?_
     ·obtain⟨hj,rfl⟩:=cD.1 hx;exact S2 l off hE j hj
     ·rintro e w' ⟨rfl,hg⟩;exact⟨_,rfl,hg,λc'=>by simp [an,xx,bZ,lZ]⟩
   ·cases h
  ·cases h
 ·cases h
end
section
theorem SS:Sound Tryz.prog aX 51 CK:=q1 [] 35 (.s .n (.s (.s .n (.b (.l [2,7] [.exit 0,.ret] (.s .n (.s fE (.s (.b (.s .n (.s .n bI))) .n)))))) aZ)) u0 Tryz.func51 Tryz.call51 (λa0 σ=>by kernel_rfl) rfl rfl
theorem LO:Sound Tryz.prog aX 127 AW:=q1 [] 20 (.s .n aZ) (Δ SS u0) Tryz.func127 Tryz.call127 (λa0 σ=>by kernel_rfl) rfl rfl
theorem rq:Sound Tryz.prog aX 43 jd:=q3 [] 15 (.s .n aZ) u0 Tryz.func43 Tryz.call43 (λa0 a1 a2 σ=>by kernel_rfl) rfl rfl
theorem Ry:Sound Tryz.prog aX 161 Cs:=q1 [] 5 (.s .n aZ) (Δ rq u0) Tryz.func161 Tryz.call161 (λa0 σ=>by kernel_rfl) rfl rfl
theorem ank:Sound Tryz.prog aX 162 J9:=q1 [5] 63 (.s .n (.s bI (.s .n (.s (.s .n (.b (.l [2,12] [.exit 0,.ret] (.s .n (.s fE (.s (.b (.s .n (.s (.b (.s .n (.j aZ (.s .n (.j aZ (.s .n (.j aZ bI))))))) .n))) .n)))))) aZ)))) (Δ Ry (Δ LO u0)) Tryz.func162 Tryz.call162 (λa0 σ=>by kernel_rfl) rfl rfl
theorem aei:Sound Tryz.prog aX 139 J6:=q1 [1,6] 115 (.s .n (.s (.b (.s .n (.j aZ (.s .n (.j aZ (.s .n (.j aZ bI))))))) (.s .n (.s (.s .n (.b (.l [1,2,33] [.exit 1,.ret] (.s .n (.s fE (.s (.b (.s .n (.s (.b (.s .n (.j aZ (.s .n (.j aZ (.s .n (.j aZ (.s .n (.j aZ bI))))))))) (.s (.s .n bI) (.s .n (.s .n (.c [1] .n .n))))))) .n)))))) aZ)))) (Δ LO (Δ rq (Δ Ry (Δ ank u0)))) Tryz.func139 Tryz.call139 (λa0 σ=>by kernel_rfl) rfl rfl
theorem am8:Sound Tryz.prog aX 95 J5:=q1 [5] 30 (.s .n (.s bI (.s .n (.s (.s .n (.b (.l [2,13] [.exit 0,.ret] (.s .n (.s fE (.s (.b (.s .n (.s (.s .n bI) (.s bI .n)))) .n)))))) aZ)))) (Δ aei u0) Tryz.func95 Tryz.call95 (λa0 σ=>by kernel_rfl) rfl rfl
def adr (dyn:Nat->ay->Heap->aL):Fx:=⟨Tryz.prog,aX,aoQ (λ_ _=>μ) [],dyn,[],[],19,[]⟩
theorem amJ(dyn:Nat->ay->Heap->aL)(hd:∀f,Sound Tryz.prog aX f (dyn (aX.getD f 0))):Sound Tryz.prog aX 129 (l9 ι [(.s 3)] .k (Sv (Gh dyn))):=
 Z5 (Sound.I8 (X:=adr dyn) (fn:=Tryz.f129) (cN:=(.s .n (.s (.s .n (.b (.l [4,8] [.exit 0,.ret] (.s .n (.s fE (.s (.b (.s .n bI)) .n)))))) aZ))) .F trivial (fU.of rfl u0 (hd)) Tryz.func129 Tryz.call129 (λa0 a1 σ=>by kernel_rfl)) _ _ _ rfl rfl
theorem ain(dyn:Nat->ay->Heap->aL)(hd:∀f,Sound Tryz.prog aX f (dyn (aX.getD f 0))):Sound Tryz.prog aX 129 (Gg dyn):=amJ dyn hd
theorem Rn:Sound Tryz.prog aX 130 Cp:=q2 [2] 8 (.s .n aZ) u0 Tryz.func130 Tryz.call130 (λa0 a1 σ=>by kernel_rfl) rfl rfl
def anl:Fx:=⟨Tryz.prog,aX,aoQ (λ_ _=>μ) [(129,Gg (aoQ (λ_ _=>μ) [(64,Cp)]))],(aoQ (λ_ _=>μ) [(64,Cp)]),[4],[],17,[]⟩
theorem amM:Sound Tryz.prog aX 87 (l9 ι [(.s 3)] (.t [(.a vE),.k]) (Sv (Gs))):=
 Z5 (Sound.I8 (X:=anl) (fn:=Tryz.f87) (cN:=(.s .n (.s .n (.s bI aZ)))) .F trivial (fU.of rfl (Δ (ain _ (Iq (vf.cons (Hv Rn (by kernel_rfl) rfl) vf.nil))) u0) (Iq (vf.cons (Hv Rn (by kernel_rfl) rfl) vf.nil))) Tryz.func87 Tryz.call87 (λa0 a1 σ=>by kernel_rfl)) _ _ _ rfl rfl
theorem Rz:Sound Tryz.prog aX 87 Gp:=amM
theorem amT:Sound Tryz.prog aX 96 As:=q3 [] 32 (.s .n (.s bI (.s (.s .n (.b (.l [6,7] [.exit 0,.ret] (.s (.s .n fE) (.s (.b bI) .n))))) aZ))) u0 Tryz.func96 Tryz.call96 (λa0 a1 a2 σ=>by kernel_rfl) rfl rfl
def aan:Fx:=⟨Tryz.prog,aX,aoQ (λ_ _=>μ) [],(λ_ _ _=>μ),[4],[15],33,[]⟩
theorem aam:Sound Tryz.prog aX 97 (l9 ε [] .k (A.nA (Cx))):=
 Z5 (Sound.O6 (X:=aan) (fn:=Tryz.f97) (cN:=(.s .n (.s (.s .n (.c [4] .n .n)) (.s .n (.b (.l [4,6] [.exit 0] (.s (.s .n fE) (.s (.b .n) .n)))))))) .K trivial (fU.of rfl u0 (λ_=>Ze)) Tryz.func97 Tryz.call97 (λa0 a1 a2 σ=>by kernel_rfl)) _ _ _ rfl rfl
theorem aaj:Sound Tryz.prog aX 97 Gy:=aam
theorem Rw:Sound Tryz.prog aX 41 Gm:=q1 [1,6,7] 91 (.s .n (.s (.s .n bI) (.s bI (.s .n (.s (.s .n (.b (.l [1,2,23] [.exit 0,.ret] (.s .n (.s fE (.s (.b (.s .n (.s bI (.s bI (.s .n (.s bI (.s bI (.s bI .n)))))))) .n)))))) aZ))))) (Δ am8 (Δ rq (Δ Rz (Δ amT (Δ aaj u0))))) Tryz.func41 Tryz.call41 (λa0 σ=>by kernel_rfl) rfl rfl
theorem GO:Sound Tryz.prog aX 18 AY:=q2 [] 7 (.s .n (.s bI aZ)) u0 Tryz.func18 Tryz.call18 (λa0 a1 σ=>by kernel_rfl) rfl rfl
theorem Ln:Sound Tryz.prog aX 16 CB:=q1 [] 15 (.s .n (.s (.s .n (.b (.l [2,7] [.exit 0,.ret] (.s .n (.s fE (.s (.b (.s .n bI)) .n)))))) aZ)) u0 Tryz.func16 Tryz.call16 (λa0 σ=>by kernel_rfl) rfl rfl
theorem aow:Sound Tryz.prog aX 33 Gx:=q1 [1,7,8,11] 50 (.s .n (.s (.s .n bI) (.s .n (.s (.s .n (.b (.l [1,5,20] [.exit 0] (.s .n (.s fE (.s (.b (.s .n (.s .n (.s .n (.b (.l [1,5,7,35] [.exit 2] (.s .n (.s fE (.s (.b aZ) .n))))))))) .n)))))) aZ)))) (Δ Rw (Δ Rz u0)) Tryz.func33 Tryz.call33 (λa0 σ=>by kernel_rfl) rfl rfl
theorem abP:Sound Tryz.prog aX 42 Ly:=q1 [1,7] 24 (.s .n (.s .n (.s .n (.s (.s .n (.b (.l [16] [.exit 0] (.s .n (.s fE (.s (.b aZ) .n)))))) aZ)))) (Δ aow u0) Tryz.func42 Tryz.call42 (λa0 σ=>by kernel_rfl) rfl rfl
theorem R5:Sound Tryz.prog aX 83 GI:=q1 [] 40 (.s .n (.s (.s .n (.b (.l [2,6] [.exit 0,.ret] (.s .n (.s fE (.s (.b (.s .n bI)) .n)))))) aZ)) u0 Tryz.func83 Tryz.call83 (λa0 σ=>by kernel_rfl) rfl rfl
theorem abj:Sound Tryz.prog aX 44 K7:=q1 [] 9 (.s .n aZ) (Δ R5 u0) Tryz.func44 Tryz.call44 (λa0 σ=>by kernel_rfl) rfl rfl
theorem RQ:Sound Tryz.prog aX 45 Gz:=q1 [] 5 (.s .n aZ) (Δ rq u0) Tryz.func45 Tryz.call45 (λa0 σ=>by kernel_rfl) rfl rfl
theorem aaH:Sound Tryz.prog aX 46 KT:=q2 [2,3] 21 (.s .n (.s bI aZ)) (Δ RB u0) Tryz.func46 Tryz.call46 (λa0 a1 σ=>by kernel_rfl) rfl rfl
theorem Rr:Sound Tryz.prog aX 17 Gk:=q2 [2,8,10] 97 (.s .n (.s (.s .n bI) (.s .n (.s (.s .n (.b (.l [4,26] [.exit 0,.ret] (.s .n (.s fE (.s (.b (.s .n (.s (.b (.s .n (.j aZ (.s .n (.j aZ (.s .n (.j aZ bI))))))) (.s .n (.b (.l [4,8,63] [.exit 3,.ret] (.s .n (.s fE (.s (.b (.s .n (.b (.s .n (.j aZ (.s .n (.j aZ bI))))))) .n))))))))) .n)))))) aZ)))) (Δ Rw (Δ GO (Δ Ln (Δ abP (Δ rq (Δ abj (Δ RQ (Δ aaH u0)))))))) Tryz.func17 Tryz.call17 (λa0 a1 σ=>by kernel_rfl) rfl rfl
theorem abl:Sound Tryz.prog aX 19 K9:=q1 [] 22 (.s .n (.s bI (.s .n (.s bI aZ)))) (Δ Gv u0) Tryz.func19 Tryz.call19 (λa0 σ=>by kernel_rfl) rfl rfl
theorem Rl:Sound Tryz.prog aX 100 Gf:=q2 [] 18 (.s .n aZ) u0 Tryz.func100 Tryz.call100 (λa0 a1 σ=>by kernel_rfl) rfl rfl
theorem anr:Sound Tryz.prog aX 48 JU:=q2 [] 15 (.s .n (.s bI aZ)) (Δ Rl u0) Tryz.func48 Tryz.call48 (λa0 a1 σ=>by kernel_rfl) rfl rfl
theorem Rs:Sound Tryz.prog aX 20 Gl:=q2 [] 11 (.s .n aZ) (Δ anr u0) Tryz.func20 Tryz.call20 (λa0 a1 σ=>by kernel_rfl) rfl rfl
theorem GF:Sound Tryz.prog aX 50 wL:=q1 [] 8 (.s .n aZ) (Δ KD u0) Tryz.func50 Tryz.call50 (λa0 σ=>by kernel_rfl) rfl rfl
theorem RH:Sound Tryz.prog aX 103 AE:=q2 [] 66 (.s .n (.s .n (.s .n (.s bI (.s (.s .n (.b (.l [9,48] [.exit 0] (.s .n (.s fE (.s (.b (.s .n (.s .n (.s .n (.c [9] .n .n))))) .n)))))) aZ))))) (Δ AM (Δ GF (Δ K0 u0))) Tryz.func103 Tryz.call103 (λa0 a1 σ=>by kernel_rfl) rfl rfl
theorem anc:Sound Tryz.prog aX 146 JS:=q2 [] 13 (.s .n (.s bI aZ)) (Δ Rl u0) Tryz.func146 Tryz.call146 (λa0 a1 σ=>by kernel_rfl) rfl rfl
theorem amW:Sound Tryz.prog aX 105 Kc:=q2 [] 8 (.s .n aZ) (Δ anc u0) Tryz.func105 Tryz.call105 (λa0 a1 σ=>by kernel_rfl) rfl rfl
theorem aov:Sound Tryz.prog aX 53 nO:=q1 [] 97 (.s .n (.s .n (.s (.s .n (.j (.s .n (.s bI aZ)) .n)) (.s .n (.s .n (.s bI (.s .n (.s (.s .n (.c [10,14] .n .n)) (.s bI (.s .n (.s bI aZ))))))))))) (Δ AM (Δ RH (Δ KD (Δ K0 (Δ amW (Δ al2 u0)))))) Tryz.func53 Tryz.call53 (λa0 σ=>by kernel_rfl) rfl rfl
theorem RJ:Sound Tryz.prog aX 93 Gu:=q1 [] 5 (.s .n aZ) (Δ rq u0) Tryz.func93 Tryz.call93 (λa0 σ=>by kernel_rfl) rfl rfl
theorem am6:Sound Tryz.prog aX 147 JW:=q2 [] 21 (.s .n aZ) u0 Tryz.func147 Tryz.call147 (λa0 a1 σ=>by kernel_rfl) rfl rfl
theorem al3:Sound Tryz.prog aX 107 JV:=q2 [] 18 (.s .n (.s bI aZ)) (Δ am6 u0) Tryz.func107 Tryz.call107 (λa0 a1 σ=>by kernel_rfl) rfl rfl
theorem an6:Sound Tryz.prog aX 54 Au:=q2 [] 11 (.s .n aZ) (Δ al3 u0) Tryz.func54 Tryz.call54 (λa0 a1 σ=>by kernel_rfl) rfl rfl
theorem abk:Sound Tryz.prog aX 138 K8:=q2 [] 16 (.s .n (.s .n (.s (.s .n (.c [5] .n .n)) aZ))) u0 Tryz.func138 Tryz.call138 (λa0 a1 σ=>by kernel_rfl) rfl rfl
theorem anP:Sound Tryz.prog aX 94 CC:=q2 [] 12 (.s .n aZ) (Δ abk u0) Tryz.func94 Tryz.call94 (λa0 a1 σ=>by kernel_rfl) rfl rfl
theorem abg:Sound Tryz.prog aX 52 K4:=q1 [] 59 (.s .n (.s (.s .n (.b (.s .n (.j aZ bI)))) (.s (.s .n (.s .n (.j (.s .n (.s bI aZ)) .n))) (.s .n (.s .n (.s bI aZ)))))) (Δ Rs (Δ GF (Δ RJ (Δ an6 (Δ RH (Δ anP u0)))))) Tryz.func52 Tryz.call52 (λa0 σ=>by kernel_rfl) rfl rfl
theorem aai:Sound Tryz.prog aX 21 KF:=q1 [2,10] 162 (.s .n (.s .n (.s .n (.s .n (.s bI (.s .n (.s (.b (.s .n (.j aZ (.s .n (.j (.s .n (.s bI aZ)) (.s .n (.s bI aZ))))))) (.s bI (.s bI (.s .n (.s .n (.s (.s .n (.j (.s .n bI) .n)) aZ)))))))))))) (Δ Gv (Δ AM (Δ GF (Δ SS (Δ aov (Δ abg u0)))))) Tryz.func21 Tryz.call21 (λa0 σ=>by kernel_rfl) rfl rfl
theorem ana:Sound Tryz.prog aX 55 Az:=q1 [] 62 (.s .n (.s .n (.s .n (.s bI (.s (.s .n (.b (.l [7,44] [.exit 0] (.s .n (.s fE (.s (.b (.s .n (.s .n (.s .n (.c [7] .n .n))))) .n)))))) aZ))))) (Δ AM (Δ KD (Δ K0 u0))) Tryz.func55 Tryz.call55 (λa0 σ=>by kernel_rfl) rfl rfl
end
section
theorem RA:Sound Tryz.prog aX 91 Cu:=q1 [] 14 (.s .n (.s (.s .n (.b (.s .n (.j aZ (.s .n (.j aZ (.s .n (.j aZ (.s .n (.j aZ bI)))))))))) aZ)) u0 Tryz.func91 Tryz.call91 (λa0 σ=>by kernel_rfl) rfl rfl
theorem abQ:Sound Tryz.prog aX 108 Lz:=q2 [] 40 (.s .n (.s .n (.s .n (.s .n aZ)))) (Δ AM (Δ GF u0)) Tryz.func108 Tryz.call108 (λa0 a1 σ=>by kernel_rfl) rfl rfl
theorem Km:Sound Tryz.prog aX 85 Ax:=q1 [1,5] 90 (.s .n (.s bI (.s .n (.s bI (.s bI (.s bI (.s (.s .n (.b (.l [2,28] [.exit 0,.ret] (.s .n (.s fE (.s (.b (.s .n bI)) .n)))))) (.s bI (.s (.s .n (.b (.l [2,6] [.exit 2,.ret] (.s (.s .n fE) (.s (.b bI) .n))))) aZ))))))))) (Δ rq (Δ GO u0)) Tryz.func85 Tryz.call85 (λa0 σ=>by kernel_rfl) rfl rfl
theorem anj:Sound Tryz.prog aX 56 wG:=q1 [2,5] 74 (.s .n (.s .n (.s .n (.s (.s .n (.b (.l [2,5,6] [.exit 0] (.s (.s .n fE) (.s (.b (.s .n (.c [2,5] .n .n))) .n))))) (.s bI (.s (.s .n (.b (.l [2,3,5,45] [.exit 2,.ret] (.s .n (.s fE (.s (.b (.s .n (.s .n (.s bI .n)))) .n)))))) (.s (.s .n bI) aZ))))))) (Δ Gv (Δ RA (Δ abQ (Δ Km u0)))) Tryz.func56 Tryz.call56 (λa0 σ=>by kernel_rfl) rfl rfl
def aaL:Fx:=⟨Tryz.prog,aX,aoQ (λ_ _=>μ) [(49,qB),(54,Au),(47,sU),(55,Az),(53,nO),(57,uB),(56,wG)],(λ_ _ _=>μ),[2,20],[4],182,[]⟩
theorem aaJ:Sound Tryz.prog aX 22 (l9 ι [] (.t [(.a [.k,.k,.k,.k,.k,.k,.k,(.s 2),.k,.k,.k]),.k]) (Tu (GD))):=
 Z5 (Sound.X6 (X:=aaL) (fn:=Tryz.f22) (cN:=(.s .n (.s .n (.s (.s .n (.s .n (.j (.s .n (.s bI .n)) .n))) (.s .n (.s bI (.s .n (.s bI (.s .n (.s .n (.s .n (.s (.s .n (.b (.l [2,3,10,79] [.exit 0,.ret] (.s .n (.s fE (.s (.b (.s .n (.s (.s .n fE) (.s .n (.s bI aZ))))) .n)))))) (.s (.s .n (.c [2,10] aZ .n)) (.s (.s .n (.j (.s .n (.s bI aZ)) .n)) (.s (.s .n (.j (.s .n (.s bI aZ)) .n)) aZ))))))))))))))) .F trivial (fU.of rfl (Δ AM (Δ an6 (Δ Gv (Δ ana (Δ aov (Δ aal (Δ anj u0))))))) (λ_=>Ze)) Tryz.func22 Tryz.call22 (λa0 σ=>by kernel_rfl)) _ _ _ rfl rfl
theorem aaG:Sound Tryz.prog aX 22 KS:=aaJ
theorem R3:Sound Tryz.prog aX 84 wN:=q1 [] 5 (.s .n aZ) (Δ rq u0) Tryz.func84 Tryz.call84 (λa0 σ=>by kernel_rfl) rfl rfl
theorem aaE:Sound Tryz.prog aX 128 KQ:=q2 [2,3] 20 (.s .n (.s (.s .n (.j (.s bI aZ) .n)) aZ)) (Δ RB u0) Tryz.func128 Tryz.call128 (λa0 a1 σ=>by kernel_rfl) rfl rfl
theorem anb:Sound Tryz.prog aX 86 Ks:=q1 [4] 99 (.s .n (.s (.s .n (.b (.l [2,7] [.exit 0,.ret] (.s .n (.s fE (.s (.b (.s .n (.b (.s .n (.j aZ (.s .n (.j aZ (.s .n (.j aZ (.s .n (.j aZ (.s .n (.j aZ (.s .n (.j aZ bI))))))))))))))) .n)))))) aZ)) (Δ rq (Δ LO (Δ R3 (Δ aaE u0)))) Tryz.func86 Tryz.call86 (λa0 σ=>by kernel_rfl) rfl rfl
theorem acD:Sound Tryz.prog aX 32 LZ:=q1 [5] 101 (.s .n (.s bI (.s .n (.s (.s .n (.b (.l [2,3,13] [.exit 0,.ret] (.s .n (.s fE (.s (.b (.s .n (.s (.b (.s .n (.j aZ (.s .n (.j aZ (.s .n (.j aZ bI))))))) (.s (.s .n bI) (.s bI (.s (.s .n bI) .n)))))) .n)))))) aZ)))) (Δ rq (Δ R5 (Δ R3 (Δ Km (Δ anb (Δ GO u0)))))) Tryz.func32 Tryz.call32 (λa0 σ=>by kernel_rfl) rfl rfl
theorem abi:Sound Tryz.prog aX 34 K6:=q3 [4,5,9,11] 55 (.s .n (.s bI (.s bI (.s bI (.s (.s .n (.b (.l [4,5,6,7,31] [.exit 0,.ret] (.s .n (.s fE (.s (.b (.s .n (.s (.s .n fE) (.s (.s .n (.b (.l [4,6,7,43] [.exit 2,.ret] (.s .n (.s fE (.s (.b (.s .n bI)) .n)))))) .n)))) .n)))))) aZ))))) (Δ RQ u0) Tryz.func34 Tryz.call34 (λa0 a1 a2 σ=>by kernel_rfl) rfl rfl
theorem RG:Sound Tryz.prog aX 10 AD:=q3 [3,12,14,16] 76 (.s .n (.s (.s .n bI) (.s .n (.s .n (.s (.s .n (.b (.l [37] [.exit 0] (.s .n (.s fE (.s (.b aZ) .n)))))) (.s (.s .n (.b (.l [6,46] [.exit 2,.ret] (.s .n (.s fE (.s (.b (.s .n (.s .n (.b (.l [6,53] [.exit 4,.ret] (.s .n (.s fE (.s (.b (.s .n (.s bI (.s .n bI)))) .n)))))))) .n)))))) aZ)))))) (Δ Rr (Δ acD (Δ Ln (Δ aow (Δ abi u0))))) Tryz.func10 Tryz.call10 (λa0 a1 a2 σ=>by kernel_rfl) rfl rfl
theorem acB:Sound Tryz.prog aX 6 LY:=q3 [3,18,20] 111 (.s .n (.s (.s .n bI) (.s .n (.s .n (.s (.s .n (.b (.l [3,6,7,8,12,41] [.exit 0,.ret] (.s .n (.s fE (.s (.b (.s .n (.s .n (.s (.s .n (.s .n (.c [3,12,15] (.s .n (.s .n aZ)) (.s .n (.c [3,12,15] (.s .n aZ) .n))))) bI)))) .n)))))) (.s (.s .n bI) aZ)))))) (Δ Rr (Δ GO (Δ Ln (Δ abl (Δ Rs (Δ aai (Δ aaG (Δ RG u0)))))))) Tryz.func6 Tryz.call6 (λa0 a1 a2 σ=>by kernel_rfl) rfl rfl
def am3 (dyn:Nat->ay->Heap->aL):Fx:=⟨Tryz.prog,aX,aoQ (λ_ _=>μ) [],dyn,[8,9],[],32,[]⟩
theorem am1(dyn:Nat->ay->Heap->aL)(hd:∀f,Sound Tryz.prog aX f (dyn (aX.getD f 0))):Sound Tryz.prog aX 23 (l9 ι [(.s 11),(.s 11)] .k (A.nA (Gj dyn))):=
 Z5 (Sound.O6 (X:=am3 dyn) (fn:=Tryz.f23) (cN:=(.s .n (.s bI (.s (.s .n (.b (.l [6,17] [.exit 0,.ret] (.s .n (.s fE (.s (.b (.s .n (.s .n bI))) .n)))))) aZ)))) .F trivial (fU.of rfl u0 (hd)) Tryz.func23 Tryz.call23 (λa0 a1 a2 σ=>by kernel_rfl)) _ _ _ rfl rfl
theorem amN(dyn:Nat->ay->Heap->aL)(hd:∀f,Sound Tryz.prog aX f (dyn (aX.getD f 0))):Sound Tryz.prog aX 23 (Gi dyn):=am1 dyn hd
theorem adO:Sound Tryz.prog aX 58 J1:=q2 [] 26 (.s .n (.s bI (.s (.s .n (.b (.l [4,13] [.exit 0,.ret] (.s .n (.s fE (.s (.b (.s .n bI)) .n)))))) aZ))) u0 Tryz.func58 Tryz.call58 (λa0 a1 σ=>by kernel_rfl) rfl rfl
theorem ajy:Sound Tryz.prog aX 59 J3:=q2 [] 26 (.s .n (.s bI (.s (.s .n (.b (.l [4,13] [.exit 0,.ret] (.s .n (.s fE (.s (.b (.s .n bI)) .n)))))) aZ))) u0 Tryz.func59 Tryz.call59 (λa0 a1 σ=>by kernel_rfl) rfl rfl
theorem R2:Sound Tryz.prog aX 24 wM:=q2 [2,3] 84 (.s .n aZ) (Δ adO (Δ ajy u0)) Tryz.func24 Tryz.call24 (λa0 a1 σ=>by kernel_rfl) rfl rfl
def aaK:Fx:=⟨Tryz.prog,aX,aoQ (λ_ _=>μ) [(23,Gi (aoQ (λ_ _=>μ) [(201,wM)]))],(aoQ (λ_ _=>μ) [(201,wM)]),[],[],8,[]⟩
theorem aaI:Sound Tryz.prog aX 7 (l9 ι [(.e 11 sj),(.e 11 sj)] .k (Sv (GC))):=
 Z5 (Sound.I8 (X:=aaK) (fn:=Tryz.f7) (cN:=(.s .n aZ)) .F trivial (fU.of rfl (Δ (amN _ (Iq (vf.cons (Hv R2 (by kernel_rfl) rfl) vf.nil))) u0) (Iq (vf.cons (Hv R2 (by kernel_rfl) rfl) vf.nil))) Tryz.func7 Tryz.call7 (λa0 a1 σ=>by kernel_rfl)) _ _ _ rfl rfl
theorem aaD:Sound Tryz.prog aX 7 KP:=aaI
theorem anq:Sound Tryz.prog aX 36 Kt:=q1 [] 20 (.s .n (.s .n (.s (.s .n (.c [3] .n .n)) aZ))) (Δ AI (Δ Rv u0)) Tryz.func36 Tryz.call36 (λa0 σ=>by kernel_rfl) rfl rfl
theorem aak:Sound Tryz.prog aX 135 KG:=q1 [] 5 (.s .n aZ) (Δ rq u0) Tryz.func135 Tryz.call135 (λa0 σ=>by kernel_rfl) rfl rfl
theorem anp:Sound Tryz.prog aX 136 Kf:=q1 [] 11 (.s .n (.s bI aZ)) (Δ AI (Δ Rv u0)) Tryz.func136 Tryz.call136 (λa0 σ=>by kernel_rfl) rfl rfl
theorem aas:Sound Tryz.prog aX 90 Ku:=q1 [] 32 (.s .n (.s bI (.s .n (.s bI aZ)))) (Δ aak (Δ anp (Δ AI u0))) Tryz.func90 Tryz.call90 (λa0 σ=>by kernel_rfl) rfl rfl
theorem RN:Sound Tryz.prog aX 37 AG:=q1 [] 11 (.s .n (.s .n aZ)) (Δ aas u0) Tryz.func37 Tryz.call37 (λa0 σ=>by kernel_rfl) rfl rfl
theorem ani:Sound Tryz.prog aX 38 Kn:=q1 [1,7] 36 (.s .n (.s (.s .n bI) (.s .n (.s (.s .n (.b (.l [5,19] [.exit 0] (.s .n (.s fE (.s (.b aZ) .n)))))) aZ)))) (Δ Km (Δ RA (Δ AI u0))) Tryz.func38 Tryz.call38 (λa0 σ=>by kernel_rfl) rfl rfl
theorem aaF:Sound Tryz.prog aX 12 KR:=q1 [1] 82 (.s .n (.s .n (.s .n (.s (.s .n (.b (.l [1,3,24] [.exit 0] (.s .n (.s fE (.s (.b (.s .n (.s .n (.c [1,3] .n .n)))) .n)))))) (.s (.s .n (.c [1,3] .n .n)) (.s (.s .n (.c [1,3] .n .n)) (.s (.s .n (.c [1,3] aZ .n)) (.s (.s .n (.c [3] .n .n)) aZ)))))))) (Δ anq (Δ RN (Δ ani u0))) Tryz.func12 Tryz.call12 (λa0 σ=>by kernel_rfl) rfl rfl
theorem abh:Sound Tryz.prog aX 40 K5:=q1 [] 29 (.s .n (.s (.b (.s .n (.j aZ (.s .n (.j aZ bI))))) (.s .n (.s bI aZ)))) (Δ RJ (Δ anP (Δ AI u0))) Tryz.func40 Tryz.call40 (λa0 σ=>by kernel_rfl) rfl rfl
theorem aah:Sound Tryz.prog aX 13 KE:=q1 [1] 63 (.s .n (.s .n (.s (.b (.s .n (.c [1,3] .n (.s .n (.c [1,3] .n aZ))))) (.s (.s .n (.c [3] (.s .n (.s .n (.c [3] .n .n))) .n)) aZ)))) (Δ AI (Δ abh (Δ RN u0))) Tryz.func13 Tryz.call13 (λa0 σ=>by kernel_rfl) rfl rfl
end
section
open Go.RowKit Go.Sort
set_option maxHeartbeats 400000
theorem acX(b:Nat)(w:World)(h0:w.cell? ⟨b,0,μ⟩=δ (.pointer (δ ⟨b,0,μ⟩))):
  Calls Tryz.prog 35 #[.pointer (δ ⟨b,0,μ⟩)] w λe w'=>e=.returned (.tuple #[])/\w'=w:=by
 obtain⟨j,hj,_⟩:=cL.1 (show(Tryz.prog.info? 40).map (·.size)=δ 2 from by kernel_rfl)
 go_enter Tryz.func35,Tryz.ntmps35
 go_wp2
 rw[Lib.run_neq_ptr_same w _ Tryz.underlying37 hj]
 go_wp2
 go_end0
 exact⟨rfl,rfl⟩
theorem ab3(b:Nat)(w:World)(h0:w.cell? ⟨b,0,μ⟩=δ (.pointer μ))(hsh:w.shape? b=δ (40,2))(hfz:w.frozen? ⟨b,0,μ⟩=ε):
  Calls Tryz.prog 35 #[.pointer (δ ⟨b,0,μ⟩)] w λe w'=>e=.returned (.tuple #[])/\w'=w.setCell ⟨b,0,μ⟩ (.pointer (δ ⟨b,0,μ⟩)):=by
 obtain⟨j,hj,hjs⟩:=cL.1 (show(Tryz.prog.info? 40).map (·.size)=δ 2 from by kernel_rfl)
 go_enter Tryz.func35,Tryz.ntmps35
 go_wp2
 rw[Lib.run_to_unsafe w ⟨b,0,μ⟩ Tryz.underlying37 Tryz.underlying139 hj (by rw[hjs];decide) hsh (Nat.zero_lt_succ 1)];simp only[apJ];rw[apR]
 go_wp2
 rw[run_callFunc_extern Tryz.func88 (by kernel_rfl) (by kernel_rfl) (by kernel_rfl) (e:=Extern.AbiNoEscape.same) (by kernel_rfl)];rw[Lib.run_noEscape];simp only[apJ];rw[apR]
 go_wp2
 rw[Lib.run_from_unsafe w ⟨b,0,μ⟩ Tryz.underlying139 Tryz.underlying37 hj hsh (by kernel_rfl)];simp only[apJ];rw[apR]
 go_wp2
 go_end0
 exact⟨rfl,rfl⟩
theorem adW(B b:Nat)(bs:List Value)(w:World)(h:Ui 40 5 B b bs w):
  Calls Tryz.prog 35 #[.pointer (δ ⟨b,0,μ⟩)] w λe w'=>e=.returned (.tuple #[])/\(Yq 40 5 B b (.pointer (δ ⟨b,0,μ⟩)) bs w'/\Below B w w'/\aoT 5 (δ b) w w'):=by
 rcases h with h|h
 ·refine(ab3 b w h.cell0 h.shape h.frozen0).mono ?_;rintro e w' ⟨rfl,rfl⟩;exact⟨rfl,h.used _,(Below.refl B w).setCell (p:=⟨b,0,μ⟩) h.1 _,(aoT.refl _ _ w).setCell ⟨b,0,μ⟩ rfl _⟩
 ·refine(acX b w h.cell0).mono ?_;rintro e w' ⟨rfl,rfl⟩;exact⟨rfl,h,Below.refl B _,aoT.refl _ _ _⟩
theorem TO(B b:Nat)(bs:List Value)(s:ByteArray)(w:World)(h:Ui 40 5 B b bs w)(hlen:bs.length+s.size<=140737488355328)(hBw:B<=w.heap.size):
  Calls Tryz.prog 11 #[.pointer (δ ⟨b,0,μ⟩),.string s] w λe w'=>e=.returned (.tuple #[.int ξ s.size,.nilIface])/\(Yq 40 5 B b (.pointer (δ ⟨b,0,μ⟩)) (bs++Zs s) w'/\Below B w w'/\aoT 5 (δ b) w w'):=by
 obtain⟨i0,hi,hz0,hz1,hz2⟩:=info_parts (show(Tryz.prog.info? 5).map (λi=>(i.zero,i.size,i.bytes))=δ (δ (.int .u8 0),1,1)from by kernel_rfl)
 go_enter Tryz.func11,Tryz.ntmps11
 go_wp2_with (go_at_call 35;refine(adW B b bs _ h).mono ?_)
 rintro e w1 ⟨rfl,h1,Qm,hk1⟩;obtain⟨hB,v,hbk,hown,hne⟩:=h1;have c0:w1.cell? ⟨b,0,μ⟩=δ (.pointer (δ ⟨b,0,μ⟩)):=by rw[UM hbk];rfl
 have c1:w1.cell? ⟨b,1,μ⟩=δ v:=by rw[UM hbk];rfl
 go_wp2_with (at_builtin;refine Lib.wpList_append_own_string _ rfl _ _ 38 9 rfl B 5 i0 Tryz.underlying38 Tryz.underlying9 hi hz0 hz1 hz2 _ _ _ rfl hown s rfl ?c3 ?c4 ?c5 ?_)
 case c3=>unfold maxLen;omega
 case c4=>omega
 case c5=>have:=Qm.size;omega
 intro v' w2 aoz NG _
 have hlt:b<w1.heap.size:=by
  rcases Nat.lt_or_ge b w1.heap.size with h'|h'
  ·exact h'
  ·simp [ao8 h']at hbk
 have Fq:w2.heap[b]? =δ (.cells #[.pointer (δ ⟨b,0,μ⟩),v] 40 (0,0)):=by rw[NG.block b hlt (λe=>hne e.symm)];exact hbk
 have d0:w2.cell? ⟨b,0,μ⟩=δ (.pointer (δ ⟨b,0,μ⟩)):=by rw[UM Fq];rfl
 have d1:w2.cell? ⟨b,1,μ⟩=δ v:=by rw[UM Fq];rfl
 have f1:w2.frozen? ⟨b,1,μ⟩=ε:=Lib.frozen_of_heap Fq 1
 obtain⟨ao,n',cap,rfl⟩:∃ao n' cap,v'=.slice ao n' cap:=by
  rcases aoz.2 with⟨hv,_⟩|⟨g,cap,cur,hv,_⟩
  ·exact⟨_,_,_,hv⟩
  ·exact⟨_,_,_,hv⟩
 go_wp2
 go_ret2
 refine⟨rfl,?_,?_,?_⟩
 ·exact Yq.put (T:=40) (e:=5) hB Fq (bs':=bs++Zs s) (by simpa [Lib.strCells_length]using aoz) (by decide)
 ·exact(Qm.grown NG (by have:=Qm.size;omega) (λk hk=>(hown.lt k hk).1)).setCell (p:=⟨b,1,μ⟩) hB _
 ·refine(hk1.grown NG λg hg=>?_).setCell ⟨b,1,μ⟩ rfl _;rcases hown.2 with⟨rfl,_⟩|⟨g',cap,cur,rfl,_,Fy,_⟩
  ·cases hg
  ·simp only[Value.ownBlock,χ]at hg;subst hg;exact⟨_,_,Fy⟩
end
section
open Go.RowKit Go.Sort
theorem Ny{n:FuncId}{m:ay->Heap->aL}{iT:ay}{r:U}(hs:Sound Tryz.prog aX n m)(hc:∀us w,(callFunc n us).run Tryz.prog w=.ok (.enter n us) w){z:Z}(hnm:z.nm=aX)(hE:z.E=[])(hl:oU z){W:World}(hb:Below z.w.heap.size z.w W){vs:Array Value}(hr:aF (ctx z z.w [] cm) iT vs.toList)(hm:m iT []=δ (r,[])):
  Calls Tryz.prog n vs W λe W'=>∃v,e=.returned v/\an (ctx z W' [] cm) r v/\Below W.heap.size W W':=by
 have hl':oU ⟨W,[],z.X,z.nm⟩:=⟨λb k=>mW (hl b k) hb.size,hl.tab.to hb.size (λb k _=>hb.block b k) λb _ k=>by
  rcases k with k|⟨p,hp,_⟩
  ·exact .inl k
  ·cases hp⟩
 have vW:fQ (ctx ⟨W,[],z.X,z.nm⟩ W [] cm) []:=by
  refine⟨rfl,λi j p q hp=>?_,λi p x hp=>?_⟩
  ·simp [ctx]at hp
  ·simp [ctx]at hp
 have hr':aF (ctx ⟨W,[],z.X,z.nm⟩ W [] cm) iT vs.toList:=UN (nX (z:=z) (w:=z.w) (w':=W) (E:=[]) (pb:=cm) hb) _ _ hr;rcases hs _ _ _ _ hm with⟨g,h1,h2⟩|hv
 case inr=>
  obtain⟨v,w',E',k1,_⟩:=hv ⟨W,[],z.X,z.nm⟩ vs hnm hl' vW hr';rw[hc]at k1;injection k1 with k1
  cases k1
 have hg:g=n:=by
  have e1:=h1 #[] W;rw[hc #[] W]at e1;injection e1 with e1
  injection e1 with e1
  exact e1.symm
 subst hg;refine(h2 ⟨W,[],z.X,z.nm⟩ vs hnm hl' vW hr').mono ?_;rintro e w' ⟨v,E',rfl,ho,hh,hv⟩;have hE':E'=[]:=by have:=hh.len;simpa [ctx]using this
 subst hE';exact⟨v,rfl,hv,ho.os,ho.tape,ho.output,ho.size,λk hk=>ho.stay k hk (λp hp=>by cases hp)⟩
theorem aoh{c:RC}{sz b:Nat}:∀{es:List ay}{off k:Nat}{e:ay},bw c sz b off es->es[k]? =δ e->aS c b (off+k*sz) e
 |[],off,k,e,_,h=>by cases h
 |x::es,off,0,e,r,h=>by
  simp only[bw]at r;injection h with h
  subst h;simpa using r.2.1
 |x::es,off,k+1,e,r,h=>by simp only[bw]at r;have:=aoh (k:=k) r.2.2 (by simpa using h);rw[fJ,Nat.one_mul,Nat.add_comm (k*sz) sz,<-gf];exact this
theorem R7(a b:List UInt8):Zs (bZ (a++b))=Zs (bZ a)++Zs (bZ b):=by simp [Zs,bZ]
theorem Lo(a:List UInt8):(Zs (bZ a)).length=a.length:=by simp [Zs,bZ]
theorem Tn{T e:TypeId}{B b:Nat}{bs:List Value}{w w':World}(h:Ui T e B b bs w)(hb:Below w.heap.size w w'):Ui T e B b bs w':=by
 have key:∀p,Yq T e B b p bs w->Yq T e B b p bs w':=by intro p h;have hlt:=h.lt;obtain⟨hB,v,h1,h2,h3⟩:=h;exact⟨hB,v,by rw[hb.block b hlt];exact h1,h2.kept (row:=μ) ⟨hb.os,hb.tape,hb.output,hb.size,λk hk _=>hb.block k hk⟩ (by cases hv:v.ownBlock<;>simp),h3⟩
 rcases h with h|h
 ·exact .inl (key _ h)
 ·exact .inr (key _ h)
theorem Vv{c:RC}{sz:Nat}{es:List ay}{a:Option Addr}{n cap:Nat}(h:an c (.sl sz es) (.slice a n cap)):n=es.length/\∀k e,es[k]? =δ e->∃b off,a=δ ⟨b,off,μ⟩/\b<c.w.heap.size/\aS c b (off+k*sz) e:=by
 simp only[an]at h;obtain⟨a',cap',h1,h2,h3,h4⟩:=h;injection h1 with e1 e2 e3
 subst e1;refine⟨e2,λk e he=>?_⟩;rcases h4 with rfl|⟨b,off,rfl,h5,h6,h7⟩
 ·cases he
 ·exact⟨b,off,rfl,h5,aoh h7 he⟩
theorem Vt{c:RC}:aF c [] []:=by simp [aF]
theorem kO{c:RC}{a:U}{l:ay}{v:Value}{vs:List Value}(h:an c a v)(k:aF c l vs):aF c (a::l) (v::vs):=by simp only[aF];exact⟨v,vs,rfl,h,k⟩
theorem Vs{c:RC}{cs:ay}{vs:List Value}(h:aF c cs vs)(h1:∀x∈vs,cM x=ι):aF c [.agg cs] [.agg vs.toArray]:=by simp only[aF,an];exact⟨_,[],rfl,⟨vs.toArray,rfl,by simpa using h,by simpa using h1⟩,rfl⟩
set_option maxHeartbeats 4000000 in
theorem acP{z:Z}(hnm:z.nm=aX)(hE:z.E=[])(hl:oU z){us gs es:List ay}{pv:U}{e:Int}{a1 a2 a3:Option Addr}{n1 n2 n3 c1 c2 c3:Nat}{v2:Value}{out:List UInt8}{ft:Int}
  (hr:aF (ctx z z.w [] cm) [.agg [.sl 3 us,.sl 4 gs],pv,.sl 11 es] [.agg #[.slice a1 n1 c1,.slice a2 n2 c2],v2,.slice a3 n3 c3]) (uj:AD [.agg [.sl 3 us,.sl 4 gs],pv,.sl 11 es] []=δ (.int ξ e,[]))
  (hel:es.length<=9223372036854775807) (ho:zk e es=δ (.az [.str (bZ out),.int ξ ft],[])):
  Calls Tryz.prog 5 #[.agg #[.slice a1 n1 c1,.slice a2 n2 c2],v2,.slice a3 n3 c3] z.w λe w'=>e=.returned (.tuple #[.string (bZ out),.int ξ ft])/\Below z.w.heap.size z.w w':=by
 have OI:∀W,Below z.w.heap.size z.w W->_:=λW hb=>Ny RG Tryz.call10 hnm hE hl (W:=W) hb (vs:=#[.agg #[.slice a1 n1 c1,.slice a2 n2 c2],v2,.slice a3 n3 c3]) hr uj
 have b1:Below z.w.heap.size z.w (z.w.alloc (.cells #[.slice a1 n1 c1,.slice a2 n2 c2] 25)):=(Below.refl _ _).alloc (cg _) _;unfold zk at ho;by_cases h0:e=0
 case neg=>
  rw[aE h0]at ho;simp only[χ,Ξ,l6.injEq,VP,ψ.injEq,Ru.injEq,and_true,true_and]at ho;have hne:(e !=0)=ι:=by simpa using h0
  obtain⟨sG,rfl⟩:=ho;rw[<-sG]
  go_enter Tryz.func5,Tryz.ntmps5
  go_wp2_with fail
  refine(OI _ b1).mono ?_;rintro e1 w1 ⟨v,rfl,hv,hb⟩;simp only[an]at hv;subst hv
  go_wp2
  go_ret2
  exact⟨rfl,b1.trans (hb.mono (by simp))⟩
 case pos=>
  subst h0;rw[aG rfl]at ho;obtain⟨T,hT,ho⟩:=bh.1 ho
  have Qk:T.length<=140737488355328:=by
   by_cases h6:T.length<=600000
   ·omega
   ·rw[aE h6]at ho;by_cases h7:T.length<=140737488355328
    ·exact h7
    ·rw[aE h7]at ho;cases ho
  have jQ:an (ctx z z.w [] cm) (.sl 11 es) (.slice a3 n3 c3):=by simp only[aF,VP]at hr;obtain⟨_,_,⟨rfl,rfl⟩,_,_,_,⟨rfl,rfl⟩,_,_,_,⟨rfl,rfl⟩,h,_⟩:=hr;exact h
  obtain⟨jP,uh⟩:=Vv jQ;subst jP;have HC:=Ug uh;have HO:=Ug ho;have HT:=Ug hT;clear uh ho hT jQ
  go_enter Tryz.func5,Tryz.ntmps5
  go_wp2_with fail
  refine(OI _ b1).mono ?_;rintro e1 w1 ⟨v,rfl,hv,hb⟩;simp only[an]at hv;subst hv;clear OI;have g1:Below z.w.heap.size z.w w1:=b1.trans (hb.mono (by simp));clear b1 hb
  go_wp2_with fail
  have hB:=Lib.fresh_isBuilder 40 5 w1;have g2:Below z.w.heap.size z.w (w1.alloc (.cells #[.pointer μ,.slice μ 0 0] 40)):=g1.alloc g1.size _;generalize hW:w1.alloc (.cells #[.pointer μ,.slice μ 0 0] 40)=W at *
  have hbz:w1.heap.size<=W.heap.size:=by rw[<-hW];simp
  clear hW;generalize hb0:w1.heap.size=b at *
  have Ye:=Ug hbz;have PV:=Ug (show z.w.heap.size<=b by have:=g1.size;omega);clear hb0 hbz g1
  go_loopw [23] (λi wr=>∃(k:Nat)(acc:List UInt8),k<=es.length/\i=.int ξ k/\Ui 40 5 b b (Zs (bZ acc)) wr/\Below z.w.heap.size z.w wr/\Hid (b<=wr.heap.size)/\Hid (∃x,yS (es.drop k)=δ x/\acc++x=T)) (λi _=>es.length-(intOf i).toNat)
  case atStart=>exact⟨0,[],ve _,rfl,hB,g2,Ye,Ug ⟨T,HT.out,rfl⟩⟩
  case round=>
   clear hB g2 Ye HT;obtain⟨k,acc,hk,rfl,hB,hG,HB,HX⟩:=hrel;by_cases hlt:k<es.length
   ·obtain⟨x,hx,oV⟩:=HX.out;clear HX;rw[List.drop_eq_getElem_cons hlt]at hx;obtain⟨bk,off,rfl,hbk,hcs⟩:=HC.out k _ (cy hlt);generalize es[k]=ek at *
    unfold yS at hx;split at hx
    ·rename_i h';cases h'
    ·rename_i n t d u w o kk ps bb f ms rest h';injection h' with h1 h2
     subst h1 h2;split at hx
     ·rename_i s FB;split at hx
      ·rename_i hml;obtain⟨a,ha,hx⟩:=bh.1 hx;obtain⟨y,hy,rfl⟩:=cL.1 hx;obtain⟨v0,k0,o0,r0⟩:=ZW (i:=0) hcs rfl;obtain⟨v1,k1,o1,r1⟩:=ZW (i:=1) hcs rfl;obtain⟨v2,k2,o2,r2⟩:=ZW (i:=2) hcs rfl;obtain⟨v3,k3,o3,r3⟩:=ZW (i:=3) hcs rfl;obtain⟨v4,k4,o4,r4⟩:=ZW (i:=4) hcs rfl;obtain⟨v5,k5,o5,r5⟩:=ZW (i:=5) hcs rfl;obtain⟨v6,k6,o6,r6⟩:=ZW (i:=6) hcs rfl;obtain⟨v7,k7,o7,r7⟩:=ZW (i:=7) hcs rfl;obtain⟨v8,k8,o8,r8⟩:=ZW (i:=8) hcs rfl;obtain⟨v9,k9,o9,r9⟩:=ZW (i:=9) hcs rfl;obtain⟨v10,Y3,JB,bG⟩:=ZW (i:=10) hcs rfl;have hrl:=Vs (kO r0 (kO r1 (kO r2 (kO r3 (kO r4 (kO r5 (kO r6 (kO r7 (kO r8 (kO r9 (kO bG Vt))))))))))) (by simp [o0,o1,o2,o3,o4,o5,o6,o7,o8,o9,JB]);simp only[an]at r0 r1 r2 r3 r4 r5 r6 r8 r9;obtain⟨a7,p7,e7,_⟩:∃a p,v7=.slice a ps.length p/\True:=by simp only[an]at r7;obtain⟨a,p,e,_⟩:=r7;exact⟨a,p,e,trivial⟩
       obtain⟨PW,QM,iF,_⟩:∃a p,v10=.slice a ms.length p/\True:=by simp only[an]at bG;obtain⟨a,p,e,_⟩:=bG;exact⟨a,p,e,trivial⟩
       subst r0 r1 r2 r3 r4 r5 r6 r8 r9 e7 iF;obtain⟨_,hcm⟩:=Vv bG;have HM:=Ug hcm;clear r7 bG hcs hcm o0 o1 o2 o3 o4 o5 o6 o7 o8 o9 JB;have c0:=(hG.cell (p:=⟨bk,off+k*11+0,μ⟩) hbk).trans k0;have c1:=(hG.cell (p:=⟨bk,off+k*11+1,μ⟩) hbk).trans k1;have c2:=(hG.cell (p:=⟨bk,off+k*11+2,μ⟩) hbk).trans k2;have c3:=(hG.cell (p:=⟨bk,off+k*11+3,μ⟩) hbk).trans k3;have c4:=(hG.cell (p:=⟨bk,off+k*11+4,μ⟩) hbk).trans k4;have c5:=(hG.cell (p:=⟨bk,off+k*11+5,μ⟩) hbk).trans k5;have c6:=(hG.cell (p:=⟨bk,off+k*11+6,μ⟩) hbk).trans k6;have c7:=(hG.cell (p:=⟨bk,off+k*11+7,μ⟩) hbk).trans k7;have c8:=(hG.cell (p:=⟨bk,off+k*11+8,μ⟩) hbk).trans k8;have c9:=(hG.cell (p:=⟨bk,off+k*11+9,μ⟩) hbk).trans k9;have dR:=(hG.cell (p:=⟨bk,off+k*11+10,μ⟩) hbk).trans Y3;clear k0 k1 k2 k3 k4 k5 k6 k7 k8 k9 Y3;rw[aps]at c0
       go_wp2_with fail
       clear c0 c1 c2 c3 c4 c5 c6 c7 c8 c9 dR;generalize zQ:wr.alloc (.cells #[.int ξ n,.string t,.int ξ d,.int ξ u,.int ξ w,.int ξ o,.int ξ kk,.slice a7 ps.length p7,.bool bb,.int ξ f,.slice PW ms.length QM] 46)=W2;have xU:Below wr.heap.size wr W2:=by rw[<-zQ];exact(Below.refl _ _).alloc (cg _) _
       have Xy:W2.heap[wr.heap.size]? =δ (.cells #[.int ξ n,.string t,.int ξ d,.int ξ u,.int ξ w,.int ξ o,.int ξ kk,.slice a7 ps.length p7,.bool bb,.int ξ f,.slice PW ms.length QM] 46 (0,0)):=by rw[<-zQ];exact heap_alloc_new wr _
       have hsz:W2.heap.size=wr.heap.size+1:=by rw[<-zQ];simp
       clear zQ;have Fj:Below z.w.heap.size z.w W2:=hG.trans (xU.mono hG.size);refine(Ny aaF Tryz.call12 hnm hE hl Fj hrl FB).mono ?_;rintro e1 W3 ⟨v,rfl,hv,b3⟩;simp only[an]at hv;subst hv;have so:Below wr.heap.size wr W3:=xU.trans (b3.mono (by omega));have IF:W3.heap[wr.heap.size]? =_:=(b3.block _ (by omega)).trans Xy;have zP:=Tn hB so;have Fk:Below z.w.heap.size z.w W3:=hG.trans (so.mono hG.size);clear hrl FB hB Fj b3 xU Xy hsz;have IZ:(acc++(lZ s++(a++y))).length<=140737488355328:=by rw[oV];exact Qk
       simp only[p5]at IZ;have hss:s.size=(lZ s).length:=rfl
       go_wp2_with fail
       refine(TO b b _ s W3 zP (by rw[Lo];omega) (by have:=HB.out;have:=so.size;omega)).mono ?_;rintro e1 W4 ⟨rfl,Fh,b4,q4⟩;have ajh:=zP.elim (λq=>q.lt) (λq=>q.lt)
       have Xx:wr.heap.size≠b:=by
        intro e1;rcases zP with q|q
        ·obtain⟨_,v',q1,_⟩:=q;rw[<-e1,IF]at q1;injection q1 with q1
         injection q1 with q1 q2
         exact absurd q2 (by decide)
        ·obtain⟨_,v',q1,_⟩:=q;rw[<-e1,IF]at q1;injection q1 with q1
         injection q1 with q1 q2
         exact absurd q2 (by decide)
       have WK:=q4 _ _ IF (λe1=>Xx (Option.some.inj e1)) (λc fz e1=>by injection e1 with _ e2;exact absurd e2 (by decide));have ajj:W4.cell? ⟨wr.heap.size,10,μ⟩=δ (.slice PW ms.length QM):=by rw[UM WK];rfl
       have Jn:Below z.w.heap.size z.w W4:=Fk.trans (b4.mono PV.out)
       have Jm:Ui 40 5 b b (Zs (bZ (acc++lZ s))) W4:=by
        rw[R7];have:bZ (lZ s)=s:=by simp [bZ]
        rw[this];exact .inr Fh
       have Jg:Hid (b<=W4.heap.size):=Ug (by have:=HB.out;have:=so.size;have:=b4.size;omega);clear zP Fh b4 q4 so IF WK Xx Fk ajh HB hss
       go_wp2_with fail
       have HR:=Ug (show ∃x,xy (ms.drop 0)=δ x/\(acc++lZ s)++(x++y)=T from⟨a,ha,by rw[<-oV];simp⟩);have HY:=Ug hy;have hms:ms.length<=9223372036854775807:=hml;clear ha hy hx oV IZ ajj;generalize acc++lZ s=ahl at *
       go_loopw [33] (λi wr=>∃(j:Nat)(acc:List UInt8),j<=ms.length/\i=.int ξ j/\Ui 40 5 b b (Zs (bZ acc)) wr/\Below z.w.heap.size z.w wr/\Hid (b<=wr.heap.size)/\Hid (∃x,xy (ms.drop j)=δ x/\acc++(x++y)=T)) (λi _=>ms.length-(intOf i).toNat)
       case atStart=>exact⟨0,ahl,ve _,rfl,Jm,Jn,Jg,HR⟩
       case round=>
        clear Jm Jn Jg HR;obtain⟨j,acc,hj,rfl,hB,hG,HB,HX⟩:=hrel;by_cases hjt:j<ms.length
        ·obtain⟨x,hx,oV⟩:=HX.out;clear HX;rw[List.drop_eq_getElem_cons hjt]at hx;obtain⟨bm,om,rfl,ya,hcs⟩:=HM.out j _ (cy hjt);generalize ms[j]=ej at *
         unfold xy at hx;split at hx
         ·rename_i h';cases h'
         ·rename_i mu mp ml mq mr mt md mm rest h';injection h' with h1 h2
          subst h1 h2;split at hx
          ·rename_i s2 FB;obtain⟨a2,ha2,rfl⟩:=cL.1 hx;obtain⟨v0,k0,o0,r0⟩:=ZW (i:=0) hcs rfl;obtain⟨v1,k1,o1,r1⟩:=ZW (i:=1) hcs rfl;obtain⟨v2',k2,o2,r2⟩:=ZW (i:=2) hcs rfl;obtain⟨v3,k3,o3,r3⟩:=ZW (i:=3) hcs rfl;obtain⟨v4,k4,o4,r4⟩:=ZW (i:=4) hcs rfl;obtain⟨v5,k5,o5,r5⟩:=ZW (i:=5) hcs rfl;obtain⟨v6,k6,o6,r6⟩:=ZW (i:=6) hcs rfl;obtain⟨v7,k7,o7,r7⟩:=ZW (i:=7) hcs rfl;have hrl:=Vs (kO r0 (kO r1 (kO r2 (kO r3 (kO r4 (kO r5 (kO r6 (kO r7 Vt)))))))) (by simp [o0,o1,o2,o3,o4,o5,o6,o7]);simp only[an]at r0 r1 r2 r3 r4 r5 r6 r7;subst r0 r1 r2 r3 r4 r5 r6 r7;have c0:=(hG.cell (p:=⟨bm,om+j*8+0,μ⟩) ya).trans k0;have c1:=(hG.cell (p:=⟨bm,om+j*8+1,μ⟩) ya).trans k1;have c2:=(hG.cell (p:=⟨bm,om+j*8+2,μ⟩) ya).trans k2;have c3:=(hG.cell (p:=⟨bm,om+j*8+3,μ⟩) ya).trans k3;have c4:=(hG.cell (p:=⟨bm,om+j*8+4,μ⟩) ya).trans k4;have c5:=(hG.cell (p:=⟨bm,om+j*8+5,μ⟩) ya).trans k5;have c6:=(hG.cell (p:=⟨bm,om+j*8+6,μ⟩) ya).trans k6;have c7:=(hG.cell (p:=⟨bm,om+j*8+7,μ⟩) ya).trans k7;clear k0 k1 k2 k3 k4 k5 k6 k7 hcs;rw[aps]at c0
           go_wp2_with fail
           clear c0 c1 c2 c3 c4 c5 c6 c7;generalize zQ:wr.alloc (.cells #[.int ξ mu,.string mp,.int ξ ml,.int ξ mq,.bool mr,.bool mt,.int ξ md,.int ξ mm] 57)=W2;have xU:Below wr.heap.size wr W2:=by rw[<-zQ];exact(Below.refl _ _).alloc (cg _) _
           clear zQ;have Fj:Below z.w.heap.size z.w W2:=hG.trans (xU.mono hG.size);refine(Ny aah Tryz.call13 hnm hE hl Fj hrl FB).mono ?_;rintro e1 W3 ⟨v,rfl,hv,b3⟩;simp only[an]at hv;subst hv;have so:Below wr.heap.size wr W3:=xU.trans (b3.mono xU.size);have zP:=Tn hB so;have Fk:Below z.w.heap.size z.w W3:=hG.trans (so.mono hG.size);clear hrl FB hB Fj b3 xU;have IZ:(acc++(lZ s2++a2++y)).length<=140737488355328:=by rw[oV];exact Qk
           simp only[p5]at IZ;have hss:s2.size=(lZ s2).length:=rfl
           go_wp2_with fail
           refine(TO b b _ s2 W3 zP (by rw[Lo];omega) (by have:=HB.out;have:=so.size;omega)).mono ?_;rintro e1 W4 ⟨rfl,Fh,b4,q4⟩;have Jn:Below z.w.heap.size z.w W4:=Fk.trans (b4.mono PV.out)
           have Jm:Ui 40 5 b b (Zs (bZ (acc++lZ s2))) W4:=by
            rw[R7];have:bZ (lZ s2)=s2:=by simp [bZ]
            rw[this];exact .inr Fh
           have Jg:Hid (b<=W4.heap.size):=Ug (by have:=HB.out;have:=so.size;have:=b4.size;omega);clear zP Fh b4 q4 so Fk HB hss
           go_wp2
           go_roundw
           case rel=>exact⟨j+1,acc++lZ s2,by omega,by go_num,Jm,Jn,Jg,Ug ⟨a2,ha2,by rw[<-oV];simp⟩⟩
           case measure=>simp [intOf];omega
          ·cases hx
         ·cases hx
        ·have hj':j=ms.length:=by omega
         subst hj';obtain⟨x,hx,oV⟩:=HX.out;rw[List.drop_length,xy]at hx;injection hx with hx
         subst hx
         go_wp2
         go_roundw
         case rel=>exact⟨k+1,acc,by omega,by go_num,hB,hG,HB,Ug ⟨y,HY.out,by rw[<-oV];simp⟩⟩
         case measure=>simp [intOf];omega
      ·cases hx
     ·cases hx
    ·cases hx
   ·have hk':k=es.length:=by omega
    subst hk';obtain⟨x,hx,oV⟩:=HX.out;rw[List.drop_length,yS]at hx;injection hx with hx
    subst hx;rw[Zq]at oV;subst oV;have ho:=HO.out;have hcs:=Lo acc;by_cases h6:acc.length<=600000
    ·rw[aG h6]at ho;simp only[χ,Ξ,l6.injEq,VP,ψ.injEq,Ru.injEq,and_true,true_and]at ho;obtain⟨sG,rfl⟩:=ho;have hd:decide ((600000:Int)<(acc.length:Int))=ε:=gJ (by omega);have hd2:decide (600000<acc.length)=ε:=gJ (by omega)
     go_wp2_with fail
     refine(Tryz.Builder_Len b b _ _ hB).mono ?_;rintro e1 w' ⟨rfl,rfl⟩;rw[hcs]
     go_wp2_with fail
     refine(Tryz.Builder_String_any b b acc _ (by simpa [Lib.byteCells,Zs,bZ]using hB) HB.out).mono ?_;rintro e1 w' ⟨rfl,hb'⟩
     go_wp2
     go_ret2
     exact⟨by rw[<-sG];rfl,hG.trans (hb'.mono PV.out)⟩
    ·rw[aE h6,aG Qk]at ho;simp only[χ,Ξ,l6.injEq,VP,ψ.injEq,Ru.injEq,and_true,true_and]at ho;obtain⟨sG,rfl⟩:=ho;have hd:decide ((600000:Int)<(acc.length:Int))=ι:=mj (by omega);have hd2:decide (600000<acc.length)=ι:=mj (by omega)
     go_wp2_with fail
     refine(Tryz.Builder_Len b b _ _ hB).mono ?_;rintro e1 w' ⟨rfl,rfl⟩;rw[hcs]
     go_wp2
     go_ret2
     exact⟨by rw[<-sG];rfl,hG⟩
theorem adG{e:Int}{es:List ay}{r:U}{σ':Heap}(h:zk e es=δ (r,σ')):∃out ft,r=.az [.str (bZ out),.int ξ ft]/\σ'=[]:=by
 unfold zk at h;split at h
 ·obtain⟨t,_,h⟩:=bh.1 h;split at h
  ·injection h with h;injection h with h1 h2
   exact⟨_,_,h1.symm,h2.symm⟩
  ·split at h
   ·injection h with h;injection h with h1 h2
    exact⟨[],_,h1.symm,h2.symm⟩
   ·cases h
 ·injection h with h;injection h with h1 h2
  exact⟨[],_,h1.symm,h2.symm⟩
theorem acC:Sound Tryz.prog aX 5 uE:=by
 intro args σ r σ' h;unfold uE A.nA at h;split at h;case h_2=>cases h
 rename_i x0 x1 x2;simp only at h;split at h;case h_2=>cases h
 rename_i us gs es;obtain⟨q,hq,h⟩:=bh.1 h;split at h;case h_2=>cases h
 rename_i e;split at h;case isFalse=>cases h
 rename_i hel;obtain⟨out,ft,rfl,rfl⟩:=adG h;refine .inl ⟨5,Tryz.call5,λz vs e1 e2 hh ha=>?_⟩;have hE:z.E=[]:=by have:=hh.len;simpa [ctx]using this
 rw[hE]at ha hh
 obtain⟨w1,w2,w3,q1,YJ,anx⟩:∃w1 w2 w3,vs.toList=[w1,w2,w3]/\an (ctx z z.w [] cm) (.agg [.sl 3 us,.sl 4 gs]) w1/\an (ctx z z.w [] cm) (.sl 11 es) w3:=by have ha':=ha;rw[aF]at ha';obtain⟨w1,vs1,e3,h3,ha'⟩:=ha';rw[aF]at ha';obtain⟨w2,vs2,e4,h4,ha'⟩:=ha';rw[aF]at ha';obtain⟨w3,vs3,e5,h5,ha'⟩:=ha';rw[aF]at ha';subst ha';subst e5;subst e4;exact⟨w1,w2,w3,e3,h3,h5⟩
 obtain⟨va,rfl,a1,c1,a2,c2,q2⟩:∃va,w1=.agg va/\∃a1 c1 a2 c2,va.toList=[.slice a1 us.length c1,.slice a2 gs.length c2]:=by rw[an]at YJ;obtain⟨va,e3,h3,_⟩:=YJ;rw[aF]at h3;obtain⟨s1,vs2,e4,h4,h3⟩:=h3;rw[aF]at h3;obtain⟨s2,vs3,e5,h5,h3⟩:=h3;rw[aF]at h3;subst h3;subst e5;rw[an]at h4 h5;obtain⟨a1,c1,e6,_⟩:=h4;obtain⟨a2,c2,e7,_⟩:=h5;exact⟨va,e3,a1,c1,a2,c2,by rw[e4,e6,e7]⟩
 obtain⟨a3,c3,rfl⟩:∃a3 c3,w3=.slice a3 es.length c3:=by rw[an]at anx;obtain⟨a3,c3,e6,_⟩:=anx;exact⟨a3,c3,e6⟩
 obtain rfl:vs=#[.agg va,w2,.slice a3 es.length c3]:=jI.1 (by rw[q1]);obtain rfl:va=#[.slice a1 us.length c1,.slice a2 gs.length c2]:=jI.1 (by rw[q2]);refine(acP e1 hE e2 ha hq hel h).mono ?_;rintro e w' ⟨rfl,hb⟩;have hout:Out z z.w z.E:=⟨rfl,rfl,rfl,cg _,λ_ _ _=>rfl,λi p hp=>.inr ⟨p,hp,rfl⟩,λi p hp=>⟨p,hp,.inl rfl⟩,e2,λp hp=>by rw[hE]at hp;cases hp⟩
 refine⟨_,z.E,rfl,hout.grow hb,?_,?_⟩
 ·rw[hE];exact hh.mono (nX hb) rfl (λp hp=>by cases hp)
 ·simp [an,aF]
end
section
theorem ZC:Sound Tryz.prog aX 3 Rm:=q3 [3] 37 (.s .n (.s .n (.s bI (.s .n aZ)))) (Δ acC (Δ acB (Δ aaD u0))) Tryz.func3 Tryz.call3 (λa0 a1 a2 σ=>by kernel_rfl) rfl rfl
end
instance : Inhabited ByteArray := ⟨⟨#[]⟩⟩
instance : Inhabited eA := ⟨⟨0, 0⟩⟩
theorem ac2(a b:eA):X4 (.s [0,0]) (.agg (cx a)) (.agg (cx b))=δ (decide (a=b)):=by obtain⟨x1,x2⟩:=a;obtain⟨zl,zm⟩:=b;simp only[X4,cx,YB,A.jq,A.jN,A.ql,A.lN,if_true,aB,eB,bq];congr 1;rw[kg];simp [and_assoc]
theorem aeo(a b:eA):Lu (.s [0,0]) (.agg (cx a)) (.agg (cx b))=δ (.bool (decide (¬(a=b)))):=by rw[Lu,ac2,eB,decide_not]
instance : Inhabited fZ := ⟨⟨0, []⟩⟩
instance : Inhabited Wq := ⟨⟨0, 0, 0, 0, 0, ⟨0, []⟩⟩⟩
instance : Inhabited aeN := ⟨⟨0, 0⟩⟩
instance : Inhabited lX := ⟨⟨0, 0, ⟨#[]⟩⟩⟩
instance : Inhabited iu := ⟨⟨⟨#[]⟩, 0, 0, 0, 0, ε, []⟩⟩
instance : Inhabited dG := ⟨⟨⟨#[]⟩, 0, []⟩⟩
instance : Inhabited fS := ⟨⟨0, ⟨#[]⟩, 0, 0⟩⟩
instance : Inhabited ef := ⟨⟨[], []⟩⟩
instance : Inhabited au := ⟨⟨0, ⟨#[]⟩⟩⟩
theorem C6(a b:au):X4 (.s [0,2]) (.agg (cB a)) (.agg (cB b))=δ (decide (a=b)):=by obtain⟨x1,x2⟩:=a;obtain⟨zl,zm⟩:=b;simp only[X4,cB,YB,A.jq,A.jN,A.ql,A.lN,if_true,aB,eB,bq];congr 1;rw[kg];simp [and_assoc]
theorem agf(a b:au):p4 (.s [0,2]) (.agg (cB a)) (.agg (cB b))=δ (.bool (decide (a=b))):=by rw[p4,C6];rfl
instance : Inhabited rD := ⟨⟨⟨0, ⟨#[]⟩⟩, 0⟩⟩
instance : Inhabited fY := ⟨⟨0, ⟨#[]⟩, []⟩⟩
instance : Inhabited ahi := ⟨⟨[], 0, 0⟩⟩
instance : Inhabited aO := ⟨⟨0, 0⟩⟩
theorem ac3(a b:aO):X4 (.s [0,0]) (.agg (tD a)) (.agg (tD b))=δ (decide (a=b)):=by obtain⟨x1,x2⟩:=a;obtain⟨zl,zm⟩:=b;simp only[X4,tD,YB,A.jq,A.jN,A.ql,A.lN,if_true,aB,eB,bq];congr 1;rw[kg];simp [and_assoc]
theorem aep(a b:aO):Lu (.s [0,0]) (.agg (tD a)) (.agg (tD b))=δ (.bool (decide (¬(a=b)))):=by rw[Lu,ac3,eB,decide_not]
instance : Inhabited aJ := ⟨⟨⟨0, ⟨#[]⟩⟩, ⟨0, 0⟩, ε, ε, 0, 0⟩⟩
theorem ad2(a b:aJ):X4 (.s [0,2,0,0,1,1,0,0]) (.agg (aW a)) (.agg (aW b))=δ (decide (a=b)):=by obtain⟨⟨x1,x2⟩,⟨x3,x4⟩,x5,x6,x7,x8⟩:=a;obtain⟨⟨zl,zm⟩,⟨BV,X8⟩,X9,amK,Ja,Ya⟩:=b;simp only[X4,aW,YB,A.jq,A.jN,A.ql,A.lN,if_true,aB,eB,bq];congr 1;rw[kg];simp [and_assoc]
theorem afv(a b:aJ):Lu (.s [0,2,0,0,1,1,0,0]) (.agg (aW a)) (.agg (aW b))=δ (.bool (decide (¬(a=b)))):=by rw[Lu,ad2,eB,decide_not]
instance : Inhabited aP := ⟨⟨0, ⟨#[]⟩, 0, 0, 0, 0, ⟨0, []⟩, ε, 0, []⟩⟩
instance : Inhabited afX := ⟨⟨⟨0, ⟨#[]⟩⟩, ⟨0, 0⟩, 0⟩⟩
instance : Inhabited agS := ⟨⟨0, 0, 0⟩⟩
instance : Inhabited Wr := ⟨⟨0, []⟩⟩
instance : Inhabited S5 := ⟨⟨0, 0, 0⟩⟩
instance : Inhabited af3 := ⟨⟨⟨[], []⟩, [], [], []⟩⟩
instance : Inhabited UE := ⟨⟨0, 0, 0, 0, 0⟩⟩
instance : Inhabited afY := ⟨⟨0, ⟨0, 0, 0, 0, 0⟩⟩⟩
instance : Inhabited af6 := ⟨⟨0, 0, 0, 0⟩⟩
instance : Inhabited Xa := ⟨⟨⟨0, ⟨#[]⟩⟩, ⟨0, 0, 0, 0, 0, ⟨0, []⟩⟩, 0, ε⟩⟩
instance : Inhabited acO := ⟨⟨0, 0, 0, ε, 0, []⟩⟩
instance : Inhabited an0 := ⟨⟨0, 0, 0⟩⟩
instance : Inhabited UG := ⟨⟨0, 0, 0, 0, 0, 0, ε, ε, []⟩⟩
instance : Inhabited aoe := ⟨⟨0, 0⟩⟩
instance : Inhabited adL := ⟨⟨⟨0, 0, 0, 0, 0, 0, ε, ε, []⟩, [], 0, [], 0, 0, 0⟩⟩
section
def Rf{β τ:Type}(M:Option β)(T:Option τ)(Q:τ->β->Prop):Prop:=∀t,T=δ t->∃b,M=δ b/\Q t b
section
variable {α β ω τ ζ : Type}
theorem aj{M0:Option α}{K:α->Option β}{T:Option τ}{Q:τ->β->Prop}(a:α)(h:M0=δ a)(k:Rf (K a) T Q):Rf (M0.bind K) T Q:=by intro t ht;obtain⟨b,h1,h2⟩:=k t ht;exact⟨b,by rw[h];exact h1,h2⟩
theorem aK{M0:Option α}{K:α->Option β}{o:Option ω}{K':ω->Option τ}{Q:τ->β->Prop}(e:ω->α)(h:∀t,o=δ t->M0=δ (e t))(k:∀t,o=δ t->Rf (K (e t)) (K' t) Q):Rf (M0.bind K) (o.bind K') Q:=by intro t ht;obtain⟨x,h1,h2⟩:=bh.1 ht;obtain⟨b,h3,h4⟩:=k x h1 t h2;exact⟨b,by rw[h x h1];exact h3,h4⟩
theorem nj{M0:Option α}{K:α->Option β}{o:Option ω}{K':ω->Option τ}{Q:τ->β->Prop}(Q0:ω->α->Prop)(h:Rf M0 o Q0)(k:∀t a,Q0 t a->Rf (K a) (K' t) Q):Rf (M0.bind K) (o.bind K') Q:=by intro t ht;obtain⟨x,h1,h2⟩:=bh.1 ht;obtain⟨a,h3,h4⟩:=h x h1;obtain⟨b,h5,h6⟩:=k x a h4 t h2;exact⟨b,by rw[h3];exact h5,h6⟩
theorem ahg{M:Option β}{o:Option ω}{K':ω->Option τ}{Q:τ->β->Prop}(h:∀t,o=δ t->Rf M (K' t) Q):Rf M (o.bind K') Q:=by intro t ht;obtain⟨x,h1,h2⟩:=bh.1 ht;exact h x h1 t h2
theorem bu{t:τ}{b:β}{Q:τ->β->Prop}(h:Q t b):Rf (δ b) (δ t) Q:=by intro u hu;cases hu;exact⟨b,rfl,h⟩
theorem aU{M:Option β}{t:τ}{Q:τ->β->Prop}(b:β)(e:M=δ b)(h:Q t b):Rf M (δ t) Q:=by rw[e];exact bu h
theorem afL{M:Option β}{Q:τ->β->Prop}:Rf M (μ:Option τ) Q:=by intro u hu;cases hu
theorem Dr{M:Option β}{p:Prop}[Decidable p]{T:Option τ}{Q:τ->β->Prop}(h:p->Rf M T Q):Rf M (if p then T else μ) Q:=by
 split
 ·exact h ‹_›
 ·exact afL
theorem cP{p:Prop}[Decidable p]{X Y:Option β}{X' Y':Option τ}{Q:τ->β->Prop}(h1:p->Rf X X' Q)(h2:¬p->Rf Y Y' Q):Rf (Γ (.bool (decide p)) X Y) (if p then X' else Y') Q:=by
 by_cases h:p
 ·simp only[h,decide_true,if_true];exact h1 h
 ·simp only[h,decide_false,if_false];exact h2 h
theorem cA{c:Bool}{X Y:Option β}{X' Y':Option τ}{Q:τ->β->Prop}(h1:c=ι->Rf X X' Q)(h2:c=ε->Rf Y Y' Q):Rf (Γ (.bool c) X Y) (if c=ι then X' else Y') Q:=by
 cases c
 ·exact h2 rfl
 ·exact h1 rfl
theorem lF{X Y:Option β}{T:Option τ}{Q:τ->β->Prop}(h:Rf X T Q):Rf (Γ (.bool ι) X Y) T Q:=h
theorem lE{X Y:Option β}{T:Option τ}{Q:τ->β->Prop}(h:Rf Y T Q):Rf (Γ (.bool ε) X Y) T Q:=h
theorem fD{c:Bool}{X Y:Option β}{T:Option τ}{Q:τ->β->Prop}(e:c=ι)(h:Rf X T Q):Rf (bif c then X else Y) T Q:=by rw[e];exact h
theorem oo{c:Bool}{X Y:Option β}{T:Option τ}{Q:τ->β->Prop}(e:c=ε)(h:Rf Y T Q):Rf (bif c then X else Y) T Q:=by rw[e];exact h
def gv{α:Type}(g:Bool)(e:α->U)(t:α):U:=bif g then e t else .az []
end
inductive Lr (S B R : Type) where
 |go(s:S)
 |lK(b:B)
 |ret(r:R)
def gh{α S B R:Type}(body:Nat->α->S->Option (Lr S B R))(fin:S->Option B):List α->Nat->S->Option (B ⊕ R)
 |[],_,s=>(fin s).map .inl
 |x::l,i,s=>(body i x s).bind λq=>match q with|.go s'=>gh body fin l (i+1) s'|.lK b=>δ (.inl b)|.ret r=>δ (.inr r)
def gL{α S B R γ:Type}(l:List α)(body:Nat->α->S->Option (Lr S B R))(fin:S->Option B)(s:S)(K1:B->Option γ)(K2:R->Option γ):Option γ:=
 if l.length<=cz then(gh body fin l 0 s).bind λq=>q.elim K1 K2 else μ
def oF{S B R:Type}(body:S->Option (Lr S B R)):Nat->S->Option (B ⊕ R)
 |0,_=>μ
 |n+1,s=>(body s).bind λq=>match q with|.go s'=>oF body n s'|.lK b=>δ (.inl b)|.ret r=>δ (.inr r)
def qz {S B R:Type} (body:S->Option (Lr S B R)) (s:S):Option (B ⊕ R):=open Classical in if h:∃n r,oF body n s=δ r then δ (aoW (Zx h))else μ
def qy {S B R γ:Type} (body:S->Option (Lr S B R)) (s:S) (K1:B->Option γ) (K2:R->Option γ):Option γ:=(qz body s).bind λq=>q.elim K1 K2
theorem afm{S B R:Type}{body:S->Option (Lr S B R)}:∀{n m:Nat}{s:S}{r r':B ⊕ R},oF body n s=δ r->oF body m s=δ r'->r=r':=by
 intro n;induction n with
 |zero=>intro m s r r' h;cases h
 |succ n ih=>
  intro m s r r' h1 h2;cases m with
  |zero=>cases h2
  |succ m=>
   simp only[oF]at h1 h2;cases hf:body s with
   |none=>rw[hf]at h1;cases h1
   |some q=>
    rw[hf]at h1 h2;simp only[aB]at h1 h2;cases q with
    |go s'=>exact ih h1 h2
    |lK b=>simp only at h1 h2;rw[h1]at h2;injection h2
    |ret b=>simp only at h1 h2;rw[h1]at h2;injection h2
theorem IC{S B R:Type}{body:S->Option (Lr S B R)}{n:Nat}{s:S}{r:B ⊕ R}(h:oF body n s=δ r):qz body s=δ r:=by
 have hex:∃n r,oF body n s=δ r:=⟨n,r,h⟩
 unfold qz;rw[dif_pos hex];exact congrArg δ (afm (Zx (Zx hex)) h)
theorem NB{S B R:Type}{body:S->Option (Lr S B R)}{s:S}{r:B ⊕ R}(h:qz body s=δ r):∃n,oF body n s=δ r:=by
 unfold qz at h;split at h
 ·rename_i hx;injection h with h
  subst h;exact⟨_,Zx (Zx hx)⟩
 ·cases h
theorem HG{S B R:Type}(body:S->Option (Lr S B R))(s:S):qz body s=(body s).bind λq=>match q with|.go s'=>qz body s'|.lK b=>δ (.inl b)|.ret r=>δ (.inr r):=by
 cases hf:body s with
 |none=>
  rw[Option.bind_none];unfold qz;rw[dif_neg];rintro⟨n,r,h⟩;cases n with
  |zero=>cases h
  |succ n=>simp [oF,hf]at h
 |some q=>
  rw[aB];cases q with
  |lK b=>exact IC (n:=1) (by simp [oF,hf])
  |ret b=>exact IC (n:=1) (by simp [oF,hf])
  |go s'=>
   show qz body s=qz body s';cases h:qz body s' with
   |some r=>obtain⟨n,hn⟩:=NB h;exact IC (n:=n+1) (by simp [oF,hf,hn])
   |none=>
    cases h2:qz body s with
    |none=>rfl
    |some r=>
     obtain⟨n,hn⟩:=NB h2;cases n with
     |zero=>cases hn
     |succ n=>simp only[oF,hf,aB]at hn;rw[IC hn]at h;cases h
section
variable {α S B R β τ : Type}
abbrev LS:=AX×ay×Heap
def EZ(I:S->ay->Heap->Prop)(QB:B->LS->Prop)(QR:R->LS->Prop)(t:Lr S B R)(q:LS):Prop:=match t with
 |.go s=>q.1=.normal/\I s q.2.1 q.2.2
 |.lK b=>q.1≠.normal/\QB b q
 |.ret r=>q.1≠.normal/\QR r q
theorem jF{I:S->ay->Heap->Prop}{QB:B->LS->Prop}{QR:R->LS->Prop}{s:S}{v:ay}{σ:Heap}(h:I s v σ):EZ I QB QR (.go s) (.normal,v,σ):=⟨rfl,h⟩
theorem Ij{I:S->ay->Heap->Prop}{QB:B->LS->Prop}{QR:R->LS->Prop}{b:B}{q:LS}(n:q.1≠.normal)(h:QB b q):EZ I QB QR (.lK b) q:=⟨n,h⟩
theorem fR{I:S->ay->Heap->Prop}{QB:B->LS->Prop}{QR:R->LS->Prop}{r:R}{q:LS}(n:q.1≠.normal)(h:QR r q):EZ I QB QR (.ret r) q:=⟨n,h⟩
theorem lB{f:ay->Heap->Option LS}{K:LS->Option β}{Q:τ->β->Prop}{l:List α}{body:Nat->α->S->Option (Lr S B R)}{fin:S->Option B}{s0:S}{K1:B->Option τ}{K2:R->Option τ}{v0:ay}{aM:Heap}
  (I:Nat->S->ay->Heap->Prop) (QB:B->LS->Prop) (QR:R->LS->Prop)
  (hstep:l.length<=cz->∀i x s v σ,l[i]? =δ x->I i s v σ->Rf (f v σ) (body i x s) (EZ (I (i+1)) QB QR))
  (hend:l.length<=cz->∀s v σ,I l.length s v σ->Rf (f v σ) (fin s) (λb q=>q.1≠.normal/\QB b q))
  (h0:I 0 s0 v0 aM) (k1:l.length<=cz->∀b q,QB b q->Rf (K q) (K1 b) Q) (k2:l.length<=cz->∀r q,QR r q->Rf (K q) (K2 r) Q):
  Rf ((Zp f v0 aM).bind K) (gL l body fin s0 K1 K2) Q:=by
 unfold gL;refine Dr λhl=>?_
 have hstep:=hstep hl;have hend:=hend hl
 have key:∀(rest pre:List α)(s:S)(v:ay)(σ:Heap),l=pre++rest->I pre.length s v σ->∀t,gh body fin rest pre.length s=δ t->∃q,(∃n,aoM f n v σ=δ q)/\(match t with|.inl b=>QB b q|.inr r=>QR r q):=by
  intro rest;induction rest with
  |nil=>intro pre s v σ hl hI t ht;rw[Zq]at hl;subst hl;simp only[gh]at ht;obtain⟨b,hb,rfl⟩:=cL.1 ht;obtain⟨q,h1,h2,h3⟩:=hend s v σ hI b hb;exact⟨q,uF h1 h2,h3⟩
  |cons x rest ih=>
   intro pre s v σ hl hI t ht;simp only[gh]at ht;obtain⟨y,hy,h2⟩:=bh.1 ht;obtain⟨q,h3,h4⟩:=hstep pre.length x s v σ (by rw[hl];simp) hI y hy;obtain⟨e,v',σ'⟩:=q;cases y with
   |go s'=>obtain⟨rfl,Fl⟩:=h4;obtain⟨q,h5,h6⟩:=ih (pre++[x]) s' v' σ' (by simpa using hl) (by simpa using Fl) t (by simpa using h2);exact⟨q,sY h3 h5,h6⟩
   |lK b=>simp only[χ]at h2;subst h2;exact⟨_,uF h3 h4.1,h4.2⟩
   |ret b=>simp only[χ]at h2;subst h2;exact⟨_,uF h3 h4.1,h4.2⟩
 intro t ht;obtain⟨y,hy,h2⟩:=bh.1 ht;obtain⟨q,⟨n,hn⟩,h3⟩:=key l [] s0 v0 aM rfl h0 y hy;cases y with
 |inl b=>obtain⟨z,h4,h5⟩:=k1 hl b q h3 t h2;exact⟨z,by rw[yD hn];exact h4,h5⟩
 |inr b=>obtain⟨z,h4,h5⟩:=k2 hl b q h3 t h2;exact⟨z,by rw[yD hn];exact h4,h5⟩
theorem NN{f:ay->Heap->Option LS}{K:LS->Option β}{Q:τ->β->Prop}{body:S->Option (Lr S B R)}{s0:S}{K1:B->Option τ}{K2:R->Option τ}{v0:ay}{aM:Heap}
  (I:S->ay->Heap->Prop) (QB:B->LS->Prop) (QR:R->LS->Prop)
  (hstep:∀s v σ,I s v σ->Rf (f v σ) (body s) (EZ I QB QR))
  (h0:I s0 v0 aM) (k1:∀b q,QB b q->Rf (K q) (K1 b) Q) (k2:∀r q,QR r q->Rf (K q) (K2 r) Q):
  Rf ((Zp f v0 aM).bind K) (qy body s0 K1 K2) Q:=by
 have key:∀(n:Nat)(s:S)(v:ay)(σ:Heap),I s v σ->∀t,oF body n s=δ t->∃q,(∃n,aoM f n v σ=δ q)/\(match t with|.inl b=>QB b q|.inr r=>QR r q):=by
  intro n;induction n with
  |zero=>intro s v σ hI t ht;cases ht
  |succ n ih=>
   intro s v σ hI t ht;simp only[oF]at ht;obtain⟨y,hy,h2⟩:=bh.1 ht;obtain⟨q,h3,h4⟩:=hstep s v σ hI y hy;obtain⟨e,v',σ'⟩:=q;cases y with
   |go s'=>obtain⟨rfl,Fl⟩:=h4;obtain⟨q,h5,h6⟩:=ih s' v' σ' Fl t h2;exact⟨q,sY h3 h5,h6⟩
   |lK b=>simp only[χ]at h2;subst h2;exact⟨_,uF h3 h4.1,h4.2⟩
   |ret b=>simp only[χ]at h2;subst h2;exact⟨_,uF h3 h4.1,h4.2⟩
 intro t ht;obtain⟨y,hy,h2⟩:=bh.1 ht;obtain⟨n,hn⟩:=NB hy;obtain⟨q,⟨m,hm⟩,h3⟩:=key n s0 v0 aM h0 y hn;cases y with
 |inl b=>obtain⟨z,h4,h5⟩:=k1 b q h3 t h2;exact⟨z,by rw[yD hm];exact h4,h5⟩
 |inr b=>obtain⟨z,h4,h5⟩:=k2 b q h3 t h2;exact⟨z,by rw[yD hm];exact h4,h5⟩
theorem kS{l:List α}{i:Nat}{x:α}(h:l[i]? =δ x):ZS (.ah (i:Int)) (.ah (l.length:Int))=δ (.bool ι):=by have:=(cD.1 h).1;rw[BG];simp;omega
theorem kQ(l:List α):ZS (.ah (l.length:Int)) (.ah (l.length:Int))=δ (.bool ε):=by rw[BG];simp
theorem kG{l:List α}{i:Nat}{x:α}(h:l[i]? =δ x)(hl:l.length<=cz):u9 (.ah (i:Int)) (.ah 1)=δ (.ah ((i+1:Nat):Int)):=by have:=(cD.1 h).1;rw[NX,dh (by unfold aR;unfold cz at hl;omega)];simp
def cJ(l:List α)(i:Int):Option α:=if 0<=i then l[i.toNat]? else μ
theorem fP{sz:Nat}{c:α->ay}{l:List α}{i:Int}{x:α}(h:cJ l i=δ x):Zv sz (sl sz c l) (.ah i)=δ (.rp (c x)):=by
 unfold cJ at h;split at h
 ·exact adf sz c l ‹_› h
 ·cases h
theorem kF{sz:Nat}{c:α->ay}{l:List α}{i:Nat}{x:α}(h:l[i]? =δ x):Zv sz (sl sz c l) (.ah (i:Int))=δ (.rp (c x)):=oJ sz c l h
def sN(s:ByteArray)(i:Int):Option Int:=if h:0<=i/\i<s.size then δ ((s[i.toNat]'(by omega)).toNat:Int)else μ
theorem Dv{s:ByteArray}{i x:Int}(h:sN s i=δ x):A.kJ (.str s) (.ah i)=δ (.int .u8 x):=by
 unfold sN at h;split at h
 ·rename_i h2;injection h with h
  have h3:i.toNat<s.size:=by omega
  simp [A.kJ,A.idx,h2,h3,<-h]
 ·cases h
end
theorem jC{M:aL}{v:U}{σ:Heap}(h:M=δ (v,σ)):Zf M σ=δ v:=by rw[h,L4]
def Eg(a b:Int):Option Int:=if b=0 then μ else δ (ξ.wrap (a.tdiv b))
def Eh(a b:Int):Option Int:=if b=0 then μ else δ (a.tmod b)
theorem agA{a b c:Int}(h:Eg a b=δ c):A.quo (.ah a) (.ah b)=δ (.ah c):=by
 unfold Eg at h;split at h
 ·cases h
 ·injection h with h;subst h;exact IQ a b ‹_›
theorem agC{a b c:Int}(h:Eh a b=δ c):A.rem (.ah a) (.ah b)=δ (.ah c):=by
 unfold Eh at h;split at h
 ·cases h
 ·injection h with h;subst h;exact Dx a b ‹_›
def tq {α:Type} (p:Prop) (x:α):Option α:=open Classical in if p then δ x else μ
theorem eO{α:Type}{p:Prop}{x:α}(h:p):tq p x=δ x:=aG h
theorem eT{α β:Type}{p:Prop}{x r:α}{M:Option β}{e:α->β}(h:p->M=δ (e x))(k:tq p x=δ r):M=δ (e r):=by
 unfold tq at k;split at k
 ·rename_i hp;injection k with k;subst k;exact h hp
 ·cases k
theorem eY(b t:Bool):ir (.bool b) (bif b then .bool t else .az []) (.bool ε)=δ (.bool (b&&t)):=by cases b<;>rfl
theorem eW(b t:Bool):ir (.bool b) (.bool ι) (bif !b then .bool t else .az [])=δ (.bool (b||t)):=by cases b<;>rfl
section
variable {α β ω τ : Type} {G b : Bool} {M0 : Option U} {K : U -> Option β} {T : Option τ} {K' : ω -> Option τ} {o : Option ω} {Q : τ -> β -> Prop}
theorem bz(a:U)(h:b=ι->M0=δ a)(k:Rf (K (bif b then a else .az [])) T Q):Rf ((θ (.bool b) ι M0 (δ (.az []))).bind K) T Q:=by refine aj _ ?_ k;cases b<;>simp_all [θ]
theorem bD(a:U)(h:(!b)=ι->M0=δ a)(k:Rf (K (bif !b then a else .az [])) T Q):Rf ((θ (.bool b) ε M0 (δ (.az []))).bind K) T Q:=by refine aj _ ?_ k;cases b<;>simp_all [θ]
theorem iy(a:U)(h:(G&&b)=ι->M0=δ a)(k:Rf (K (bif G&&b then a else .az [])) T Q):Rf ((θ (bif G then .bool b else .az []) ι M0 (δ (.az []))).bind K) T Q:=by refine aj _ ?_ k;cases G<;>cases b<;>simp_all [θ]
theorem kR(a:U)(h:(G&&!b)=ι->M0=δ a)(k:Rf (K (bif G&&!b then a else .az [])) T Q):Rf ((θ (bif G then .bool b else .az []) ε M0 (δ (.az []))).bind K) T Q:=by refine aj _ ?_ k;cases G<;>cases b<;>simp_all [θ]
theorem IL{g:Bool}{M:Option U}{d:ω}(e:ω->U)(hM:M=bif g then M0 else δ (.az []))(h:g=ι->∀t,o=δ t->M0=δ (e t))(k:∀t,(g=ι->o=δ t)->Rf (K (bif g then e t else .az [])) (K' t) Q):Rf (M.bind K) ((if g=ι then o else δ d).bind K') Q:=by
 subst hM;cases g
 ·exact k d (by simp)
 ·intro t ht;simp only[if_true]at ht;obtain⟨x,h1,h2⟩:=bh.1 ht;obtain⟨y,h3,h4⟩:=k x (λ_=>h1) t h2;refine⟨y,?_,h4⟩;simp only[bR,h rfl x h1,aB];exact h3
theorem oM{d:ω}(e:ω->U)(h:b=ι->∀t,o=δ t->M0=δ (e t))(k:∀t,(b=ι->o=δ t)->Rf (K (bif b then e t else .az [])) (K' t) Q):Rf ((θ (.bool b) ι M0 (δ (.az []))).bind K) ((if b=ι then o else δ d).bind K') Q:=IL e (by cases b<;>rfl) h k
theorem Iz{d:ω}(e:ω->U)(h:(!b)=ι->∀t,o=δ t->M0=δ (e t))(k:∀t,((!b)=ι->o=δ t)->Rf (K (bif !b then e t else .az [])) (K' t) Q):Rf ((θ (.bool b) ε M0 (δ (.az []))).bind K) ((if(!b)=ι then o else δ d).bind K') Q:=IL e (by cases b<;>rfl) h k
theorem M6{d:ω}(e:ω->U)(h:(G&&b)=ι->∀t,o=δ t->M0=δ (e t))(k:∀t,((G&&b)=ι->o=δ t)->Rf (K (bif G&&b then e t else .az [])) (K' t) Q):Rf ((θ (bif G then .bool b else .az []) ι M0 (δ (.az []))).bind K) ((if(G&&b)=ι then o else δ d).bind K') Q:=IL e (by cases G<;>cases b<;>rfl) h k
theorem Vu{d:ω}(e:ω->U)(h:(G&&!b)=ι->∀t,o=δ t->M0=δ (e t))(k:∀t,((G&&!b)=ι->o=δ t)->Rf (K (bif G&&!b then e t else .az [])) (K' t) Q):Rf ((θ (bif G then .bool b else .az []) ε M0 (δ (.az []))).bind K) ((if(G&&!b)=ι then o else δ d).bind K') Q:=IL e (by cases G<;>cases b<;>rfl) h k
theorem ahk(b c:Bool):p4 .b (.bool b) (.bool c)=δ (.bool (decide (b=c))):=by cases b<;>cases c<;>rfl
theorem Nd(a b:Int):p4 .i (.int .u8 a) (.int .u8 b)=δ (.bool (decide (a=b))):=by simp only[p4,X4,A.jN,if_true,eB];congr 2
end
theorem Nc{ro:Bool}{dF:List Sh}{dO:Sh}{r:ay->Heap->aL}{args args':ay}{σ:Heap}(hn:VD dF args=VD dF args')(h1:args.any A.own=ε)(h2:args'.any A.own=ε):l9 ro dF dO r args σ=l9 ro dF dO r args' σ:=by unfold l9;rw[h1,h2,hn,ZO,bA,bA]
theorem M7{τ:Type}{ro:Bool}{dF:List Sh}{dO:Sh}{r:ay->Heap->aL}{args args':ay}{σ:Heap}{T:Option τ}{enc:τ->U}(hn:VD dF args=args')(h:args.any A.own=ε)(e:Rf (r args' σ) T (λt b=>V3 dO b.1=enc t/\b.2=σ)):∀t,T=δ t->l9 ro dF dO r args σ=δ (enc t,σ):=by intro t ht;obtain⟨⟨v,σ'⟩,h1,h2,h3⟩:=e t ht;simp only at h2 h3;subst h3;exact wrap_eq h (by rw[hn];exact h1) h2
theorem je{τ:Type}{ro:Bool}{dF:List Sh}{dO:Sh}{f:U->Heap->aL}{x0 y0:U}{σ:Heap}{T:Option τ}{enc:τ->U}(hn:VD dF [x0]=[y0])(h:([x0]:ay).any A.own=ε)(e:Rf (f y0 σ) T (λt b=>V3 dO b.1=enc t/\b.2=σ)):∀t,T=δ t->l9 ro dF dO (Tu f) [x0] σ=δ (enc t,σ):=M7 hn h e
theorem lq{τ:Type}{ro:Bool}{dF:List Sh}{dO:Sh}{f:U->U->Heap->aL}{x0 x1 y0 y1:U}{σ:Heap}{T:Option τ}{enc:τ->U}(hn:VD dF [x0,x1]=[y0,y1])(h:([x0,x1]:ay).any A.own=ε)(e:Rf (f y0 y1 σ) T (λt b=>V3 dO b.1=enc t/\b.2=σ)):∀t,T=δ t->l9 ro dF dO (Sv f) [x0,x1] σ=δ (enc t,σ):=M7 hn h e
theorem Hy{τ:Type}{ro:Bool}{dF:List Sh}{dO:Sh}{f:U->U->U->Heap->aL}{x0 x1 x2 y0 y1 y2:U}{σ:Heap}{T:Option τ}{enc:τ->U}(hn:VD dF [x0,x1,x2]=[y0,y1,y2])(h:([x0,x1,x2]:ay).any A.own=ε)(e:Rf (f y0 y1 y2 σ) T (λt b=>V3 dO b.1=enc t/\b.2=σ)):∀t,T=δ t->l9 ro dF dO (A.nA f) [x0,x1,x2] σ=δ (enc t,σ):=M7 hn h e
end
section
inductive Ct where
 |s(sz:Nat)(es:List ay)
 |m(es:List (U×U))
 |b(cs:ay)
def tZ:U->Option Nat
 |.os id _ _ _ _=>δ id
 |.om id=>δ id
 |.op id _=>δ id
 |_=>μ
def Own(n:Nat)(σ:Heap)(p:U×Ct):Prop:=match p.2 with
 |.s sz es=>(p.1=.aD/\es=[])\/∃id g off a,p.1=.os id g sz off es.length/\n<=id/\σ[id]? =δ (.arr g sz a)/\off<=a.length/\a.drop off=es
 |.m es=>∃id,p.1=.om id/\n<=id/\σ[id]? =δ (.map es)
 |.b cs=>∃id,p.1=.op id 0/\n<=id/\σ[id]? =δ (.box cs)
structure Hp (aM σ : Heap) (L : List (U × Ct)) : Prop where
 pre:∃bs,σ=aM++bs
 own:∀(i:Nat)p,L[i]? =δ p->Own aM.length σ p
 sep:∀(i j:Nat)p q a,L[i]? =δ p->L[j]? =δ q->tZ p.1=δ a->tZ q.1=δ a->i=j
section
variable {aM σ σ' : Heap} {L : List (U × Ct)} {n : Nat}
theorem VZ(σ:Heap):Hp σ σ []:=⟨⟨[],by simp⟩,by simp,by simp⟩
theorem Nt{p:U×Ct}{a:Nat}(h:Own n σ p)(e:tZ p.1=δ a):n<=a/\a<σ.length:=by
 obtain⟨v,c⟩:=p;cases c with
 |s sz es=>
  rcases h with⟨h1,_⟩|⟨id,g,off,x,h1,h2,h3,_⟩
  ·simp only at h1;subst h1;cases e
  ·simp only at h1;subst h1;injection e with e;subst e;exact⟨h2,(cD.1 h3).1⟩
 |m es=>obtain⟨id,h1,h2,h3⟩:=h;simp only at h1;subst h1;injection e with e;subst e;exact⟨h2,(cD.1 h3).1⟩
 |b es=>obtain⟨id,h1,h2,h3⟩:=h;simp only at h1;subst h1;injection e with e;subst e;exact⟨h2,(cD.1 h3).1⟩
theorem Uq{p:U×Ct}(h:Own n σ p)(k:∀a,tZ p.1=δ a->σ'[a]? =σ[a]?):Own n σ' p:=by
 obtain⟨v,c⟩:=p;cases c with
 |s sz es=>
  rcases h with h|⟨id,g,off,x,h1,h2,h3,h4⟩
  ·exact .inl h
  ·simp only at h1;subst h1;exact .inr ⟨id,g,off,x,rfl,h2,by rw[k id rfl];exact h3,h4⟩
 |m es=>obtain⟨id,h1,h2,h3⟩:=h;simp only at h1;subst h1;exact⟨id,rfl,h2,by rw[k id rfl];exact h3⟩
 |b es=>obtain⟨id,h1,h2,h3⟩:=h;simp only at h1;subst h1;exact⟨id,rfl,h2,by rw[k id rfl];exact h3⟩
theorem afI(h:∃bs,σ=aM++bs){id:Nat}(hn:aM.length<=id)(b:bQ):∃bs,σ.set id b=aM++bs:=by obtain⟨bs,rfl⟩:=h;exact⟨bs.set (id-aM.length) b,by rw[BF _ _ hn]⟩
theorem agn(H:Hp aM σ L){k id:Nat}{h h':U}{c c':Ct}{b:bQ}(hk:L[k]? =δ (h,c))(hi:tZ h=δ id)(hi':tZ h'=δ id)(ho:Own aM.length (σ.set id b) (h',c')):Hp aM (σ.set id b) (L.set k (h',c')):=by
 have hid:=Nt (H.own k _ hk) hi;have hkl:=(cD.1 hk).1;refine⟨afI H.pre hid.1 b,λi p hp=>?_,λi j p q a hp hq e1 e2=>?_⟩
 ·rw[gm]at hp;split at hp
  ·rename_i e;subst e;simp [hkl]at hp;subst hp;exact ho
  ·rename_i e;refine Uq (H.own i p hp) λa ha=>?_
   rw[gm];split
   ·rename_i e';subst e';exact absurd (H.sep k i _ _ id hk hp hi ha) e
   ·rfl
 ·have key:∀(i:Nat)(p:U×Ct),(L.set k (h',c'))[i]? =δ p->tZ p.1=δ a->∃p',L[i]? =δ p'/\tZ p'.1=δ a:=by
   intro i p hp e;rw[gm]at hp;split at hp
   ·rename_i e';subst e';simp [hkl]at hp;subst hp;exact⟨_,hk,by rw[hi];rw[hi']at e;exact e⟩
   ·exact⟨p,hp,e⟩
  obtain⟨p',hp',e1'⟩:=key i p hp e1;obtain⟨q',vY,Fe⟩:=key j q hq e2;exact H.sep i j p' q' a hp' vY e1' Fe
theorem afk(H:Hp aM σ L){h':U}{c':Ct}{b:bQ}(hi':tZ h'=δ σ.length)(ho:Own aM.length (σ++[b]) (h',c')):Hp aM (σ++[b]) (L++[(h',c')]):=by
 refine⟨?_,λi p hp=>?_,λi j p q a hp hq e1 e2=>?_⟩
 ·obtain⟨bs,rfl⟩:=H.pre;exact⟨bs++[b],by simp⟩
 ·rw[List.getElem?_append]at hp;split at hp
  ·refine Uq (H.own i p hp) λa ha=>?_
   have:=(Nt (H.own i p hp) ha).2;rw[iK this]
  ·have hp':=(cD.1 hp).2;simp at hp';subst hp';exact ho
 ·have key:∀(i:Nat)(p:U×Ct),(L++[(h',c')])[i]? =δ p->tZ p.1=δ a->(i=L.length/\a=σ.length)\/(L[i]? =δ p/\a<σ.length):=by
   intro i p hp e;rw[List.getElem?_append]at hp;split at hp
   ·exact .inr ⟨hp,(Nt (H.own i p hp) e).2⟩
   ·obtain⟨h1,h2⟩:=cD.1 hp;simp at h1 h2;subst h2;rw[hi']at e;injection e with e;exact .inl ⟨by omega,e.symm⟩
  rcases key i p hp e1 with⟨a1,a2⟩|⟨a1,a2⟩<;>rcases key j q hq e2 with⟨b1,b2⟩|⟨b1,b2⟩
  ·omega
  ·omega
  ·omega
  ·exact H.sep i j p q a a1 b1 e1 e2
theorem WU(H:Hp aM σ L):Hp aM (σ++[.map []]) (L++[(.om σ.length,.m [])]):=by
 have hl:aM.length<=σ.length:=by obtain⟨bs,rfl⟩:=H.pre;simp
 exact afk H rfl ⟨σ.length,rfl,hl,by simp⟩
theorem MX(H:Hp aM σ L):Hp aM σ []:=⟨H.pre,by simp,by simp⟩
theorem afj(H:Hp aM σ L){k:Nat}{h key v:U}{ek:A.EK}{es es':List (U×U)}(hk:L[k]? =δ (h,.m es))(hok:A.jg ek key=ι)(he:apa ek key v es=δ es'):∃σ',A.jk ek h key v σ=δ σ'/\Hp aM σ' (L.set k (h,.m es')):=by obtain⟨id,h1,h2,h3⟩:=H.own k _ hk;simp only at h1 h3;subst h1;have hid:=(cD.1 h3).1;exact⟨σ.set id (.map es'),by simp [A.jk,hok,h3,he],agn H hk rfl rfl ⟨id,rfl,h2,by simp [hid]⟩⟩
theorem afi(H:Hp aM σ L){k:Nat}{h key z:U}{ek:A.EK}{es:List (U×U)}{r:Option U}(hk:L[k]? =δ (h,.m es))(hok:A.jg ek key=ι)(he:Z6 ek key es=δ r):Zl ek h key z σ=δ (r.getD z):=by obtain⟨id,h1,h2,h3⟩:=H.own k _ hk;simp only at h1 h3;subst h1;rw[wT ek hok h3,he];rfl
def PU(aM σ:Heap)(r r':U):Prop:=(∀d,ZG σ aM.length (d+1) r=δ r')/\(σ=aM->r'=r)
theorem VY{r:U}(h:Fz r):PU aM σ r r:=⟨λd=>h σ _ (d+1),λ_=>rfl⟩
theorem fB{s1:Sh}{v1 w1:U}{ss:List Sh}{vs ws:ay}(h1:V3 s1 v1=w1)(h2:VD ss vs=ws):VD (s1::ss) (v1::vs)=w1::ws:=by simp only[VD,h1,h2]
theorem rP:VD [] []=[]:=by simp [VD]
theorem BP{ss:List Sh}{vs ws:ay}(h:VD ss vs=ws):V3 (.a ss) (.agg vs)=.agg ws:=by simp only[V3,h]
theorem I3{ss:List Sh}{vs ws:ay}(h:VD ss vs=ws):V3 (.t ss) (.az vs)=.az ws:=by simp only[V3,h]
theorem U2(d:Nat):∀{es:List (U×U)},(∀p∈es,Fz p.1/\Fz p.2)->A.xp σ n d es=δ es
 |[],_=>by simp [A.xp]
 |(k,v)::es,h=>by have h1:=h (k,v) (by simp);simp only[A.xp,h1.1 σ n d,h1.2 σ n d,aB,U2 d (es:=es) (λp hp=>h p (by simp [hp])),eB]
theorem agk(H:Hp aM σ L){k:Nat}{h:U}{es:List (U×U)}(hk:L[k]? =δ (h,.m es))(hc:∀p∈es,Fz p.1/\Fz p.2):PU aM σ h (.fm es):=by
 obtain⟨id,h1,h2,h3⟩:=H.own k _ hk;simp only at h1 h3;subst h1;refine⟨λd=>?_,λe=>?_⟩
 ·simp only[ZG,Nat.not_lt.2 h2,if_false,h3,U2 d hc,eB]
 ·subst e;have:=(cD.1 h3).1;omega
theorem Nk(H:Hp aM σ L){r r':U}(h:PU aM σ r r'):Θ aM r σ=δ (r',aM):=by
 obtain⟨bs,hb⟩:=H.pre;subst hb;by_cases sC:bs=[]
 ·subst sC;rw[Zq]at h ⊢;rw[bf,h.2 rfl]
 ·unfold Θ;rw[aE (by simpa using sC),aG (by simp),h.1 7];rfl
end
section
variable {κ ν : Type} [DecidableEq κ]
def jG(k:κ):List (κ×ν)->Option ν
 |[]=>μ
 |(k',v)::r=>if k=k' then δ v else jG k r
def mA(k:κ)(v:ν):List (κ×ν)->List (κ×ν)
 |[]=>[(k,v)]
 |(k',v')::r=>if k=k' then(k,v)::r else(k',v')::mA k v r
variable {ek : A.EK} {eK : κ -> U} {eV : ν -> U} (hq : ∀ a b, X4 ek (eK a) (eK b) = δ (decide (a = b)))
include hq
theorem Nj(k:κ):∀l:List (κ×ν),Z6 ek (eK k) (l.map λp=>(eK p.1,eV p.2))=δ ((jG k l).map eV)
 |[]=>rfl
 |(k',v)::r=>by
  simp only[dJ,Z6,hq,aB,jG];by_cases h:k=k'
  ·simp [h]
  ·simp [h,Nj k r]
theorem W8(k:κ)(v:ν):∀l:List (κ×ν),apa ek (eK k) (eV v) (l.map λp=>(eK p.1,eV p.2))=δ ((mA k v l).map λp=>(eK p.1,eV p.2))
 |[]=>rfl
 |(k',v')::r=>by
  simp only[dJ,apa,hq,aB,mA];by_cases h:k=k'
  ·simp [h]
  ·simp [h,W8 k v r]
end
theorem getD_map{α:Type}(o:Option α)(f:α->U)(d:α):(o.map f).getD (f d)=f (o.getD d):=by cases o<;>rfl
def Ff{κ ν:Type}(eK:κ->U)(eV:ν->U)(l:List (κ×ν)):U:=.fm (l.map λp=>(eK p.1,eV p.2))
section
variable {κ ν : Type} [DecidableEq κ] {ek : A.EK} {eK : κ -> U} {eV : ν -> U} {aM σ : Heap} {L : List (U × Ct)} {h : U} {l : List (κ × ν)}
theorem U4(H:Hp aM σ L)(k:Nat)(hk:L[k]? =δ (h,.m (l.map λp=>(eK p.1,eV p.2)))) (hq:∀a b,X4 ek (eK a) (eK b)=δ (decide (a=b))) (x:κ) (v:ν) (hok:A.jg ek (eK x)=ι):∃σ',A.jk ek h (eK x) (eV v) σ=δ σ'/\Hp aM σ' (L.set k (h,.m ((mA x v l).map λp=>(eK p.1,eV p.2)))):=afj H hk hok (W8 hq x v l)
theorem aec(H:Hp aM σ L)(k:Nat)(hk:L[k]? =δ (h,.m (l.map λp=>(eK p.1,eV p.2)))) (hq:∀a b,X4 ek (eK a) (eK b)=δ (decide (a=b))) (x:κ) (z:ν) (hok:A.jg ek (eK x)=ι):Zl ek h (eK x) (eV z) σ=δ (eV ((jG x l).getD z)):=by rw[afi H hk hok (Nj hq x l),getD_map]
theorem ad5(hq:∀a b,X4 ek (eK a) (eK b)=δ (decide (a=b)))(x:κ)(z:ν)(hok:A.jg ek (eK x)=ι):Zl ek (Ff eK eV l) (eK x) (eV z) σ=δ (eV ((jG x l).getD z)):=by simp only[Zl,Ff,hok,bR,apl,aB,Nj hq,eB,getD_map]
end
section
variable {α : Type} {c : α -> ay} {l ys : List α} {aM σ : Heap} {L : List (U × Ct)} {h : U} {sz : Nat}
end
def ju{α:Type}(l:List α)(lo hi:Option Int):Option (List α):=
 let h:=hi.getD l.length
 let k:=lo.getD 0
 if 0<=k/\k<=h/\h<=l.length then δ ((l.take h.toNat).drop k.toNat)else μ
def nJ(s:ByteArray)(lo hi:Option Int):Option ByteArray:=
 let h:=hi.getD s.size
 let k:=lo.getD 0
 if 0<=k/\k<=h/\h<=s.size then δ (s.extract k.toNat h.toNat)else μ
theorem rJ{α:Type}{sz:Nat}{c:α->ay}{l r:List α}{lo hi:Option Int}{σ:Heap}(h:ju l lo hi=δ r):A.gV sz (sl sz c l) (lo.map (.int ξ)) (hi.map (.int ξ)) σ=δ (sl sz c r):=by
 unfold ju at h;simp only at h;split at h
 ·rename_i hc;injection h with h
  subst h;obtain⟨h1,h2,h3⟩:=hc;simp only[A.gV,sl,if_true,XZ]
  have e1:Zj l.length l.length (hi.map (.int ξ))=δ (hi.getD l.length).toNat:=by
   cases hi with
   |none=>simp [Zj]
   |some h=>simp only[ZY]at h2 h3;simp [Zj,show 0<=h by omega,h3]
  have e2:Zj (hi.getD l.length).toNat 0 (lo.map (.int ξ))=δ (lo.getD 0).toNat:=by
   cases lo with
   |none=>simp [Zj]
   |some k=>
    simp only[ZY]at h1 h2;have:k<=((hi.getD l.length).toNat:Int):=by omega
    simp only[eB,Zj,ZY];rw[aG ⟨h1,this⟩]
  rw[e1,aB,e2,eB,List.map_drop,List.map_take]
 ·cases h
theorem uU{s r:ByteArray}{lo hi:Option Int}(h:nJ s lo hi=δ r):A.oN (.str s) (lo.map (.int ξ)) (hi.map (.int ξ))=δ (.str r):=by
 unfold nJ at h;simp only at h;split at h
 ·rename_i hc;injection h with h
  subst h;obtain⟨h1,h2,h3⟩:=hc;simp only[A.oN]
  have e1:Zj s.size s.size (hi.map (.int ξ))=δ (hi.getD s.size).toNat:=by
   cases hi with
   |none=>simp [Zj]
   |some h=>simp only[ZY]at h2 h3;simp [Zj,show 0<=h by omega,h3]
  have e2:Zj (hi.getD s.size).toNat 0 (lo.map (.int ξ))=δ (lo.getD 0).toNat:=by
   cases lo with
   |none=>simp [Zj]
   |some k=>
    simp only[ZY]at h1 h2;have:k<=((hi.getD s.size).toNat:Int):=by omega
    simp only[eB,Zj,ZY];rw[aG ⟨h1,this⟩]
  rw[e1,aB,e2,eB]
 ·cases h
def cC(a b:ByteArray):Option ByteArray:=if a.size+b.size<=9223372036854775807 then δ (a++b)else μ
theorem fy{a b r:ByteArray}(h:cC a b=δ r):u9 (.str a) (.str b)=δ (.str r):=by
 unfold cC at h;split at h
 ·injection h with h;subst h;simp [u9, *]
 ·cases h
end
section
def gK{α:Type}(f:Nat->α->Int):List α->Nat->Int
 |[],_=>0
 |x::l,i=>if f i x=0 then gK f l (i+1)else f i x
section
variable {α β γ S B R : Type}
theorem Mc{f:Nat->α->Int}:∀(l:List α)(i:Nat),gK f l i=0↔∀j x,l[j]? =δ x->f (i+j) x=0
 |[],i=>by simp [gK]
 |y::l,i=>by
  rw[gK];by_cases h:f i y=0
  ·rw[aG h,Mc l (i+1)];constructor
   ·intro k j x hx;cases j with
    |zero=>simp at hx;subst hx;exact h
    |succ j=>have:=k j x (by simpa using hx);rwa[show i+1+j=i+(j+1) by omega]at this
   ·intro k j x hx;have:=k (j+1) x (by simpa using hx);rwa[show i+(j+1)=i+1+j by omega]at this
  ·rw[aE h];exact⟨λe=>absurd e h,λk=>absurd (k 0 y rfl) h⟩
theorem wR{l:List α}{body:Nat->α->S->Option (Lr S B R)}{fin:S->Option B}{s:S}{K1:B->Option γ}{K2:R->Option γ}(hl:l.length<=cz):gL l body fin s K1 K2=(gh body fin l 0 s).bind λq=>q.elim K1 K2:=aG hl
theorem CT{f:Nat->α->Int}{l:List α}{body:Nat->α->Unit->Option (Lr Unit Unit Int)}{fin:Unit->Option Unit}{s:Unit}{K1:Unit->Option γ}{K2:Int->Option γ}(hl:l.length<=cz)(hb:∀i x,l[i]? =δ x->body i x ()=δ (if f i x=0 then .go ()else .ret (f i x)))(hf:fin ()=δ ():=by rfl):gL l body fin s K1 K2=if gK f l 0=0 then K1 ()else K2 (gK f l 0):=by
 rw[wR hl]
 have key:∀(rest pre:List α),l=pre++rest->gh body fin rest pre.length ()=δ (if gK f rest pre.length=0 then .inl ()else .inr (gK f rest pre.length)):=by
  intro rest;induction rest with
  |nil=>intro pre _;simp [gh,hf,gK]
  |cons x rest ih=>
   intro pre hp;rw[gh,hb pre.length x (by rw[hp];simp),aB,gK];by_cases h:f pre.length x=0
   ·simp only[h,if_true];have:=ih (pre++[x]) (by simpa using hp);simpa using this
   ·simp only[h,if_false]
 have k:=key l [] rfl;rw[Zh]at k;rw[show s=()from rfl,k,aB];split<;>rfl
theorem H9{p:Prop}[Decidable p]{k f:Int}{Y:Option (Lr Unit Unit Int)}(hk:k≠0)(h:Y=δ (if f=0 then .go ()else .ret f)):(if p then δ (.ret k)else Y)=δ (if(if p then k else f)=0 then .go ()else .ret (if p then k else f)):=by
 by_cases hp:p
 ·simp [hp,hk]
 ·simp [hp,h]
theorem go_ret:(δ (.go ()):Option (Lr Unit Unit Int))=δ (if(0:Int)=0 then .go ()else .ret 0):=rfl
theorem TZ(k:Int):(if k=0 then δ (.go ())else δ (.ret k):Option (Lr Unit Unit Int))=δ (if k=0 then .go ()else .ret k):=by split<;>rfl
theorem Te{p:α->Bool}{l:List α}{body:Nat->α->Unit->Option (Lr Unit Unit R)}{r:α->R}{fin:Unit->Option Unit}{s:Unit}{K1:Unit->Option γ}{K2:R->Option γ}(hl:l.length<=cz)(hb:∀i x,l[i]? =δ x->body i x ()=δ (if p x=ι then .ret (r x)else .go ()))(hf:fin ()=δ ():=by rfl):gL l body fin s K1 K2=match l.find? p with|some x=>K2 (r x)|none=>K1 ():=by
 rw[wR hl]
 have key:∀(rest pre:List α),l=pre++rest->gh body fin rest pre.length ()=δ (match rest.find? p with|some x=>.inr (r x)|none=>.inl ()):=by
  intro rest;induction rest with
  |nil=>intro pre _;simp [gh,hf]
  |cons x rest ih=>
   intro pre hp;rw[gh,hb pre.length x (by rw[hp];simp),aB,List.find?_cons];cases h:p x
   ·simp only[n5,if_false];have:=ih (pre++[x]) (by simpa using hp);simpa using this
   ·simp only[if_true]
 have k:=key l [] rfl;rw[Zh]at k;rw[show s=()from rfl,k,aB];cases l.find? p<;>rfl
theorem Me{l:List α}{body:Nat->α->S->Option (Lr S B R)}{fin:S->Option B}{s:S}{K1:B->Option γ}{K2:R->Option γ}(g:S->α->S)(P:Nat->S->Prop)(hl:l.length<=cz)(h0:P 0 s)(hP:∀i x s,l[i]? =δ x->P i s->P (i+1) (g s x))(hb:∀i x s,l[i]? =δ x->P i s->body i x s=δ (.go (g s x))):gL l body fin s K1 K2=(fin (l.foldl g s)).bind K1:=by
 rw[wR hl]
 have key:∀(rest pre:List α)(s:S),l=pre++rest->P pre.length s->gh body fin rest pre.length s=(fin (rest.foldl g s)).map .inl:=by
  intro rest;induction rest with
  |nil=>intro pre s _ _;simp [gh]
  |cons x rest ih=>
   intro pre s hp hq;have hx:l[pre.length]? =δ x:=by rw[hp];simp
   rw[gh,hb pre.length x s hx hq,aB,List.foldl_cons];have:=ih (pre++[x]) (g s x) (by simpa using hp) (by simpa using hP _ _ _ hx hq);simpa using this
 have k:=key l [] s rfl h0;rw[Zh]at k;rw[k];cases fin (l.foldl g s)<;>rfl
def pv [Inhabited α](l:List α)(i:Nat):α:=if 0<i then l.getD (i-1) default else default
theorem Na{l:List α}{i:Int}{x:α}(h0:0<=i)(h:l[i.toNat]? =δ x):cJ l i=δ x:=by rw[cJ,aG h0,h]
theorem Ig [Inhabited α]{l:List α}{i:Nat}{x:α}(h:l[i]? =δ x)(hl:l.length<=cz):(if decide (0<(i:Int))=ι then cJ l (ξ.wrap ((i:Int) -1))else δ default)=δ (pv l i):=by
 have hi:=(cD.1 h).1;unfold pv;by_cases h0:0<i
 ·rw[aG (by simpa using h0),aG h0,dh (by unfold aR;unfold cz at hl;omega)];refine Na (by omega) ?_;have:((i:Int) -1).toNat=i-1:=by omega
  rw[this,ZI,cy (by omega)];rfl
 ·rw[aE (by simpa using h0),aE h0]
theorem WI{a b:Int}:(([a,b]:List Int).find? λn=>decide (¬n=0)).getD 0=if ¬(a=0)then a else b:=by
 by_cases ha:a=0
 ·by_cases hb:b=0<;>simp [ha,hb,Ws]
 ·simp [ha,Ws]
end
theorem aoy(s:ByteArray):s.toList=s.data.toList:=ao2 s
theorem MQ:∀(a b:List UInt8),R4 a b<0↔RE a b=ι
 |[],[]=>by simp [R4,RE]
 |[],_::_=>by simp [R4,RE]
 |_::_,[]=>by simp [R4,RE]
 |a::x,b::y=>by
  rw[R4,RE];by_cases h1:a<b
  ·simp [h1]
  ·by_cases h2:b<a
   ·have:a≠b:=by rintro rfl;exact h1 h2
    simp [h1,h2,this]
   ·have:a=b:=UInt8.le_antisymm (UInt8.not_lt.1 h2) (UInt8.not_lt.1 h1);subst this;simp [UInt8.lt_irrefl,MQ x y]
def qR(a b:au):Bool:=decide (a.unit<b.unit)||(decide (a.unit=b.unit)&&RE a.param.toList b.param.toList)
def BK(a b:au):Int:=if ¬(a.unit=b.unit)then(if a.unit<b.unit then -1 else 1)else R4 a.param.data.toList b.param.data.toList
theorem aeZ(a b:au):BK a b<0↔qR a b=ι:=by
 unfold BK qR;by_cases h:a.unit=b.unit
 ·simp [h,aoy,MQ]
 ·by_cases h2:a.unit<b.unit<;>simp [h,h2]
theorem aeY(a b:au):decide (0<=BK a b)=!qR a b:=by
 have:=aeZ a b;cases h:qR a b
 ·rw[h]at this;simp at this;simp [this]
 ·rw[h]at this;simp at this;simp [this]
end
def aT(n lo hi:Int):Bool:=decide (lo<=n/\n<=hi)
def ur(c:UInt8):Bool:=decide (97<=c.toNat/\c.toNat<=122)||decide (48<=c.toNat/\c.toNat<=57)||decide (c.toNat=45)
def zg(s:ByteArray):Bool:=s.data.toList.all ur&&decide (0<s.size)
def oh(s:ByteArray):Bool:=zg s&&decide (s.size<=20)&&decide (97<=(s.data.toList.getD 0 0).toNat)&&decide ((s.data.toList.getD 0 0).toNat<=122)
def pc(c:UInt8):Bool:=decide (32<=c.toNat/\c.toNat<=126)
def Dm(s:ByteArray):Bool:=decide (0<s.size)&&decide (s.size<=60)&&(decide ((s.data.toList.getD 0 0).toNat≠32)&&decide ((s.data.toList.getD (s.size-1) 0).toNat≠32))
def BB(s:ByteArray):Bool:=s.data.toList.all pc&&Dm s
theorem adb(s:ByteArray)(i:Nat)(h:i<s.size):s.data.toList.getD i 0=s[i]:=by rw[YA,cy (by simpa using h)];rfl
def IV(pre:List lX):List lX->Int
 |[]=>0
 |r::rest=>
  if aT r.low 0 65535=ε\/aT r.high 0 65535=ε\/r.high<r.low then 1
  else if 0<pre.length/\r.low<=(pre.getLast?.map (·.high)).getD 0 then 7
  else if oh r.name=ε then 5
  else if gM r.name (pre.map (·.name))=ι then 6
  else IV (pre++[r]) rest
def Bq(l:List lX):Int:=if 30<l.length then 2 else IV [] l
def slotsOf(l:List iu):List Int:=l.flatMap λx=>if 0<x.lI then[x.mB,x.lI]else[x.mB]
theorem R6(l:List iu)(x:iu):slotsOf (l++[x])=slotsOf l++(if 0<x.lI then[x.mB,x.lI]else[x.mB]):=by simp [slotsOf]
def IU(size:Int)(pre:List iu):List iu->Int
 |[]=>0
 |x::rest=>
  if oh x.name=ε then 5
  else if gM x.name (pre.map (·.name))=ι then 6
  else if aT x.group 1 4=ε then 4
  else if aT x.mB 1 size=ε\/aT x.lI 0 size=ε\/aT x.default 0 65535=ε then 1
  else if x.mB=x.lI\/gM x.mB (slotsOf pre)=ι\/(0<x.lI/\gM x.lI (slotsOf pre)=ι)then 12
  else if Bq x.ranges=0 then IU size (pre++[x]) rest else Bq x.ranges
def oK(p:dG):Int:=
 if oh p.name=ε then 5 else if aT p.size 1 512=ε then 1 else if p.params.length=0 then 8 else if 40<p.params.length then 2 else IU p.size [] p.params
def xG(pre:List dG):List dG->Int
 |[]=>0
 |p::rest=>if oK p=0 then(if gM p.name (pre.map (·.name))=ι then 6 else xG (pre++[p]) rest)else oK p
def ud(l:List dG):Int:=if 60<l.length then 2 else xG [] l
def gG(nm:ByteArray):List dG->dG×Bool
 |[]=>(⟨⟨#[]⟩,0,[]⟩,ε)
 |p::rest=>if p.name=nm then(p,ι)else gG nm rest
def qI(f:Nat->Bool):Nat->Nat->Bool
 |0,_=>ι
 |n+1,a=>if 512<a\/f a=ι then ε else qI f n (a+1)
def kT(f:Int->Nat->Bool)(u:Int)(a s:Nat):Int->Nat->Bool:=λv k=>if v=u/\a<=k/\k<a+s then ι else f v k
def zf(pre:List Int)(n:Int):Bool:=match pre.getLast? with|some m=>decide (n<=m)|none=>ε
def mh(fK:List dG)(u:fS):Int:=u.address+(gG u.iq fK).1.size-1
def Bs(fK:List dG)(u:fS)(pre:List fS):Bool:=pre.any λx=>decide (x.univ=u.univ/\x.address<=mh fK u/\u.address<=mh fK x)
def BJ(fK:List dG)(pre:List fS):List fS->Int
 |[]=>0
 |u::rest=>
  if aT u.aY 1 9999=ε then 1
  else if zf (pre.map (·.aY)) u.aY=ι then 7
  else if(gG u.iq fK).2=ε then 5
  else if aT u.univ 1 64=ε\/aT u.address 1 512=ε\/512<mh fK u then 1
  else if Bs fK u pre=ι then 12
  else BJ fK (pre++[u]) rest
def iD(r:ef):Int:=if ud r.dn=0 then(if 400<r.ji.length then 2 else BJ r.dn [] r.ji)else ud r.dn
def C0(fK:List dG)(pre:List fS):Prop:=∀x∈pre,1<=x.address/\x.address<=mh fK x/\mh fK x<=512
def wY(fK:List dG)(pre:List fS)(f:Int->Nat->Bool):Prop:=∀v k,f v k=ι↔∃x∈pre,x.univ=v/\x.address<=(k:Int)/\(k:Int)<=mh fK x
theorem wY.nil(fK:List dG):wY fK [] (λ_ _=>ε):=λv k=>by simp
theorem wY.snoc{fK:List dG}{pre:List fS}{f:Int->Nat->Bool}(h:wY fK pre f)(u:fS)(a s:Nat)(ha:u.address=a)(hs:mh fK u=(a:Int)+s-1):wY fK (pre++[u]) (kT f u.univ a s):=by
 intro v k;unfold kT;by_cases e:v=u.univ/\a<=k/\k<a+s
 ·rw[aG e];refine⟨λ_=>⟨u,by simp,e.1.symm,by omega,by omega⟩,λ_=>rfl⟩
 ·rw[aE e,h v k];constructor
  ·rintro⟨x,hx,h1⟩;exact⟨x,by simp [hx],h1⟩
  ·rintro⟨x,hx,h1,h2,h3⟩;simp only[ga,apF]at hx;rcases hx with hx|rfl
   ·exact⟨x,hx,h1,h2,h3⟩
   ·exact absurd ⟨h1.symm,by omega,by omega⟩ e
theorem Mf(f:Nat->Bool):∀(s a:Nat),qI f s a=ι↔∀k,a<=k->k<a+s->k<=512/\f k=ε
 |0,a=>by simp [qI];intro k h1 h2;omega
 |s+1,a=>by
  rw[qI];by_cases e:512<a\/f a=ι
  ·rw[aG e];simp only[n5,false_iff];intro h;have:=h a (cg _) (by omega);rcases e with e|e
   ·omega
   ·rw[e]at this;simp at this
  ·rw[aE e,Mf f s (a+1)];constructor
   ·intro h k h1 h2;by_cases hk:k=a
    ·subst hk;refine⟨by omega,?_⟩;cases hf:f k
     ·rfl
     ·exact absurd (.inr hf) e
    ·exact h k (by omega) (by omega)
   ·intro h k h1 h2;exact h k (by omega) (by omega)
theorem ab5{fK:List dG}{pre:List fS}{f:Int->Nat->Bool}(h:wY fK pre f)(hok:C0 fK pre)(u:fS)(a s:Nat)(ha:u.address=a)(h1:1<=s)(hs:mh fK u=(a:Int)+s-1)(h2:mh fK u<=512):qI (f u.univ) s a=!Bs fK u pre:=by
 rw[kg,Mf];simp only[VC,Bs,List.any_eq_false,decide_eq_true_eq,not_and];constructor
 ·intro hf x hx e1 e2 e3;have hx':=hok x hx;obtain⟨k,hk⟩:∃k:Nat,(k:Int)=max x.address a:=⟨(max x.address (a:Int)).toNat,by omega⟩
  have hf':=(hf k (by omega) (by omega)).2;have:f u.univ k=ι:=(h u.univ k).2 ⟨x,hx,e1,by omega,by omega⟩;rw[this]at hf';simp at hf'
 ·intro hf k h3 h4;refine⟨by omega,?_⟩;cases hfk:f u.univ k
  ·rfl
  ·obtain⟨x,hx,e1,e2,e3⟩:=(h u.univ k).1 hfk;exact absurd (show u.address<=mh fK x by omega) (hf x hx e1 (by omega))
theorem aav{p:dG}(h:oK p=0):1<=p.size/\p.size<=512:=by
 unfold oK at h;by_cases h1:oh p.name=ε
 ·rw[aG h1]at h;simp at h
 ·rw[aE h1]at h;by_cases h2:aT p.size 1 512=ε
  ·rw[aG h2]at h;simp at h
  ·simpa [aT]using h2
theorem SE:∀(l pre:List dG),xG pre l=0->∀p∈l,1<=p.size/\p.size<=512
 |[],pre,h,p,hp=>by simp at hp
 |q::rest,pre,h,p,hp=>by
  rw[xG]at h;by_cases e:oK q=0
  ·rw[aG e]at h;by_cases e2:gM q.name (pre.map (·.name))=ι
   ·rw[aG e2]at h;simp at h
   ·rw[aE e2]at h;simp only[dW]at hp;rcases hp with rfl|hp
    ·exact aav e
    ·exact SE rest _ h p hp
  ·rw[aE e]at h;exact absurd h e
theorem acg{l:List dG}(h:ud l=0):∀p∈l,1<=p.size/\p.size<=512:=by
 unfold ud at h;by_cases e:60<l.length
 ·rw[aG e]at h;simp at h
 ·rw[aE e]at h;exact SE l [] h
theorem L3(nm:ByteArray):∀(l:List dG),(gG nm l).2=ι->(gG nm l).1∈l
 |[],h=>by simp [gG]at h
 |p::r,h=>by
  rw[gG]at h ⊢;by_cases e:p.name=nm
  ·rw[aG e];simp
  ·rw[aE e]at h ⊢;exact iR _ (L3 nm r h)
theorem C0.snoc{fK:List dG}{pre:List fS}(h:C0 fK pre){u:fS}(h1:1<=u.address/\u.address<=mh fK u/\mh fK u<=512):C0 fK (pre++[u]):=λx hx=>by
 simp only[ga,apF]at hx;rcases hx with hx|rfl
 ·exact h x hx
 ·exact h1
theorem jB(n lo hi:Int)(σ:Heap):jd [.ah n,.ah lo,.ah hi] σ=δ (.bool (aT n lo hi),σ):=by refine wrap_eq rfl ?_ rfl;show KY _ _ _ σ=_;unfold KY aT;by_cases h:lo<=n<;>simp only[aQ,reduceCtorEq,h,true_and,false_and]
theorem C1(b:Bool)(n:Int)(σ:Heap):AY [.bool b,.ah n] σ=δ (.ah (if b=ι then n else 0),σ):=by refine wrap_eq rfl ?_ rfl;show LM _ _ σ=_;unfold LM;cases b<;>simp [aQ,reduceCtorEq]
theorem M8(s:ByteArray){i:Nat}(h:i<s.size):A.kJ (.str s) (.ah (i:Int))=δ (.int .u8 (s.data.toList.getD i 0).toNat):=by
 have h1:s[i]? =δ s[i]:=by simp [h]
 simp [A.kJ,A.idx,h,adb s i h];rfl
theorem SK(s:ByteArray):(decide (¬s=⟨#[]⟩))=decide (0<s.size):=by
 rw[decide_eq_decide];constructor
 ·intro h;rcases Nat.eq_zero_or_pos s.size with e|e
  ·exact absurd (apA (Array.eq_empty_of_size_eq_zero e)) h
  ·exact e
 ·rintro h rfl;exact absurd h (by decide)
theorem af2(s:ByteArray)(hs:gb s)(σ:Heap):CK [.str s] σ=δ (.bool (zg s),σ):=by
 refine wrap_eq rfl ?_ rfl;show CL _ σ=_;unfold CL;simp only[aQ,reduceCtorEq];refine(TR (p:=ur) s (δ (.bool ε,σ)) ?_ ?_ ?_).trans ?_
 ·intro i c hi hc;have h1:aR ((i:Int)+1):=by unfold gb cz at hs;unfold aR;omega
  have h2:(i:Int)<s.size:=by omega
  simp only[aQ,reduceCtorEq,h2,hc,dh h1,ur];clear hc h1
  repeat' ((first|rw[vU]|rw[vT]|rw[vQ]|rw[vi]|rw[vP]|rw[vO]);split<;>try simp only[aQ,reduceCtorEq, *])
  all_goals first|rfl|(refine(aG ?_).symm;simp;omega)|(refine(aE ?_).symm;simp;omega)|(refine congrArg δ (congrArg (λb=>(φ b,σ)) ?_);rw[kg];simp;omega)
 ·simp only[aQ,reduceCtorEq,Zu]
 ·intro i;simp only[aQ,reduceCtorEq]
 ·simp only[aQ,reduceCtorEq,SK,zg];cases s.data.toList.all ur<;>simp
theorem aez{s:ByteArray}(h:zg s=ι):0<s.size:=by simp only[zg,dZ,decide_eq_true_eq]at h;exact h.2
theorem HH(s:ByteArray)(hs:gb s)(σ:Heap):AW [.str s] σ=δ (.bool (oh s),σ):=by
 refine wrap_eq rfl ?_ rfl;show LK _ σ=_;unfold LK;simp only[aQ,reduceCtorEq,af2 s hs];cases h:zg s
 ·simp [aQ,reduceCtorEq,oh,h]
 ·have h0:=aez h;have:=M8 s h0;simp only[apK]at this;simp only[aQ,reduceCtorEq,this];simp only[oh,h,Y8];generalize s.data.toList.getD 0 0=c0 at *
  repeat' ((first|rw[vU]|rw[vT]|rw[vQ]|rw[vi]|rw[vP]|rw[vO]);split<;>try simp only[aQ,reduceCtorEq, *])
  all_goals first|rfl|(refine(aG ?_).symm;simp;omega)|(refine(aE ?_).symm;simp;omega)|(refine congrArg δ (congrArg (λb=>(φ b,σ)) ?_);rw[kg];simp;omega)
theorem TQ(s:ByteArray)(hs:gb s)(σ:Heap):GI [.str s] σ=δ (.bool (BB s),σ):=by
 refine wrap_eq rfl ?_ rfl;show Ll _ σ=_;unfold Ll;simp only[aQ,reduceCtorEq];refine(TR (p:=pc) s (δ (.bool ε,σ)) ?_ ?_ ?_).trans ?_
 ·intro i c hi hc;have h1:aR ((i:Int)+1):=by unfold gb cz at hs;unfold aR;omega
  have h2:(i:Int)<s.size:=by omega
  simp only[aQ,reduceCtorEq,h2,hc,dh h1,pc];clear h1
  repeat' ((first|rw[vU]|rw[vT]|rw[vQ]|rw[vi]|rw[vP]|rw[vO]);split<;>try simp only[aQ,reduceCtorEq, *])
  all_goals first|rfl|(refine(aG ?_).symm;simp;omega)|(refine(aE ?_).symm;simp;omega)|(refine congrArg δ (congrArg (λb=>(φ b,σ)) ?_);rw[kg];simp;omega)
 ·simp only[aQ,reduceCtorEq,Zu]
 ·intro i;simp only[aQ,reduceCtorEq]
 ·simp only[aQ,reduceCtorEq,SK,BB];cases s.data.toList.all pc
  ·simp
  ·simp only[if_true,Y8];by_cases h0:0<s.size
   ·by_cases B6:s.size<=60
    ·have e0:=M8 s h0;have e1:=M8 s (i:=s.size-1) (by omega);simp only[apK]at e0;rw[show((s.size-1:Nat):Int)=(s.size:Int) -1 by omega]at e1;have h1:aR ((s.size:Int) -1):=by unfold gb cz at hs;unfold aR;omega
     have xH:(s.size:Int)<=60:=by omega
     have hw:=dh h1;simp only[Dm,h0,B6];generalize s.data.toList.getD 0 0=c0 at *
     generalize s.data.toList.getD (s.size-1) 0=c1 at *
     simp only[aQ,reduceCtorEq,h0,xH,e0,e1,hw]
     repeat' ((first|rw[vU]|rw[vT]|rw[vQ]|rw[vi]|rw[vP]|rw[vO]);split<;>try simp only[aQ,reduceCtorEq, *])
     all_goals first|rfl|(refine(aG ?_).symm;simp;omega)|(refine(aE ?_).symm;simp;omega)|(refine congrArg δ (congrArg (λb=>(φ b,σ)) ?_);rw[kg];simp;omega)
    ·have xH:¬(s.size:Int)<=60:=by omega
     simp [aQ,reduceCtorEq,h0,xH,Dm,B6]
   ·simp [aQ,reduceCtorEq,h0,Dm]
theorem an9(n:Int)(σ:Heap):Gu [.ah n] σ=δ (.bool (aT n 0 65535),σ):=by refine wrap_eq rfl ?_ rfl;show KC (.ah n) σ=_;unfold KC;simp only[aQ,reduceCtorEq,jB]
theorem adj{γ:Type}{f:ay->Heap->Option (AX×ay×Heap)}(a n:Nat)(p:Nat->Bool)(vs:Nat->ay)(σ:Heap)(fin:AX×ay×Heap)(ret:Nat->AX×ay×Heap){k:AX×ay×Heap->Option γ}(K1 K2:Option γ)
  (hstep:∀(i:Nat),a<=i->i<a+n->f (vs i) σ=if p i=ι then δ (ret i)else δ (.normal,vs (i+1),σ)) (hend:f (vs (a+n)) σ=δ fin) (hk1:k fin=K1) (hk2:∀i,k (ret i)=K2)
  (vn:fin.1≠.normal:=by simp) (DT:∀i,(ret i).1≠.normal:=by intros;simp) {v:ay} {σ':Heap} (hv:v=vs a:=by rfl) (eI:σ'=σ:=by rfl):
  (Zp f v σ').bind k=if(ZQ a n).any p=ι then K2 else K1:=by
 refine Um (ZQ a n) p (λi=>vs (a+i)) σ fin (λi=>ret (a+i)) K1 K2 ?_ (by rw[Vf];exact hend) hk1 (λi=>hk2 _) vn (λi=>DT _) hv eI;intro i x hx;obtain⟨h1,h2⟩:=cD.1 hx;rw[Vf]at h1;obtain rfl:a+i=x:=by simpa [ao3]using h2
 exact hstep (a+i) (by omega) (by omega)
def jZ:eA:=⟨0,0⟩
def yY(p:eA):Bool:=!(aT p.time 0 1000)||!(aT p.way 0 1000)
def D9(l:List eA)(i:Nat):Bool:=decide ((l.getD i jZ).time<=(l.getD (i-1) jZ).time\/(l.getD i jZ).way<(l.getD (i-1) jZ).way)
def O5(l:List eA):Int:=
 if l.any yY=ι then 1
 else if ¬((l.getD 0 jZ).time=0/\(l.getD 0 jZ).way=0)then 3
 else if ¬((l.getD (l.length-1) jZ).time=1000/\(l.getD (l.length-1) jZ).way=1000)then 3
 else if(ZQ 1 (l.length-1)).any (D9 l)=ι then 7 else 0
def iw(c:fZ):Int:=
 if aT c.kind 1 6=ε then 4
 else if c.kind=6 then(if c.bp.length<2 then 8 else if 20<c.bp.length then 2 else O5 c.bp)
 else if 0<c.bp.length then 3 else 0
theorem ME(x:eA)(a b:Int):Lu (.s [0,0]) (.agg (cx x)) (.agg [.ah a,.ah b])=δ (.bool (decide (¬(x.time=a/\x.way=b)))):=by simp only[Lu,X4,cx,YB,A.jq,A.jN,if_true,aB,eB];congr 2;rw[kg];simp
theorem W5(a b c:U):n4 0 [a] [b,c]=δ [a,c]:=rfl
theorem W6(a b c:U):n4 1 [a] [b,c]=δ [b,a]:=rfl
theorem getD_at{l:List eA}{i:Nat}(h:i<l.length):l[i]? =δ (l.getD i jZ):=by simp [h]
theorem GB(c:fZ)(σ:Heap):Ax [.agg (jE c)] σ=δ (.ah (iw c),σ):=by
 refine wrap_eq rfl ?_ rfl;show Kl (.agg (jE c)) σ=_;unfold Kl iw;simp only[aQ,reduceCtorEq,ru,rz,rB,rA,rC,jB];cases hk:aT c.kind 1 6
 ·simp only[aQ,reduceCtorEq]
 by_cases h6:c.kind=6
 case neg=>
  by_cases h0:0<c.bp.length
  ·simp only[aQ,reduceCtorEq,ru,rz,rB,rA,rC,h6,h0,C1,show(0:Int)<c.bp.length by omega]
  ·simp only[aQ,reduceCtorEq,ru,rz,rB,rA,rC,h6,h0,C1,show ¬(0:Int)<c.bp.length by omega]
 by_cases h2:c.bp.length<2
 ·simp only[aQ,reduceCtorEq,ru,rz,rB,rA,rC,h6,h2,show(c.bp.length:Int)<2 by omega]
 by_cases YE:20<c.bp.length
 ·simp only[aQ,reduceCtorEq,ru,rz,rB,rA,rC,h6,h2,YE,show ¬(c.bp.length:Int)<2 by omega,show(20:Int)<c.bp.length by omega]
 simp only[aQ,reduceCtorEq,ru,rz,rB,rA,rC,h6,h2,YE,show ¬(c.bp.length:Int)<2 by omega,show ¬(20:Int)<c.bp.length by omega];have FC:c.bp.length<=cz:=by unfold cz;omega
 refine(Um c.bp yY (λi=>[.ah 0,.ah (i:Int)]) σ (.exit 0,[.ah 0,.ah (c.bp.length:Int)],σ) (λi=>(.ret,[.ah 1,.ah (i:Int)],σ))
  (δ (.ah (if ¬((c.bp.getD 0 jZ).time=0/\(c.bp.getD 0 jZ).way=0)then 3
 else if ¬((c.bp.getD (c.bp.length-1) jZ).time=1000/\(c.bp.getD (c.bp.length-1) jZ).way=1000)then 3
 else if(ZQ 1 (c.bp.length-1)).any (D9 c.bp)=ι then 7 else 0),σ)) (δ (.ah 1,σ)) ?_ ?_ ?_ ?_).trans ?_
 ·intro i x hx;obtain⟨g1,g2,g3⟩:=Uh 2 cx hx;have g3:=g3 FC;simp only[aQ,reduceCtorEq,CF,CG,CP,CN,A8,g1,g2,g3,jB,yY];rcases apX (aT x.time 0 1000)with e|e
  ·rcases apX (aT x.way 0 1000)with e'|e'<;>simp only[aQ,reduceCtorEq,jB,e,e',ZV,T9]
  ·simp only[aQ,reduceCtorEq,e,Bool.true_or]
 ·exact Be _ _ _
 ·have g0:=oJ 2 cx c.bp (getD_at (l:=c.bp) (i:=0) (by omega));have gl:=GQ 2 cx c.bp (k:=c.bp.length) (by omega) (getD_at (by omega));have hw:ξ.wrap ((c.bp.length:Int) -1)=(c.bp.length:Int) -1:=dh (by unfold aR;omega);simp only[apK,Int.natCast_zero]at g0;simp only[aQ,reduceCtorEq,ru,rz,rB,rA,rC,CF,CG,CP,CN,A8,g0,ME];by_cases e1:(c.bp.getD 0 jZ).time=0/\(c.bp.getD 0 jZ).way=0;case neg=>simp only[aQ,reduceCtorEq,e1]
  simp only[aQ,reduceCtorEq,ru,rz,rB,rA,rC,e1,hw,gl,CF,CG,CP,CN,A8];by_cases e2:(c.bp.getD (c.bp.length-1) jZ).time=1000/\(c.bp.getD (c.bp.length-1) jZ).way=1000
  case neg=>
   simp only[W5,W6,aQ,reduceCtorEq,ME,e2]
  simp only[W5,W6,aQ,reduceCtorEq,ME,e2];refine(adj 1 (c.bp.length-1) (D9 c.bp) (λi=>[.ah 0,.ah (i:Int)]) σ (.exit 2,[.ah 0,.ah (c.bp.length:Int)],σ) (λi=>(.ret,[.ah 7,.ah (i:Int)],σ)) (δ (η 0,σ)) (δ (η 7,σ)) ?_ ?_ ?_ ?_).trans ?_
  ·intro i hi1 hi2;have k1:=oJ 2 cx c.bp (getD_at (l:=c.bp) (i:=i) (by omega));have k2:=GQ 2 cx c.bp (k:=i) (by omega) (getD_at (by omega));have k3:ξ.wrap ((i:Int) -1)=(i:Int) -1:=dh (by unfold aR;omega);have k4:ξ.wrap ((i:Int)+1)=((i+1:Nat):Int):=by rw[dh (by unfold aR;omega)];omega
   have k5:(i:Int)<c.bp.length:=by omega
   simp only[aQ,reduceCtorEq,ru,rz,rB,rA,rC,CF,CG,CP,CN,A8,k1,k2,k3,k5,D9];by_cases q1:(c.bp.getD i jZ).time<=(c.bp.getD (i-1) jZ).time
   ·simp only[aQ,reduceCtorEq,q1]
   ·by_cases q2:(c.bp.getD i jZ).way<(c.bp.getD (i-1) jZ).way<;>simp only[aQ,reduceCtorEq,ru,rz,rB,rA,rC,CF,CG,CP,CN,A8,k1,k2,k3,k4,q1,q2]
  ·rw[show 1+(c.bp.length-1)=c.bp.length by omega];simp only[aQ,reduceCtorEq,ru,rz,rB,rA,rC,Zu]
  ·simp only[aQ,reduceCtorEq]
  ·intro i;simp only[aQ,reduceCtorEq]
  ·cases(ZQ 1 (c.bp.length-1)).any (D9 c.bp)<;>rfl
 ·intro i;simp only[aQ,reduceCtorEq]
 ·unfold O5;cases c.bp.any yY<;>rfl
theorem Mt(l:List Int)(hl:l.length<=cz)(σ:Heap):CB [sl 1 xF l] σ=δ (.ah ((l.find? λn=>decide (¬n=0)).getD 0),σ):=by
 refine wrap_eq rfl ?_ rfl;show Lh (sl 1 xF l) σ=_;unfold Lh;simp only[aQ,reduceCtorEq];refine(adk l (λn=>decide (¬n=0)) (λi=>[.ah 0,.ah (i:Int)]) σ (.exit 0,[.ah 0,.ah (l.length:Int)],σ) (λi n=>(.ret,[.ah n,.ah (i:Int)],σ)) (δ (η 0,σ)) (λn=>δ (η n,σ)) ?_ ?_ ?_ ?_).trans ?_
 ·intro i x hx;obtain⟨g1,g2,g3⟩:=Uh 1 xF hx;have g3:=g3 hl;simp only[aQ,reduceCtorEq,g1,g2,g3]
  repeat' ((first|rw[vU]|rw[vT]|rw[vQ]|rw[vi]|rw[vP]|rw[vO]);split<;>try simp only[aQ,reduceCtorEq, *])
  all_goals first|with_reducible rfl|(simp [*];done)|(simp_all;done)|(simp_all;omega)|rfl
 ·exact Be _ _ _
 ·simp only[aQ,reduceCtorEq]
 ·intro i n;simp only[aQ,reduceCtorEq]
 ·cases l.find? (λn=>decide (¬n=0))<;>rfl
theorem AU(n:Int)(σ:Heap):Cs [.ah n] σ=δ (.bool (aT n 0 65535),σ):=by refine wrap_eq rfl ?_ rfl;show Ko _ σ=_;unfold Ko;simp only[aQ,reduceCtorEq,jB]
theorem ans(l:List lX)(hok:dX M4 l)(σ:Heap):J9 [sl 3 lz l] σ=δ (.ah (Bq l),σ):=by
 refine wrap_eq rfl ?_ rfl;show Ka (sl 3 lz l) σ=_;unfold Ka Bq;simp only[aQ,reduceCtorEq];by_cases Jl:30<l.length
 ·have DN:(30:Int)<l.length:=by omega
  simp only[aQ,reduceCtorEq,Jl,DN]
 ·have DN:¬(30:Int)<l.length:=by omega
  simp only[aQ,reduceCtorEq,Jl,DN]
  refine(qE (S:=Unit) (R:=Int) l (λpre x _=>
    if aT x.low 0 65535=ε\/aT x.high 0 65535=ε\/x.high<x.low then .out 1
    else if 0<pre.length/\x.low<=(pre.getLast?.map (·.high)).getD 0 then .out 7
    else if oh x.name=ε then .out 5
    else if gM x.name (pre.map (·.name))=ι then .out 6 else .go ())
   (λpre _=>[.ah 0,.ah (pre.length:Int)]) (λpre _=>σ++[Z2 (jL (·.name) pre)])
   (λ_=>(.exit 0,[.ah 0,.ah (l.length:Int)],σ++[Z2 (jL (·.name) l)])) (λpre _ r=>(.ret,[.ah r,.ah (pre.length:Int)],σ++[Z2 (jL (·.name) pre)]))
   (λ_ _=>True) () (λ_=>δ (η 0,σ)) (λr=>δ (η r,σ)) ?_ ?_ trivial (λ_ _ _ _ _ _ _ _=>trivial) ?_ ?_).trans ?_
  ·intro pre x rest u hl _;have hx:=qH hl;have hlt:=tG hl;have hi1:ξ.wrap ((pre.length:Int)+1)=(pre.length:Int)+1:=dh (by unfold aR;omega);have hi2:ξ.wrap ((pre.length:Int) -1)=(pre.length:Int) -1:=dh (by unfold aR;omega);have hlt':(pre.length:Int)<(l.length:Int):=by omega
   have hnm:=(hok.2 x (by rw[hl];simp)).2.2;have qP:=oJ 3 lz l hx;have hN:=HH _ hnm;by_cases h0:0<pre.length
   ·obtain⟨y,hy,hy2⟩:=Ur hl h0;have OP:=GQ 3 lz l h0 hy2;have h0':(0:Int)<pre.length:=by omega
    clear hl hx hlt hok Jl DN hy2 hnm;simp only[aQ,reduceCtorEq,GL,GM,GN,G6,G0,G8,hlt',qP,AU,hi1,hi2,hN,h0',hy,h0]
    repeat' ((first|rw[vU]|rw[vT]|rw[vQ]|rw[vi]|rw[vP]|rw[vO]);split<;>try simp only[aQ,reduceCtorEq,GL,GM,GN,G6,G0,G8,AU, *])
    all_goals first|with_reducible rfl|(simp [*];done)|(simp_all;done)|(simp_all;omega)|rfl
   ·have h0':¬(0:Int)<pre.length:=by omega
    clear hl hx hlt hok Jl DN hnm;simp only[aQ,reduceCtorEq,GL,GM,GN,G6,G0,G8,hlt',qP,AU,hi1,hi2,hN,h0',h0]
    repeat' ((first|rw[vU]|rw[vT]|rw[vQ]|rw[vi]|rw[vP]|rw[vO]);split<;>try simp only[aQ,reduceCtorEq,GL,GM,GN,G6,G0,G8,AU, *])
    all_goals first|with_reducible rfl|(simp [*];done)|(simp_all;done)|(simp_all;omega)|rfl
  ·intro u _;simp only[aQ,reduceCtorEq,Zu]
  ·intro u _;simp only[aQ,reduceCtorEq]
  ·intros;simp only[aQ,reduceCtorEq]
  ·refine(GW (qi:=IV) ?_ ?_ (λn=>δ (η n,σ)) l []).trans ?_
   ·intro pre;rfl
   ·intro pre x rest;rw[IV];simp only[Bv,wZ,xm]
   ·rfl
theorem anh(p:dG)(hok:G4 p)(σ:Heap):J6 [.agg (fI p)] σ=δ (.ah (oK p),σ):=by
 refine wrap_eq rfl ?_ rfl;show J8 (.agg (fI p)) σ=_;obtain⟨pn,ps,l⟩:=p;obtain⟨hnm,hps,OS⟩:=hok;simp only at hnm hps OS;have hN:=HH _ hnm;unfold J8 oK;simp only[aQ,reduceCtorEq,nR,nS,nT,nV,nU,nW,hN,jB];cases hn:oh pn
 ·simp only[aQ,reduceCtorEq]
 cases hz:aT ps 1 512
 ·simp only[aQ,reduceCtorEq]
 by_cases h0:l.length=0
 ·obtain rfl:l=[]:=xA h0;simp [aQ,reduceCtorEq]
 have h0':¬(l.length:Int)=0:=by omega
 by_cases Qi:40<l.length
 ·have IY:(40:Int)<l.length:=by omega
  simp only[aQ,reduceCtorEq,h0,h0',Qi,IY]
 have IY:¬(40:Int)<l.length:=by omega
 simp only[aQ,reduceCtorEq,h0,h0',Qi,IY]
 refine(qE (S:=Unit) (R:=Int) l (λpre x _=>
   if oh x.name=ε then .out 5
   else if gM x.name (pre.map (·.name))=ι then .out 6
   else if aT x.group 1 4=ε then .out 4
   else if aT x.mB 1 ps=ε\/aT x.lI 0 ps=ε\/aT x.default 0 65535=ε then .out 1
   else if x.mB=x.lI\/gM x.mB (slotsOf pre)=ι\/(0<x.lI/\gM x.lI (slotsOf pre)=ι)then .out 12
   else if Bq x.ranges=0 then .go ()else .out (Bq x.ranges))
  (λpre _=>[.lbx (fI ⟨pn,ps,l⟩),.ah 0,.ah (pre.length:Int)]) (λpre _=>σ++[Z2 (jL (·.name) pre),Z2 (nu id (slotsOf pre))])
  (λ_=>(.exit 1,[.lbx (fI ⟨pn,ps,l⟩),.ah 0,.ah (l.length:Int)],σ++[Z2 (jL (·.name) l),Z2 (nu id (slotsOf l))]))
  (λpre _ r=>(.ret,[.lbx (fI ⟨pn,ps,l⟩),.ah r,.ah (pre.length:Int)],σ++[Z2 (jL (·.name) pre),Z2 (nu id (slotsOf pre))]))
  (λ_ _=>True) () (λ_=>δ (η 0,σ)) (λr=>δ (η r,σ)) ?_ ?_ trivial (λ_ _ _ _ _ _ _ _=>trivial) ?_ ?_).trans ?_
 ·intro pre x rest u hl _;have hx:=qH hl;have hlt:=tG hl;have hi1:ξ.wrap ((pre.length:Int)+1)=(pre.length:Int)+1:=dh (by unfold aR;omega);have hi2:ξ.wrap ((pre.length:Int) -1)=(pre.length:Int) -1:=dh (by unfold aR;omega);have hlt':(pre.length:Int)<(l.length:Int):=by omega
  obtain⟨k1,k2,k3,k4,k5,k6⟩:=OS.2 x (by rw[hl];simp);have hNx:=HH _ k1;have hRx:=ans _ k6;have qP:=oJ 7 jf l hx;clear hl hx hlt OS Qi IY h0 h0' k1 k2 k3 k4 k5 k6 hnm hps hN hn hz;simp only[aQ,reduceCtorEq,LA,LB,LC,LD,LF,LG,LH,Mk,Mb,Mo,nR,nS,nT,nV,nU,nW,hlt',qP,jB,AU,hi1,hi2,hNx,hRx,List.map_id]
  repeat' ((first|rw[vU]|rw[vT]|rw[vQ]|rw[vi]|rw[vP]|rw[vO]);split<;>try simp only[aQ,reduceCtorEq,LA,LB,LC,LD,LF,LG,LH,Mk,Mb,Mo,nR,nS,nT,nV,nU,nW,jB,AU,List.map_id,aol,adp,T9, *])
  all_goals first|rfl|(simp_all;done)|(simp_all [R6,aol];done)|(simp only[R6,ite_false,ite_true,if_false,if_true, *]<;>simp_all)
 ·intro u _;simp only[aQ,reduceCtorEq,Zu]
 ·intro u _;simp only[aQ,reduceCtorEq]
 ·intros;simp only[aQ,reduceCtorEq]
 ·refine(GW (qi:=IU ps) ?_ ?_ (λn=>δ (η n,σ)) l []).trans ?_
  ·intro pre;rfl
  ·intro pre x rest;rw[IU];simp only[Bv,wZ,xm]
  ·rfl
theorem am7(l:List dG)(hok:dX G4 l)(σ:Heap):J5 [sl 3 fI l] σ=δ (.ah (ud l),σ):=by
 refine wrap_eq rfl ?_ rfl;show J7 (sl 3 fI l) σ=_;unfold J7 ud;simp only[aQ,reduceCtorEq];by_cases B6:60<l.length
 ·have xH:(60:Int)<l.length:=by omega
  simp only[aQ,reduceCtorEq,B6,xH]
 have xH:¬(60:Int)<l.length:=by omega
 simp only[aQ,reduceCtorEq,B6,xH]
 refine(qE (S:=Unit) (R:=Int) l (λpre x _=>if oK x=0 then(if gM x.name (pre.map (·.name))=ι then .out 6 else .go ())else .out (oK x))
  (λpre _=>[.ah 0,.ah (pre.length:Int)]) (λpre _=>σ++[Z2 (jL (·.name) pre)])
  (λ_=>(.exit 0,[.ah 0,.ah (l.length:Int)],σ++[Z2 (jL (·.name) l)])) (λpre _ r=>(.ret,[.ah r,.ah (pre.length:Int)],σ++[Z2 (jL (·.name) pre)]))
  (λ_ _=>True) () (λ_=>δ (η 0,σ)) (λr=>δ (η r,σ)) ?_ ?_ trivial (λ_ _ _ _ _ _ _ _=>trivial) ?_ ?_).trans ?_
 ·intro pre x rest u hl _;have hx:=qH hl;have hlt:=tG hl;have hi1:ξ.wrap ((pre.length:Int)+1)=(pre.length:Int)+1:=dh (by unfold aR;omega);have hi2:ξ.wrap ((pre.length:Int) -1)=(pre.length:Int) -1:=dh (by unfold aR;omega);have hlt':(pre.length:Int)<(l.length:Int):=by omega
  have hP:=anh x (hok.2 x (by rw[hl];simp));have qP:=oJ 3 fI l hx;clear hl hx hlt hok B6 xH;simp only[aQ,reduceCtorEq,nR,nS,nT,nV,nU,nW,hlt',qP,hi1,hP]
  repeat' ((first|rw[vU]|rw[vT]|rw[vQ]|rw[vi]|rw[vP]|rw[vO]);split<;>try simp only[aQ,reduceCtorEq,nR,nS,nT,nV,nU,nW, *])
  all_goals first|with_reducible rfl|(simp [*];done)|(simp_all;done)|(simp_all;omega)|rfl
 ·intro u _;simp only[aQ,reduceCtorEq,Zu]
 ·intro u _;simp only[aQ,reduceCtorEq]
 ·intros;simp only[aQ,reduceCtorEq]
 ·refine(GW (qi:=xG) ?_ ?_ (λn=>δ (η n,σ)) l []).trans ?_
  ·intro pre;rfl
  ·intro pre x rest;rw[xG];simp only[Bv,wZ,xm]
  ·rfl
theorem ane(dyn:Nat->ay->Heap->aL)(l:List dG)(hl:l.length<=cz)(n:Nat)(caps:ay)(p:dG->Bool)(σ:Heap)(hd:∀x∈l,dyn n ((.agg (fI x):U)::caps) σ=δ (.bool (p x),σ)):Gg dyn [sl 3 fI l,.fn n caps] σ=δ (.ah (uc p l),σ):=by
 refine wrap_eq rfl ?_ rfl;show Gh dyn (sl 3 fI l) (.fn n caps) σ=_;unfold Gh;simp only[aQ,reduceCtorEq]
 refine(qE (S:=Unit) (R:=Int) l (λpre x _=>if p x=ι then .out (pre.length:Int)else .go ())
  (λpre _=>[.ah 0,.ah (pre.length:Int)]) (λ_ _=>σ) (λ_=>(.exit 0,[.ah 0,.ah (l.length:Int)],σ)) (λpre _ r=>(.ret,[.ah (pre.length:Int),.ah (pre.length:Int)],σ))
  (λ_ _=>True) () (λ_=>δ (η (-1),σ)) (λr=>δ (η r,σ)) ?_ ?_ trivial (λ_ _ _ _ _ _ _ _=>trivial) ?_ ?_).trans ?_
 ·intro pre x rest u hl' _;have hx:=qH hl';have hlt:=tG hl';have hi1:ξ.wrap ((pre.length:Int)+1)=(pre.length:Int)+1:=dh (by unfold aR;unfold cz at hl;omega);have hlt':(pre.length:Int)<(l.length:Int):=by omega
  have qP:=oJ 3 fI l hx;have Qr:=hd x (by rw[hl'];simp);simp only[aQ,reduceCtorEq,nR,nS,nT,nV,nU,nW,hlt',qP,A.rK,iA,ZH,Qr,hi1];cases p x<;>simp [aQ,reduceCtorEq]
 ·intro u _;simp only[aQ,reduceCtorEq,Zu]
 ·intro u _;simp only[aQ,reduceCtorEq]
 ·intro pre x rest s q hl' _ hb
  have:q=(pre.length:Int):=by
   cases hpx:p x
   ·rw[hpx]at hb;cases hb
   ·rw[hpx]at hb;simp at hb;exact hb.symm
  simp only[aQ,reduceCtorEq,this]
 ·rw[anw p _ _ l [] (by simp)];simp only[ZH];split
  ·rename_i h;rw[h]
  ·rfl
theorem LI(nm:ByteArray):∀(l:List dG),gG nm l=match l.find? (λx:dG=>decide (x.name=nm))with|some p=>(p,ι)|none=>(⟨⟨#[]⟩,0,[]⟩,ε)
 |[]=>rfl
 |p::l=>by
  rw[gG];by_cases h:p.name=nm
  ·simp [h]
  ·simp [h,LI nm l]
theorem aab(x:dG)(nm:ByteArray)(σ:Heap):Cp [.agg (fI x),.rp [.str nm]] σ=δ (.bool (decide (x.name=nm)),σ):=by refine wrap_eq rfl ?_ rfl;show Kb (.agg (fI x)) (.rp [.str nm]) σ=_;unfold Kb;simp only[aQ,reduceCtorEq,nR,nS,nT,nV,nU,nW];show(δ (ψ nm)).bind _=_;simp only[aQ,reduceCtorEq]
theorem nnP(x:iu):VD [.k,.k,.k,.k,.k,.k,(.s 3)] (jf x)=jf x:=rfl
theorem agv(p:dG)(b:Bool):V3 (.t [(.a vE),.k]) (.az [.agg (fI p),.bool b])=.az [.agg (fI p),.bool b]:=by show l6 [.agg [.str p.name,.ah p.size,V3 (.e 7 [.k,.k,.k,.k,.k,.k,(.s 3)]) (sl 7 jf p.params)],.bool b]=_;rw[ng nnP];rfl
theorem SN(l:List dG)(hl:l.length<=cz)(nm:ByteArray)(σ:Heap):Gp [sl 3 fI l,.str nm] σ=δ (.az [.agg (fI (gG nm l).1),.bool (gG nm l).2],σ):=by
 have key:∃w,Gs (sl 3 fI l) (.str nm) σ=δ (w,σ)/\V3 (.t [(.a vE),.k]) w=.az [.agg (fI (gG nm l).1),.bool (gG nm l).2]:=by
  unfold Gs;simp only[aQ,reduceCtorEq];rw[ane _ l hl 64 [.rp [.str nm]] (λx=>decide (x.name=nm)) σ (λx _=>aab x nm σ)];simp only[aQ,reduceCtorEq];rw[LI];rcases LW (λx:dG=>decide (x.name=nm)) l with⟨h1,_,h3⟩|⟨k,x,h1,h2,h3,h4,_⟩
  ·refine⟨.az [.agg [.str ⟨#[]⟩,.ah 0,.aD],.bool ε],?_,?_⟩
   ·rw[h1];simp only[aQ,reduceCtorEq,show((-1:Int)<0)from by decide];rfl
   ·rw[h3];rfl
  ·refine⟨.az [.agg (fI x),.bool ι],?_,?_⟩
   ·rw[h3];simp only[aQ,reduceCtorEq,nR,nS,nT,nV,nU,nW,show ¬((k:Int)<0)from by omega,oJ 3 fI l h1]
   ·rw[h4];exact agv x ι
 obtain⟨w,h1,h2⟩:=key;exact wrap_eq rfl h1 h2
def marks(f:Nat->Bool):ay:=(List.range 513).map λk=>.bool (f k)
theorem A6(f:Nat->Bool){k:Nat}(h:k<513):(marks f)[k]? =δ (.bool (f k)):=by simp [marks,h]
theorem yJ(f:Nat->Bool):(marks f).length=513:=by simp [marks]
theorem Tf(f:Nat->Bool){γ:Type}(K1 K2:γ):∀(s a:Nat)(pre:List Nat),(gZ (λ_ k(_:Unit)=>if 512<k\/f k=ι then(Rd.out ():Rd Unit Unit)else .go ()) pre (ZQ a s) ()).el (λ_=>K1) (λ_=>K2)=if qI f s a=ι then K1 else K2
 |0,a,pre=>by simp [gZ,qI,apn]
 |s+1,a,pre=>by
  rw[apw,gZ,qI];by_cases h:512<a\/f a=ι
  ·simp only[aG h,apn];simp
  ·simp only[aE h];exact Tf f K1 K2 s (a+1) _
theorem afa(a s:Int)(h:aR (a+s))(h':aR (a+s-1))(σ:Heap):As [.np,.ah a,.ah s] σ=δ (.bool (decide (a+s-1<=512)),σ):=by refine wrap_eq rfl ?_ rfl;show Cr .np (.ah a) (.ah s) σ=_;unfold Cr;simp only[aQ,reduceCtorEq,show p4 .p U.np U.np=δ (.bool ι)from rfl,dh h,dh h']
theorem adM(cs:ay){k:Nat}(h:k<513):A.tK 513 1 (.rp cs) (.ah (k:Int))=δ (.rp (cs.drop k)):=by
 have h1:A.idx 513 (.ah (k:Int))=δ k:=by show(if(0:Int)<=(k:Int)/\(k:Int)<((513:Nat):Int)then δ (k:Int).toNat else μ)=δ k;rw[aG ⟨by omega,by omega⟩];rfl
 unfold A.tK;rw[h1];simp only[aB,Nat.mul_one]
theorem afc(f:Nat->Bool)(a s:Nat)(hs:a<=1024/\s<=1024)(σ:Heap):As [.rp (marks f),.ah (a:Int),.ah (s:Int)] σ=δ (.bool (qI f s a),σ):=by
 refine wrap_eq rfl ?_ rfl;show Cr (.rp (marks f)) (.ah (a:Int)) (.ah (s:Int)) σ=_;unfold Cr;have hw:ξ.wrap ((a:Int)+s)=(a:Int)+s:=dh (by unfold aR;omega);simp only[aQ,reduceCtorEq,show p4 .p (T3 (marks f)) U.np=δ (.bool ε)from rfl,hw]
 refine(qE (S:=Unit) (R:=Unit) (ZQ a s) (λ_ k(_:Unit)=>if 512<k\/f k=ι then(Rd.out ():Rd Unit Unit)else .go ())
  (λpre _=>[.bool ε,.ah ((a:Int)+(pre.length:Int))]) (λ_ _=>σ) (λ_=>(.exit 0,[.bool ε,.ah ((a:Int)+s)],σ)) (λpre _ _=>(.ret,[.bool ε,.ah ((a:Int)+(pre.length:Int))],σ))
  (λ_ _=>True) () (λ_=>δ (φ ι,σ)) (λ_=>δ (φ ε,σ)) ?_ ?_ trivial (λ_ _ _ _ _ _ _ _=>trivial) ?_ ?_ (hv:=by simp)).trans ?_
 ·intro pre k rest u hl _;have hx:=qH hl;have hlt:=tG hl;rw[Vf]at hlt
  obtain rfl:a+pre.length=k:=by have:=(cD.1 hx).2;simpa [ao3]using this
  have hlt':(a:Int)+(pre.length:Int)<(a:Int)+s:=by omega
  have hi1:ξ.wrap ((a:Int)+(pre.length:Int)+1)=(a:Int)+((pre.length:Int)+1):=by rw[dh (by unfold aR;omega)];omega
  have BC:(a:Int)+(pre.length:Int)=((a+pre.length:Nat):Int):=by omega
  clear hl hx;by_cases h5:512<a+pre.length
  ·have Qj:(512:Int)<(a:Int)+(pre.length:Int):=by omega
   simp only[aQ,reduceCtorEq,hlt',h5,Qj]
  have Qj:¬(512:Int)<(a:Int)+(pre.length:Int):=by omega
  have hp:Ω 0 ((marks f).drop (a+pre.length))=δ (.bool (f (a+pre.length))):=by rw[QO];simp only[Ω,aps,A6 f (show a+pre.length<513 by omega)];rfl
  simp only[aQ,reduceCtorEq,hlt',h5,Qj,show A.mU (T3 (marks f))=δ (.rp (marks f))from rfl];rw[BC,adM _ (by omega)];simp only[aQ,reduceCtorEq,hp];cases hf:f (a+pre.length)
  ·simp only[aQ,reduceCtorEq,<-BC,hi1]
  ·simp only[aQ,reduceCtorEq,<-BC]
 ·intro u _;rw[Vf];exact Be _ _ _
 ·intro u _;simp only[aQ,reduceCtorEq]
 ·intros;simp only[aQ,reduceCtorEq]
 ·rw[Tf];cases qI f s a<;>rfl
theorem afb(f:Nat->Bool)(a s:Nat)(hs:a<=1024/\s<=1024){σ:Heap}{id:Nat}(h:σ[id]? =δ (.box (marks f))):As [.op id 0,.ah (a:Int),.ah (s:Int)] σ=δ (.bool (qI f s a),σ):=by
 refine ML (args':=[.rp (marks f),.ah (a:Int),.ah (s:Int)]) rfl ?_ rfl (afc f a s hs []) rfl
 have e:A.tN σ 0 7 (marks f)=δ (marks f):=by
  have key:∀(l:List Nat),A.tN σ 0 7 (l.map λk=>φ (f k))=δ (l.map λk=>φ (f k)):=by
   intro l;induction l with
   |nil=>simp [A.tN]
   |cons x l ih=>simp [A.tN,ZG,ih]
  exact key _
 simp [UU,ZG,h,e]
def pG(b:Nat):List Int->List (U×U)
 |[]=>[]
 |v::r=>(.int ξ v,.op b 0)::pG (b+1) r
def fL(σ:Heap)(vs:List Int)(f:Int->Nat->Bool):Heap:=σ++(Z2 (pG (σ.length+1) vs)::vs.map λv=>bQ.box (marks (f v)))
theorem UD(v:Int):∀(vs:List Int)(b:Nat),pG b (vs++[v])=pG b vs++[(.ah v,.op (b+vs.length) 0)]
 |[],b=>rfl
 |w::r,b=>by simp only[iA,pG,UD v r (b+1),n9];rw[show b+1+r.length=b+(r.length+1) by omega]
theorem HF(v:Int):∀(vs:List Int)(b:Nat),Z6 .i (.ah v) (pG b vs)=δ (if v∈vs then δ (.op (b+vs.idxOf v) 0)else μ)
 |[],b=>rfl
 |w::r,b=>by
  simp only[pG,Z6,X4,A.jN,if_true,aB];by_cases h:v=w
  ·subst h;simp
  ·have h1:(v==w)=ε:=by simpa using h
   have h2:(w==v)=ε:=by simpa using λe:w=v=>h e.symm
   simp only[h1,bA,HF v r (b+1),dW,h,false_or,List.idxOf_cons,h2];rw[show b+1+r.idxOf v=b+(r.idxOf v+1) by omega]
theorem VA(v:Int)(w:U):∀(vs:List Int)(b:Nat),v∉vs->apa .i (.ah v) w (pG b vs)=δ (pG b vs++[(.ah v,w)])
 |[],b,_=>rfl
 |x::r,b,h=>by
  simp only[dW,not_or]at h;have h1:(v==x)=ε:=by simpa using h.1
  simp only[pG,apa,X4,A.jN,if_true,aB,h1,bA,VA v w r (b+1) h.2,eB,iA]
theorem an4(σ:Heap)(vs:List Int)(f:Int->Nat->Bool):(fL σ vs f).length=σ.length+1+vs.length:=by simp [fL];omega
theorem Il(σ:Heap)(vs:List Int)(f:Int->Nat->Bool):(fL σ vs f)[σ.length]? =δ (.map (pG (σ.length+1) vs)):=by simp [fL]
theorem aob(σ:Heap){vs:List Int}(f:Int->Nat->Bool){v:Int}(h:v∈vs):(fL σ vs f)[σ.length+1+vs.idxOf v]? =δ (.box (marks (f v))):=by
 unfold fL;rw[jH (by omega),show σ.length+1+vs.idxOf v-σ.length=vs.idxOf v+1 by omega,ap4,List.getElem?_map]
 have:vs[vs.idxOf v]? =δ v:=by have hl:=List.idxOf_lt_length_of_mem h;rw[cy hl,List.getElem_idxOf hl]
 rw[this];rfl
theorem afW(σ:Heap){vs:List Int}(hn:vs.Nodup){f f':Int->Nat->Bool}{v:Int}(h:v∈vs)(ho:∀w,w≠v->f' w=f w):(fL σ vs f).set (σ.length+1+vs.idxOf v) (.box (marks (f' v)))=fL σ vs f':=by
 unfold fL;rw[BF _ _ (by omega),show σ.length+1+vs.idxOf v-σ.length=vs.idxOf v+1 by omega,List.set_cons_succ];refine congrArg (λz=>σ++(Z2 (pG (σ.length+1) vs)::z)) ?_;clear σ;induction vs with
 |nil=>cases h
 |cons w r ih=>
  rw[ao9]at hn;rw[List.idxOf_cons];by_cases e:w=v
  ·subst e;simp only[beq_self_eq_true,bR,dJ,List.set_cons_zero];exact congrArg (bQ.box (marks (f' w))::·) (Ub λx hx=>by rw[ho x (λe=>hn.1 (e▸hx))])
  ·have e2:(w==v)=ε:=by simpa using e
   simp only[e2,bA,dJ,List.set_cons_succ];rw[ih hn.2 ((dW.1 h).resolve_left λq=>e q.symm),ho w e]
theorem afV(σ:Heap)(vs:List Int){f:Int->Nat->Bool}{v:Int}(h:∀k,f v k=ε):((fL σ vs f)++[bQ.box (w8 513 aC)]).set σ.length (.map (pG (σ.length+1) (vs++[v])))=fL σ (vs++[v]) f:=by
 have e:marks (f v)=w8 513 aC:=by rw[show f v=λ_=>ε from funext h];refine List.eq_replicate_iff.2 ⟨yJ _,λb hb=>?_⟩;obtain⟨k,_,rfl⟩:=jJ.1 hb;rfl
 unfold fL;simp only[rR,iA];rw[BF _ _ (cg _),Nat.sub_self,List.set_cons_zero,List.map_append,dJ,e];rfl
theorem adn(g g':Nat->Bool){k:Nat}(hk:k<513)(h1:g' k=ι)(h2:∀j,j≠k->g' j=g j):n4 k [φ ι] (marks g)=δ (marks g'):=by
 unfold n4;rw[aG (by rw[yJ];simp;omega)];refine congrArg δ (List.ext_getElem? λj=>?_);simp only[rR,iA,ZH,n9,Zh];by_cases hj:j<k
 ·rw[iK (by rw[pV,yJ];omega),UY hj,A6 _ (by omega),A6 _ (by omega),h2 j (by omega)]
 ·rw[jH (by rw[pV,yJ];omega),pV,yJ,Nat.min_eq_left (by omega)];by_cases e:j=k
  ·subst e;rw[Nat.sub_self,SD,A6 _ hk,h1]
  ·rw[show j-k=(j-k-1)+1 by omega,ap4,XK,show k+(0+1)+(j-k-1)=j by omega];by_cases hj2:j<513
   ·rw[A6 _ hj2,A6 _ hj2,h2 j e]
   ·rw[lG (by rw[yJ];omega),lG (by rw[yJ];omega)]
theorem IA{α γ:Type}(K1:Unit->γ)(K2:Unit->γ):∀(l pre:List α),(gZ (λ_(x:α)(_:Unit)=>(Rd.go ():Rd Unit Unit)) pre l ()).el K1 K2=K1 ()
 |[],pre=>rfl
 |x::l,pre=>by rw[gZ];exact IA K1 K2 l _
theorem SQ{α S:Type}{body:List α->α->S->Rd S Int}{qi:List α->List α->Int}(h0:∀pre,qi pre []=0)(h:∀pre x rest s,qi pre (x::rest)=(body pre x s).el (λ_=>qi (pre++[x]) rest) (λr=>r)) {γ:Type} (K:Int->γ):
  ∀(l pre:List α)(s:S),(gZ body pre l s).el (λ_=>K 0) K=K (qi pre l)
 |[],pre,s=>by rw[gZ,h0];rfl
 |x::l,pre,s=>by
  rw[gZ,h pre x l s];cases body pre x s with
  |go s'=>exact SQ h0 h K l (pre++[x]) s'
  |out r=>rfl
theorem aci(f:Int->Nat->Bool)(v:Int)(a:Nat):kT f v a 0=f:=by funext w k;unfold kT;rw[aE (by omega)]
theorem TM{γ:Type}(σ:Heap){vs:List Int}(hn:vs.Nodup)(f:Int->Nat->Bool)(u:fS)(a s:Nat)(ha:u.address=a)(hs:a+s<=513)(hm:u.univ∈vs)(K:ay->Heap->Option γ):
  (Zp (λv11 Aa=>
   ((Zm (ak v11 0)).bind λ_=>δ (3)).bind λp13=>
   ((Zm (ak v11 0)).bind λoA=>Ω p13 oA).bind λct=>
   (u9 ct (.ah (s:Int))).bind λcq=>
   (ZS (ak v11 1) cq).bind λdw=>
   Γ dw (
    ((Zm (ak v11 0)).bind λ_=>δ (2)).bind λp18=>
    ((Zm (ak v11 0)).bind λvF=>Ω p18 vF).bind λcK=>
    (Zl .i (.om σ.length) cK U.np Aa).bind λbK=>
    (A.mU bK).bind λbV=>
    (A.tK 513 1 bV (ak v11 1)).bind λcQ=>
    (WG cQ [φ ι] Aa).bind λiV=>
    (u9 (ak v11 1) (η 1)).bind λdS=>
    δ (y9,[(ak v11 0),dS],iV)) (
    δ (i6 0,[(ak v11 0),(ak v11 1)],Aa))) [.lbx (gH u),.ah (a:Int)] (fL σ vs f)).bind (λnG=>
 bif decide (nG.1=i6 0)then K nG.2.1 nG.2.2 else μ)=K [.lbx (gH u),.ah ((a:Int)+s)] (fL σ vs (kT f u.univ a s)):=by
 have hw:ξ.wrap ((a:Int)+s)=(a:Int)+s:=dh (by unfold aR;omega)
 refine(qE (S:=Unit) (R:=Unit) (ZQ a s) (λ_ k(_:Unit)=>(Rd.go ():Rd Unit Unit))
  (λpre _=>[.lbx (gH u),.ah ((a:Int)+(pre.length:Int))]) (λpre _=>fL σ vs (kT f u.univ a pre.length)) (λ_=>(.exit 0,[.lbx (gH u),.ah ((a:Int)+s)],fL σ vs (kT f u.univ a s))) (λpre _ _=>(.ret,[],σ))
  (λ_ _=>True) () (λ_=>K [.lbx (gH u),.ah ((a:Int)+s)] (fL σ vs (kT f u.univ a s))) (λ_=>μ) ?_ ?_ trivial (λ_ _ _ _ _ _ _ _=>trivial) ?_ ?_ (hv:=by simp) (eI:=by rw[Zh,aci])).trans (IA _ _ _ _)
 ·intro pre k rest t hl _;have hx:=qH hl;have hlt:=tG hl;rw[Vf]at hlt
  obtain rfl:a+pre.length=k:=by have:=(cD.1 hx).2;simpa [ao3]using this
  have hlt':(a:Int)+(pre.length:Int)<(a:Int)+s:=by omega
  have hi1:ξ.wrap ((a:Int)+(pre.length:Int)+1)=(a:Int)+((pre.length:Int)+1):=by rw[dh (by unfold aR;omega)];omega
  have BC:(a:Int)+(pre.length:Int)=((a+pre.length:Nat):Int):=by omega
  clear hl hx
  have NI:Zl .i (.om σ.length) (.ah u.univ) U.np (fL σ vs (kT f u.univ a pre.length))=δ (.op (σ.length+1+vs.idxOf u.univ) 0):=by rw[wT .i rfl (Il σ vs _),HF,aG hm];rfl
  have ajg:A.tK 513 1 (.op (σ.length+1+vs.idxOf u.univ) 0) (.ah ((a+pre.length:Nat):Int))=δ (.op (σ.length+1+vs.idxOf u.univ) (a+pre.length)):=by
   have h1:A.idx 513 (.ah ((a+pre.length:Nat):Int))=δ (a+pre.length):=by show(if(0:Int)<=((a+pre.length:Nat):Int)/\((a+pre.length:Nat):Int)<((513:Nat):Int)then δ ((a+pre.length:Nat):Int).toNat else μ)=_;rw[aG ⟨by omega,by omega⟩];rfl
   unfold A.tK;rw[h1];simp only[aB,Nat.mul_one,ZP]
  have hst:WG (.op (σ.length+1+vs.idxOf u.univ) (a+pre.length)) [.bool ι] (fL σ vs (kT f u.univ a pre.length))=δ (fL σ vs (kT f u.univ a (pre.length+1))):=by
   simp only[WG,aob σ _ hm]
   rw[adn _ (kT f u.univ a (pre.length+1) u.univ) (by omega) (by unfold kT;rw[aG ⟨rfl,by omega,by omega⟩]) (λj hj=>by
    unfold kT;by_cases q:a<=j/\j<a+pre.length
    ·rw[aG ⟨rfl,by omega,by omega⟩,aG ⟨rfl,q.1,q.2⟩]
    ·rw[aE (by omega),aE (by omega)])]
   simp only[eB];rw[afW σ hn hm (λw hw=>by funext j;unfold kT;rw[aE (λq=>hw q.1),aE (λq=>hw q.1)])]
  simp only[aQ,reduceCtorEq,mK,mL,mM,mN,mP,mO,mQ,ha,hw,hlt',NI,show A.mU (.op (σ.length+1+vs.idxOf u.univ) 0)=δ (.op (σ.length+1+vs.idxOf u.univ) 0)from rfl];rw[BC,ajg];simp only[aQ,reduceCtorEq,hst,<-BC,hi1]
 ·intro t _;rw[Vf];simp only[aQ,reduceCtorEq,mK,mL,mM,mN,mP,mO,mQ,ha,hw,Zu]
 ·intro t _;simp only[aQ,reduceCtorEq]
 ·intro pre x rest t r _ _ hb;cases hb
theorem afT(σ:Heap){vs:List Int}(hn:vs.Nodup)(f:Int->Nat->Bool)(u:fS)(a s:Nat)(ha:u.address=a)(hs:a+s<=513)(hf:u.univ∉vs->∀k,f u.univ k=ε):
  Gy [.om σ.length,.agg (gH u),.ah (s:Int)] (fL σ vs f)=δ (.az [],fL σ (if u.univ∈vs then vs else vs++[u.univ]) (kT f u.univ a s)):=by
 have e:Cx (.om σ.length) (.agg (gH u)) (.ah (s:Int)) (fL σ vs f)=δ (.az [],fL σ (if u.univ∈vs then vs else vs++[u.univ]) (kT f u.univ a s)):=by
  unfold Cx
  have NI:Zl .i (.om σ.length) (.ah u.univ) U.np (fL σ vs f)=δ (if u.univ∈vs then .op (σ.length+1+vs.idxOf u.univ) 0 else .np):=by rw[wT .i rfl (Il σ vs _),HF];by_cases hm:u.univ∈vs<;>simp [hm]
  simp only[aQ,reduceCtorEq,mK,mL,mM,mN,mP,mO,mQ,NI];by_cases hm:u.univ∈vs
  ·simp only[aG hm,show p4 .p (.op (σ.length+1+vs.idxOf u.univ) 0) U.np=δ (.bool ε)from rfl,aQ,reduceCtorEq,mK,mL,mM,mN,mP,mO,mQ,ha];exact TM σ hn f u a s ha hs hm λ_ h=>δ (l6 [],h)
  ·have hup:A.jk .i (.om σ.length) (.ah u.univ) (.op (fL σ vs f).length 0) (fL σ vs f++[bQ.box (w8 513 aC)])=δ (fL σ (vs++[u.univ]) f):=by rw[C8 .i rfl (es:=pG (σ.length+1) vs) (by rw[iK (by rw[an4];omega)];exact Il σ vs f),VA _ _ _ _ hm];rw[eB,an4,<-UD,afV σ vs (hf hm)]
   simp only[aE hm,show p4 .p U.np U.np=δ (.bool ι)from rfl,aQ,reduceCtorEq,mK,mL,mM,mN,mP,mO,mQ,hup,ha];exact TM σ (by rw[List.nodup_append];exact⟨hn,by simp,λx hx y hy e=>hm (by simp at hy;rw[<-hy,<-e];exact hx)⟩) f u a s ha hs (by simp) λ_ h=>δ (l6 [],h)
 unfold Gy l9;rw[YM,bA];show(Cx (.om σ.length) (.agg (gH u)) (.ah (s:Int)) (fL σ vs f)).map _=_;rw[e];rfl
theorem aco{α:Type}(f:α->Int){l pre rest:List α}{x:α}(h:l=pre++x::rest)(n:Int):(∃y,0<pre.length/\l[pre.length-1]? =δ y/\zf (pre.map f) n=decide (n<=f y))\/(¬0<pre.length/\zf (pre.map f) n=ε):=by
 by_cases h0:0<pre.length
 ·obtain⟨y,hy,hy2⟩:=Ur h h0;exact .inl ⟨y,h0,hy2,by simp [zf,List.getLast?_map,hy]⟩
 ·obtain rfl:pre=[]:=xA (by omega);exact .inr ⟨h0,rfl⟩
theorem aeI(σ:Heap)(vs:List Int)(f:Int->Nat->Bool)(v:Int):Zl .i (.om σ.length) (.ah v) U.np (fL σ vs f)=δ (if v∈vs then .op (σ.length+1+vs.idxOf v) 0 else .np):=by rw[wT .i rfl (Il σ vs _),HF];by_cases hm:v∈vs<;>simp [hm]
theorem UX(σ:Heap)(vs:List Int)(f:Int->Nat->Bool)(n:Int):Θ σ (.ah n) (fL σ vs f)=δ (.ah n,σ):=MU _ _ _ _
theorem Lv(r:ef)(hok:pQ r)(σ:Heap):Gm [.agg (cR r)] σ=δ (.ah (iD r),σ):=by
 refine wrap_eq rfl ?_ rfl;show Kk (.agg (cR r)) σ=_;obtain⟨OR,hus⟩:=hok;have FC:=OR.1;unfold Kk iD;simp only[aQ,reduceCtorEq,sZ,tc,tu,th,tv,am7 _ OR];by_cases hf:ud r.dn=0;case neg=>simp only[aQ,reduceCtorEq,hf]
 by_cases h4:400<r.ji.length
 ·have h4':(400:Int)<r.ji.length:=by omega
  simp only[aQ,reduceCtorEq,sZ,tc,tu,th,tv,hf,h4,h4']
 have h4':¬(400:Int)<r.ji.length:=by omega
 simp only[aQ,reduceCtorEq,sZ,tc,tu,th,tv,hf,h4,h4'];have V2:=acg hf;generalize Ju:r.ji=l at *
 refine(qE (S:=List Int×(Int->Nat->Bool)) (R:=Int) l (λpre u s=>if aT u.aY 1 9999=ε then .out 1
    else if zf (pre.map (·.aY)) u.aY=ι then .out 7
    else if(gG u.iq r.dn).2=ε then .out 5
    else if aT u.univ 1 64=ε\/aT u.address 1 512=ε\/512<mh r.dn u then .out 1
    else if Bs r.dn u pre=ι then .out 12 else .go (if u.univ∈s.1 then s.1 else s.1++[u.univ],kT s.2 u.univ u.address.toNat (gG u.iq r.dn).1.size.toNat))
  (λpre _=>[.lbx (cR r),.ah 0,.ah (pre.length:Int)]) (λpre s=>fL σ s.1 s.2)
  (λs=>(.exit 0,[.lbx (cR r),.ah 0,.ah (l.length:Int)],fL σ s.1 s.2)) (λpre s n=>(.ret,[.lbx (cR r),.ah n,.ah (pre.length:Int)],fL σ s.1 s.2))
  (λpre s=>C0 r.dn pre/\wY r.dn pre s.2/\s.1.Nodup/\∀v,v∉s.1->∀k,s.2 v k=ε) ([],λ_ _=>ε) (λ_=>δ (η 0,σ)) (λn=>δ (η n,σ)) ?_ ?_ ⟨(by intro x hx;simp at hx),wY.nil _,List.nodup_nil,λ_ _ _=>rfl⟩ ?_ ?_ ?_).trans ?_
 ·intro pre u rest s hl hP;have hx:=qH hl;have hlt:=tG hl;have hi1:ξ.wrap ((pre.length:Int)+1)=(pre.length:Int)+1:=dh (by unfold aR;omega);have hi2:ξ.wrap ((pre.length:Int) -1)=(pre.length:Int) -1:=dh (by unfold aR;omega);have hlt':(pre.length:Int)<(l.length:Int):=by omega
  have hmp:pre.length<=cz:=by unfold cz;omega
  have qP:=oJ 4 gH l hx;have Jo:=SN r.dn FC u.iq;have ho:=aco (·.aY) hl u.aY;obtain⟨vs,f⟩:=s;obtain⟨Fo,Fp,B7,B8⟩:=hP;dsimp only at Fo Fp B7 B8 ⊢;clear hus h4 h4' hl hx;simp only[aQ,reduceCtorEq,mK,mL,mM,mN,mP,mO,mQ,sZ,tc,tu,th,tv,Ju,hlt',qP,Jo,nR,nS,nT,nV,nU,nW,jB];cases h1:aT u.aY 1 9999
  ·simp only[aQ,reduceCtorEq]
  simp only[aQ,reduceCtorEq];rcases ho with⟨y,h0,hy,ho⟩|⟨h0,ho⟩
  case' inl=>
   have h0':(0:Int)<pre.length:=by omega
   have OP:=GQ 4 gH l h0 hy;by_cases hq:u.aY<=y.aY
   ·simp only[aQ,reduceCtorEq,mK,mL,mM,mN,mP,mO,mQ,sZ,tc,tu,th,tv,Ju,h0',hi2,OP,ho,hq]
   simp only[aQ,reduceCtorEq,mK,mL,mM,mN,mP,mO,mQ,sZ,tc,tu,th,tv,Ju,h0',hi2,OP,ho,hq]
  case' inr=>
   have h0':¬(0:Int)<pre.length:=by omega
   simp only[aQ,reduceCtorEq,h0',ho]
  all_goals
   try simp only[aQ,reduceCtorEq,mK,mL,mM,mN,mP,mO,mQ,sZ,tc,tu,th,tv,Ju,Jo]
   cases hp:(gG u.iq r.dn).2
   ·simp only[aQ,reduceCtorEq,nR,nS,nT,nV,nU,nW]
   have hsz:=V2 _ (L3 _ _ hp);try simp only[aQ,reduceCtorEq,mK,mL,mM,mN,mP,mO,mQ,nR,nS,nT,nV,nU,nW,jB]
   cases hu:aT u.univ 1 64
   ·simp only[aQ,reduceCtorEq]
   cases ha:aT u.address 1 512
   ·simp only[aQ,reduceCtorEq,mK,mL,mM,mN,mP,mO,mQ,jB,ha]
   have ha':1<=u.address/\u.address<=512:=by simpa [aT]using ha
   have hw1:ξ.wrap (u.address+(gG u.iq r.dn).1.size)=u.address+(gG u.iq r.dn).1.size:=dh (by unfold aR;omega);have Jv:ξ.wrap (u.address+(gG u.iq r.dn).1.size-1)=mh r.dn u:=dh (by unfold aR;omega);have hlu:mh r.dn u=u.address+(gG u.iq r.dn).1.size-1:=rfl;by_cases h5:512<mh r.dn u
   ·simp only[aQ,reduceCtorEq,mK,mL,mM,mN,mP,mO,mQ,nR,nS,nT,nV,nU,nW,jB,ha,hw1,Jv,h5]
   obtain⟨a,Ql⟩:∃a:Nat,u.address=a:=⟨u.address.toNat,by omega⟩
   obtain⟨n,hne⟩:∃n:Nat,(gG u.iq r.dn).1.size=n:=⟨(gG u.iq r.dn).1.size.toNat,by omega⟩
   have Js:=ab5 Fp Fo u a n Ql (by omega) (by omega) (by omega)
   have hfree:As [if u.univ∈vs then .op (σ.length+1+vs.idxOf u.univ) 0 else .np,.ah (a:Int),.ah (n:Int)] (fL σ vs f)=δ (.bool (!Bs r.dn u pre),fL σ vs f):=by
    by_cases hm:u.univ∈vs
    ·rw[aG hm,afb (f u.univ) a n (by omega) (aob σ f hm),Js]
    ·rw[aE hm,afa a n (by unfold aR;omega) (by unfold aR;omega),<-Js];have e:qI (f u.univ) n a=ι:=(Mf _ _ _).2 λk h1 h2=>⟨by omega,B8 _ hm k⟩
     rw[e,show decide ((a:Int)+n-1<=512)=ι from mj (by omega)]
   have wg:=afT σ B7 f u a n Ql (by omega) (B8 u.univ);simp only[aQ,reduceCtorEq,mK,mL,mM,mN,mP,mO,mQ,nR,nS,nT,nV,nU,nW,jB,ha,hw1,Jv,h5,aeI];rw[Ql,hne];simp only[aQ,reduceCtorEq,hfree];cases hc:Bs r.dn u pre
   ·simp only[aQ,reduceCtorEq,mK,mL,mM,mN,mP,mO,mQ,nR,nS,nT,nV,nU,nW,hne,wg,hi1,Zk]
   ·simp only[aQ,reduceCtorEq]
 ·intro s _;exact Be _ _ _
 ·intro pre u rest s s' hl hP hb;obtain⟨vs,f⟩:=s;obtain⟨Fo,Fp,B7,B8⟩:=hP;dsimp only at Fo Fp B7 B8 hb;split at hb
  ·cases hb
  split at hb
  ·cases hb
  split at hb
  ·cases hb
  rename_i hp;split at hb
  ·cases hb
  rename_i hw;split at hb
  ·cases hb
  injection hb with hb
  subst hb;simp only[not_or,Bool.not_eq_false,aT,dZ,decide_eq_true_eq]at hw hp;have hsz:=V2 _ (L3 _ _ (by simpa using hp));have hlu:mh r.dn u=u.address+(gG u.iq r.dn).1.size-1:=rfl;refine⟨Fo.snoc ⟨hw.2.1.1,by omega,by omega⟩,Fp.snoc u u.address.toNat _ (by omega) (by omega),?_,?_⟩
  ·dsimp only;split
   ·exact B7
   ·rename_i hm;rw[List.nodup_append];exact⟨B7,by simp,λx hx y hy e=>hm (by simp at hy;rw[<-hy,<-e];exact hx)⟩
  ·intro v hv k;dsimp only at hv ⊢
   have h1:v≠u.univ/\v∉vs:=by
    split at hv
    ·rename_i hm;exact⟨λe=>hv (e▸hm),hv⟩
    ·simp only[ga,apF,not_or]at hv;exact⟨hv.2,hv.1⟩
   unfold kT;rw[aE (λq=>h1.1 q.1)];exact B8 v h1.2 k
 ·intro s _;simp only[aQ,reduceCtorEq,UX]
 ·intros;simp only[aQ,reduceCtorEq,UX]
 ·refine(SQ (qi:=BJ r.dn) ?_ ?_ (λn=>δ (η n,σ)) l [] _).trans ?_
  ·intro pre;rfl
  ·intro pre x rest s;rw[BJ];simp only[Bv,wZ,xm]
  ·rfl
def nY(fK:List dG)(u:fS):List au:=(gG u.iq fK).1.params.map λx=>⟨u.aY,x.name⟩
def oc(r:ef):List au:=r.ji.flatMap (nY r.dn)
theorem ann{p:dG}(h:oK p=0):p.params.length<=40:=by
 unfold oK at h
 repeat' split at h
 all_goals first|(simp at h;done)|omega
theorem anO:∀(l pre:List dG),xG pre l=0->∀p∈l,oK p=0
 |[],pre,h,p,hp=>by simp at hp
 |q::rest,pre,h,p,hp=>by
  rw[xG]at h;by_cases e:oK q=0
  ·rw[aG e]at h;by_cases e2:gM q.name (pre.map (·.name))=ι
   ·rw[aG e2]at h;simp at h
   ·rw[aE e2]at h;simp only[dW]at hp;rcases hp with rfl|hp
    ·exact e
    ·exact anO rest _ h p hp
  ·rw[aE e]at h;exact absurd h e
theorem aex{r:ef}(h:iD r=0):ud r.dn=0:=by
 unfold iD at h;split at h
 ·assumption
 ·rename_i h2;exact absurd h h2
theorem acf{l:List dG}(h:ud l=0):∀p∈l,oK p=0:=by
 unfold ud at h;by_cases e:60<l.length
 ·rw[aG e]at h;simp at h
 ·rw[aE e]at h;exact anO l [] h
theorem SM{r:ef}(h:iD r=0)(nm:ByteArray):(gG nm r.dn).1.params.length<=40:=by
 rw[LI];cases hf:r.dn.find? (λx:dG=>decide (x.name=nm))with
 |none=>exact ve _
 |some p=>exact ann (acf (aex h) p (List.mem_of_find?_eq_some hf))
theorem Ls{r:ef}(h:iD r=0):∀(l:List fS),(l.flatMap (nY r.dn)).length<=l.length*40
 |[]=>by simp
 |u::l=>by
  have h1:=SM h u.iq;have h2:=Ls h l;rw[apc,p5,n9,Nat.succ_mul];have h3:(nY r.dn u).length=(gG u.iq r.dn).1.params.length:=by simp [nY]
  omega
theorem agu(l:List au)(n:Int):V3 (.t [(.s 2),.k]) (.az [if l=[]then .aD else sl 2 cB l,.ah n])=.az [sl 2 cB l,.ah n]:=by show l6 [V3 (.s 2) (if l=[]then .aD else sl 2 cB l),.ah n]=_;rw[agw]
theorem SP{r:ef}(h:iD r=0):r.ji.length<=400:=by
 unfold iD at h;split at h
 ·split at h
  ·cases h
  ·omega
 ·rename_i h2;exact absurd h h2
theorem UH(r:ef)(hok:pQ r)(σ:Heap):Gx [.agg (cR r)] σ=δ (.az [sl 2 cB (if iD r=0 then oc r else[]),.ah (iD r)],σ):=by
 by_cases hf:iD r=0
 ·refine wrap_eq rfl (v:=.az [if oc r=[]then .aD else sl 2 cB (oc r),.ah 0]) ?_ (by rw[aG hf,hf];exact agu _ _);show Cw (.agg (cR r)) σ=_;unfold Cw;have hu:=SP hf;have OR:=hok.1.2;simp only[aQ,reduceCtorEq,sZ,tc,tu,th,tv,Lv r hok,hf]
  refine(qE (S:=Unit) (R:=Unit) r.ji (λpre u _=>(Rd.go ():Rd Unit Unit))
   (λpre _=>[.lbx (cR r),gn σ.length 2 (pre.flatMap (nY r.dn)),.ah (pre.length:Int)]) (λpre _=>σ++gO 2 cB (pre.flatMap (nY r.dn)))
   (λ_=>(.exit 0,[.lbx (cR r),gn σ.length 2 (oc r),.ah (r.ji.length:Int)],σ++gO 2 cB (oc r))) (λpre _ _=>(.ret,[],σ))
   (λ_ _=>True) () (λ_=>δ (l6 [if oc r=[]then .aD else sl 2 cB (oc r),.ah 0],σ)) (λ_=>μ) ?_ ?_ trivial (λ_ _ _ _ _ _ _ _=>trivial) ?_ ?_ (eI:=by simp [MF])).trans (IA _ _ _ _)
  ·intro pre u rest s hl _;have hx:=qH hl;have hlt:=tG hl;have hi1:ξ.wrap ((pre.length:Int)+1)=(pre.length:Int)+1:=dh (by unfold aR;omega);have hlt':(pre.length:Int)<(r.ji.length:Int):=by omega
   have qP:=oJ 4 gH r.ji hx;have Jo:=SN r.dn hok.1.1 u.iq;have hps:=SM hf u.iq;have hkl:=Ls hf pre;have hsn:(pre++[u]).flatMap (nY r.dn)=pre.flatMap (nY r.dn)++nY r.dn u:=by simp
   have amo:pre.length<=399:=by omega
   generalize hK:pre.flatMap (nY r.dn)=K at *
   generalize hq:(gG u.iq r.dn).1=p at *
   simp only[aQ,reduceCtorEq,mK,mL,mM,mN,mP,mO,mQ,sZ,tc,tu,th,tv,hlt',qP,Jo,hq,nR,nS,nT,nV,nU,nW]
   refine(qE (S:=Unit) (R:=Unit) p.params (λpre u _=>(Rd.go ():Rd Unit Unit))
    (λsL _=>[.lbx (cR r),gn σ.length 2 (K++sL.map λx=>(⟨u.aY,x.name⟩:au)),.lbx (gH u),.ah (sL.length:Int)]) (λsL _=>σ++gO 2 cB (K++sL.map λx=>(⟨u.aY,x.name⟩:au)))
    (λ_=>(.exit 2,[.lbx (cR r),gn σ.length 2 (K++nY r.dn u),.lbx (gH u),.ah (p.params.length:Int)],σ++gO 2 cB (K++nY r.dn u))) (λpre _ _=>(.ret,[],σ))
    (λ_ _=>True) () (λ_=>δ (.normal,[.lbx (cR r),gn σ.length 2 (K++nY r.dn u),.ah ((pre.length:Int)+1)],σ++gO 2 cB (K++nY r.dn u))) (λ_=>μ) ?_ ?_ trivial (λ_ _ _ _ _ _ _ _=>trivial) ?_ ?_ (hv:=by simp) (eI:=by simp)).trans ((IA _ _ _ _).trans ?_)
   ·intro sL x rest' s hl' _;have gx:=qH hl';have glt:=tG hl';have YD:ξ.wrap ((sL.length:Int)+1)=(sL.length:Int)+1:=dh (by unfold aR;omega);have ajf:(sL.length:Int)<(p.params.length:Int):=by omega
    have gia:=oJ 7 jf p.params gx
    have hap:=L2 (most:=140737488355328 / 24) (sz:=2) cB (K++sL.map λx=>(⟨u.aY,x.name⟩:au)) ⟨u.aY,x.name⟩ σ (by
     rw[p5,XZ]
     omega)
    have ajx:(K++(sL++[x]).map λx=>(⟨u.aY,x.name⟩:au))=(K++sL.map λx=>(⟨u.aY,x.name⟩:au))++[⟨u.aY,x.name⟩]:=by simp
    clear hl gx glt hx hlt hkl hl';rw[ajx];have hch:U.sl 2 (iO 2 1 [η u.aY,ψ x.name])=.sl 2 [cB ⟨u.aY,x.name⟩]:=rfl;simp only[aQ,reduceCtorEq,LA,LB,LC,LD,LF,LG,LH,Mk,Mb,Mo,mK,mL,mM,mN,mP,mO,mQ,ajf,gia,YD];show(SI 2 _ _ (U.sl 2 [cB ⟨u.aY,x.name⟩]) _).bind _=_;rw[hap];simp only[aQ,reduceCtorEq,YD]
   ·intro s _;refine(Be _ _ _).trans ?_;subst hq;rfl
   ·intro s _;simp only[aQ,reduceCtorEq,hi1]
   ·intros;rename_i hb;cases hb
   ·rw[hsn]
  ·intro s _;exact Be _ _ _
  ·intro s _;simp only[aQ,reduceCtorEq,ad3 U3]
  ·intros;rename_i hb;cases hb
 ·refine wrap_eq rfl (v:=.az [.aD,.ah (iD r)]) ?_ (by rw[aE hf];rfl);show Cw (.agg (cR r)) σ=_;unfold Cw;simp only[aQ,reduceCtorEq,sZ,tc,tu,th,tv,Lv r hok,hf]
theorem Sq(n:Int)(σ:Heap):Gz [.ah n] σ=δ (.bool (aT n 0 65535),σ):=by refine wrap_eq rfl ?_ rfl;show KL (.ah n) σ=_;unfold KL;simp only[aQ,reduceCtorEq,jB]
def tC(s:ByteArray):Bool:=if s=⟨#[]⟩then ι else BB s
theorem adN(s:ByteArray)(hs:gb s)(σ:Heap):K7 [.str s] σ=δ (.bool (tC s),σ):=by
 refine wrap_eq rfl ?_ rfl;show Lg (.str s) σ=_;unfold Lg tC;by_cases h:s=⟨#[]⟩
 ·simp only[aQ,reduceCtorEq,h]
 ·simp only[aQ,reduceCtorEq,h,TQ s hs]
def Wo:iu:=⟨⟨#[]⟩,0,0,0,0,ε,[]⟩
def Nu(p:dG)(nm:ByteArray):iu×Bool:=(p.params.find? λx=>decide (x.name=nm)).elim (Wo,ε) λx=>(x,ι)
def Vp(r:ef)(k:au):iu×Bool:=(r.ji.find? λu=>decide (u.aY=k.unit)).elim (Wo,ε) λu=>Nu (gG u.iq r.dn).1 k.param
end
end Go.Proofs.YtngdngjbofohaaaGreatDoor
