/- Parts of the proof of StampEventTextsComeBack, in order. -/
import Derived.IntWalk
import Derived.Test.YtpcafbmnjchmcaaGreatDoorShelf
import Derived.WalkSpells
import Derived.ProofKit
import Derived.OpenShut
import Derived.Deep.QuietTactic
import Derived.BigQuiet
import Derived.Lib.Hide
import Derived.Deep.RegionHeld3
import Derived.Test.YtpcafbmnjchmcaaGreatDoorTrim
import Derived.Lib.SmallJoins
import Derived.Lib.SplitLaws
import Derived.Lib.Builder
import Derived.Lib.AppendStr
import Derived.Lib.UnsafeStr
import Derived.Lib.OthersKept
import Derived.Lib.OwnKind
import Derived.Laws.Externs
import Derived.Shelf.Strings.Builder1
import Derived.StillTail
import Derived.Lib.QuietBelow
import Derived.Test.YtpcafbmnjchmcaaGreatDoorKStampEventTextsComeBack2
namespace Go.Proofs.YtpcafbmnjchmcaaGreatDoor
set_option linter.unusedVariables false
set_option linter.unusedSimpArgs false
set_option linter.unusedSectionVars false
set_option maxRecDepth 1000000
noncomputable section
open A renaming pick->i6,bX->XI,deref->l6,neq->XQ,dR->YF,nn->Ya,add->u0,eql->p5,dZ->Zw,tab->Y1,sub->Yj,gtr->XW,fin->Ξ,look->Yg,upd->alp,aU->ZY,guard->ι,eo->Zs,own->akY,cond->φ,ay->Ψ,iter->XB,bound->Xw,cell->Yh,mul->akW,quiet->p6,cu->Z0,entries->alB,cells->j0,append->Z9,lb->W9,eD->XC,aM->w8,loop->WY,wrap->ir,find->YB,storeAt->akO,ext->p4,dO->XL,bO->Xz,elems->ak8,lss->Y3,not->HH,cG->Yi
open fc renaming of->akS
open Nat renaming sub_self->alV,zero_add->Zm
open List renaming mem_map_of_mem->ak3,getElem?_drop->W5,getElem?_cons_zero->Z3,length_range'->Zf,getElem_range'->alc,all_reverse->alv,getElem?_take->alg,range'_succ->alK,getD->ZC,map_congr_left->Zh,length_nil->AV,range'->YT,length_cons->l8,nil_append->Yd,getD_eq_getElem?_getD->Zc,find?_cons->al7,findIdx?_cons->alj,length_append->W0,mem_singleton->alT,all_cons->Z4,getElem?_cons_succ->amk,getElem?_take_of_lt->ZU,append_nil->WQ,replicate->w4,any_eq_true->WJ,length_map->Yo,find?->WX,nodup_cons->alo
open Go.Lib renaming hid->ZL,trimS->amj,strCells->W7,OthersKept->ak1,cell_of_heap->Yb,BuilderAt->Z8,compareBytes->ZM,IsBuilder->Xx,decNat->alX
open AX renaming ret->i7,normal->wh,exit->eN
open List.cons renaming injEq->ZX
open Bool renaming false_and->YU,not_true->n8,eq_false_or_eq_true->ame,false_or->WS,not_eq_true'->p9,not_eq_false->YX,false_eq_true->Φ,not_false->ZQ,false->ξ,true->θ,true_and->Zr,or_false->Xm,and_false->Y4
open aF renaming mono->ZD
open U renaming str->Γ,int->Zx,az->p7,bool->ψ,agg->n9,ah->η,lbx->XK,rp->YH,bA->Yn
open aB renaming cons->Δ,nil->l9
open Option renaming getD_none->Xh,some->δ,none->μ,getD_some->y9
open Sound renaming uB->akT,none->Xr,wrap->XD
open bH renaming map->Z7
open mM renaming cons->ak4,nil->alw
open Go.Region renaming lexTailB->alL,lexHead->alZ,ready->XR,binds->Zl
open Int renaming toNat_natCast->Xk,ofNat_zero->al0,lt_irrefl->Yx
open Go.Oper renaming upon_value->al8
open Go.ByteArray renaming toList_eq->alb
open Go.IntKind renaming i64->ε
open Option.some renaming injEq->χ
open _root_.ByteArray renaming ext->Xo
open _root_.Array renaming replicate->WL,getElem?_eq_none->alk
open Go.Op renaming bytesLess->Y5
open IntKind renaming i64->ε
open Go.Result renaming andThen->alY
open aT renaming nth->XS
open UInt8 renaming ofNat->ak0
open Go.World renaming drewN->alE,cell?->ZV
open Go.Calls renaming regrown_of->alx
open Prod.mk renaming injEq->Θ
open Classical renaming choose_spec->Zt,choose->ak5
section
def Ka (a0:U) (σ:Heap):aC:=(p5 .i a0 (η 24)).bind λx1=>(φ x1 (δ ([x1],σ)) ((p5 .i a0 (η 25)).bind λx3=>(φ x3 (δ ([x3],σ)) ((p5 .i a0 (η 30)).bind λx5=>δ ([x5],σ))).bind λr4=>δ ([(ak r4.1 0)],r4.2))).bind λr2=>φ (ak r2.1 0) (Ξ σ (p7 [a0,(η 1),bC]) r2.2) ((p5 .i a0 (η 29)).bind λx6=>φ x6 (Ξ σ (p7 [(η 30000),(η 1001),bC]) r2.2) (Ξ σ (p7 [(η 0),(η 0),bw]) r2.2))
def J6:au->Heap->aC:=ir θ [] .k (YF Ka)
def Ky (a0:U) (σ:Heap):aC:=(J6 [a0] σ).bind λr1=>(p4 0 r1.1).bind λx2=>(p4 1 r1.1).bind λx3=>(p4 2 r1.1).bind λx4=>(HH x4).bind λx5=>(nh [x5,(η 16)] r1.2).bind λr6=>Ξ σ r6.1 r6.2
def yI:au->Heap->aC:=ir θ [] .k (YF Ky)
def KY (a0:U) (σ:Heap):aC:=(p5 .i a0 (η 29)).bind λx1=>φ x1 (Ξ σ (η 2589408) σ) ((akW (η 86400) a0).bind λx2=>Ξ σ x2 σ)
def FX:au->Heap->aC:=ir θ [] .k (YF KY)
def JW (a0 a1:U) (σ:Heap):aC:=(j0 5 a0).bind λc1=>(Ψ 4 c1).bind λx2=>(Z0 x2).bind λx3=>(WY (λv4 s5=>(Y3 (ak v4 2) x3).bind λx7=>φ x7 ((XI 3 x2 (ak v4 2)).bind λx8=>((l6 x8 s5).bind λc9=>ZY 0 3 c9).bind λaQ=>(j0 3 aQ).bind λiY=>(w8 0 iY [(η 0),(η 0),(η 0)]).bind λef=>((W9 (ak v4 0)).bind λ_=>δ (3)).bind λOJ=>((W9 (ak v4 0)).bind λoU=>Ψ OJ oU).bind λbS=>(Z0 bS).bind λbW=>(WY (λfP mU=>(Y3 (ak fP 3) bW).bind λcJ=>φ cJ ((XI 2 bS (ak fP 3)).bind λcK=>((l6 cK mU).bind λsQ=>ZY 0 2 sQ).bind λdU=>(j0 2 dU).bind λgd=>(w8 0 gd [(η 0),Yn]).bind λiE=>((W9 (ak fP 2)).bind λ_=>δ (0)).bind λp26=>((W9 (ak fP 2)).bind λsR=>Ψ p26 sR).bind λdL=>(p5 .i dL a1).bind λdz=>(ι dz θ (Ψ 0 iE) aq).bind λdh=>((W9 (ak fP 2)).bind λ_ => δ (1)).bind λp31 =>(ι dz θ ((W9 (ak fP 2)).bind λzD=>Ψ p31 zD) aq).bind λgQ=>(ι dz θ (p5 .i dh gQ) aq).bind λgm=>(i6 dz gm bw).bind λeR=>φ eR ((Ψ 1 iE).bind λgp=>δ (i7,[(ak fP 0),gp,(ak fP 2),(ak fP 3)],mU)) ((u0 (ak fP 3) (η 1)).bind λeu=>δ (wh,[(ak fP 0),(ak fP 1),(ak fP 2),eu],mU))) (δ (eN 2,[(ak fP 0),(ak fP 1),(ak fP 2),(ak fP 3)],mU))) [(ak v4 0),(ak v4 1),(XK ef),(η 0)] s5).bind λkS=>bif kS.1==eN 2 then((u0 (ak v4 2) (η 1)).bind λfY=>δ (wh,[(ak kS.2.1 0),(ak kS.2.1 1),fY],kS.2.2))else bif kS.1==i7 then(δ (i7,[(ak kS.2.1 0),(ak kS.2.1 1),(ak v4 2)],kS.2.2))else μ) (δ (eN 0,[(ak v4 0),(ak v4 1),(ak v4 2)],s5))) [(XK c1),Yn,(η 0)] σ).bind λqD=>bif qD.1==eN 0 then(Ξ σ Yn qD.2.2)else bif qD.1==i7 then(Ξ σ (ak qD.2.1 1) qD.2.2)else μ
def FI:au->Heap->aC:=ir θ [ru] (.e 11 BN) (Yi JW)
def IX (a0 a1:U) (σ:Heap):aC:=(j0 11 a0).bind λc1=>(Ψ 0 c1).bind λx2=>(A.gY 3 a1).bind λx3=>((l6 x3 σ).bind λc4=>Ψ 0 c4).bind λx5=>(p5 .i x2 x5).bind λx6=>Ξ σ x6 σ
def Cc:au->Heap->aC:=ir θ [(.a BN)] .k (Yi IX)
def Fp (a0 a1 a2:U) (σ:Heap):aC:=(j0 5 a0).bind λc1=>(ZY 0 5 c1).bind λx2=>(Ci [x2] σ).bind λr3=>(yI [a1] r3.2).bind λr4=>(Z0 a2).bind λx5=>(XW x5 (η 2000)).bind λx6=>(nh [x6,(η 2)] r4.2).bind λr7=>((((Yh r3.1).bind λv=>δ [v]).bind λc8=>(w8 0 c8 [(η 0),(η 0),(η 0)]).bind λc9=>((Yh r4.1).bind λv=>δ [v]).bind λfC=>(w8 1 fC c9).bind λiY=>((Yh r7.1).bind λv=>δ [v]).bind λef=>(w8 2 ef iY).bind λqu=>δ qu).bind λcs=>δ (U.sl 1 (lI 1 3 cs))).bind λbV=>(tK [bV] r7.2).bind λiR=>(XQ .i iR.1 (η 0)).bind λbW=>φ bW (Ξ σ iR.1 iR.2) ((Z0 a2).bind λcH=>(WY (λfk pU=>(Y3 (ak fk 2) cH).bind λcK=>φ cK ((XI 6 a2 (ak fk 2)).bind λcQ=>((l6 cQ pU).bind λjm=>ZY 0 6 jm).bind λcC=>(j0 6 cC).bind λiE=>(w8 0 iE [(η 0),(η 0),(η 0),(η 0),(η 0),(η 0)]).bind λkD=>(ZY 1 5 kD).bind λdV=>(j0 5 dV).bind λsS=>(akO (U.op pU.length 0) sS (pU++[bH.box [(η 0),(η 0),(η 0),(η 0),(η 0)]])).bind λff=>(Ψ 0 kD).bind λdh=>(p6 (FX [a1] ff) ff).bind λfX=>(Yj fX (η 1)).bind λgj=>(p6 (fQ [dh,(η 0),gj] ff) ff).bind λgQ=>(HH gQ).bind λgm=>(p6 (nh [gm,(η 1)] ff) ff).bind λeR=>(XW (ak fk 2) (η 0)).bind λgp=>(ι gp θ (Ψ 0 kD) aq).bind λeu=>(ι gp θ (δ a2) aq).bind λfq=>(ι gp θ (δ (ak fk 2)) aq).bind λfY=>(ι gp θ (Yj fY (η 1)) aq).bind λfJ=>(ι gp θ (XI 6 fq fJ) aq).bind λgq=>(ι gp θ (A.gY 0 gq) aq).bind λiG=>(ι gp θ ((l6 iG ff).bind λsU=>Ψ 0 sU) aq).bind λgD=>(ι gp θ (Y3 eu gD) aq).bind λfZ=>(i6 gp fZ bw).bind λow=>(p6 (nh [ow,(η 7)] ff) ff).bind λgE=>((((Yh eR).bind λv=>δ [v]).bind λzI=>(w8 0 zI [(η 0),(η 0)]).bind λD5=>((Yh gE).bind λv=>δ [v]).bind λD6=>(w8 1 D6 D5).bind λN3=>δ N3).bind λcs=>δ (U.sl 1 (lI 1 2 cs))).bind λgK=>(p6 (tK [gK] ff) ff).bind λlA=>((l6 (U.op pU.length 0) ff).bind λc54=>ZY 0 5 c54).bind λkI=>(p6 (Ft [kI] ff) ff).bind λjF=>(A.gY 0 (U.op pU.length 0)).bind λkT=>((l6 kT ff).bind λD8=>Ψ 0 D8).bind λkV=>(XQ .i kV (η 0)).bind λjG=>(p6 (nh [jG,(η 3)] ff) ff).bind λiS=>((W9 (ak fk 0)).bind λN8=>ZY 0 5 N8).bind λgS=>((l6 (U.op pU.length 0) ff).bind λzJ=>ZY 0 5 zJ).bind λtE=>(p6 (Fu [gS,tE] ff) ff).bind λje=>((((Yh lA).bind λv=>δ [v]).bind λzL=>(w8 0 zL [(η 0),(η 0),(η 0),(η 0)]).bind λEa=>((Yh jF).bind λv=>δ [v]).bind λEb=>(w8 1 Eb Ea).bind λzM=>((Yh iS).bind λv=>δ [v]).bind λpO=>(w8 2 pO zM).bind λc72=>((Yh je).bind λv=>δ [v]).bind λN9=>(w8 3 N9 c72).bind λIe=>δ Ie).bind λcs=>δ (U.sl 1 (lI 1 4 cs))).bind λkK=>(p6 (tK [kK] ff) ff).bind λrS=>(XQ .i rS (η 0)).bind λtG=>φ tG (δ (i7,[(ak fk 0),rS,(ak fk 2)],ff)) ((A.gY 1 (U.op pU.length 0)).bind λO2=>((l6 O2 ff).bind λOa=>Ψ 0 Oa).bind λE1=>(p5 .i E1 (η 3)).bind λpW=>(ι pW θ ((W9 (ak fk 0)).bind λOc=>ZY 0 5 Oc) aq).bind λE4=>(ι pW θ (A.gY 2 (U.op pU.length 0)) aq).bind λO3=>(ι pW θ ((l6 O3 ff).bind λEc=>Ψ 0 Ec) aq).bind λAn=>(ι pW θ (p6 (FI [E4,An] ff) ff) aq).bind λE5=>(ι pW θ (δ (U.fn 157 [(U.op pU.length 0)])) aq).bind λO4=>(ι pW θ (p6 (Fh (Y1 (λ_ _=>μ) [(157,Cc)]) [E5,O4] ff) ff) aq).bind λB8=>(ι pW θ (HH B8) aq).bind λO5=>(i6 pW O5 bw).bind λx91=>φ x91 (δ (i7,[(ak fk 0),(η 8),(ak fk 2)],ff)) ((u0 (ak fk 2) (η 1)).bind λO6=>δ (wh,[(ak fk 0),(ak fk 1),O6],ff)))) (δ (eN 0,[(ak fk 0),(ak fk 1),(ak fk 2)],pU))) [(XK c1),(η 0),(η 0)] iR.2).bind λEL=>bif EL.1==eN 0 then(Ξ σ (η 0) EL.2.2)else bif EL.1==i7 then(Ξ σ (ak EL.2.1 1) EL.2.2)else μ)
def As:au->Heap->aC:=ir θ [ru,.k,(.s 6)] .k (A.oS Fp)
def JN (a0:U) (σ:Heap):aC:=(p5 .i a0 (η 29)).bind λx1=>φ x1 (Ξ σ (η 30) σ) (Ξ σ a0 σ)
def Ck:au->Heap->aC:=ir θ [] .k (YF JN)
def JO (a0 a1:U) (σ:Heap):aC:=(p5 .i a0 (η 29)).bind λx1=>(φ x1 ((A.quo a1 (η 17982)).bind λx3=>(A.rem a1 (η 17982)).bind λx4=>(akW (η 18) x3).bind λx5=>(u0 a1 x5).bind λx6=>(A.geq x4 (η 1800)).bind λx7=>(φ x7 ((Yj x4 (η 1800)).bind λx9=>(A.quo x9 (η 1798)).bind λaQ=>(u0 (η 1) aQ).bind λaX=>(akW (η 2) aX).bind λbI=>(u0 x6 bI).bind λbJ=>δ ([bJ,(XK [(η 0),(η 0),(η 0),(η 0)])],σ)) (δ ([x6,(XK [(η 0),(η 0),(η 0),(η 0)])],σ))).bind λr8=>δ ([(ak r8.1 0),(ak r8.1 1)],r8.2)) (δ ([a1,(XK [(η 0),(η 0),(η 0),(η 0)])],σ))).bind λr2=>(Ck [a0] r2.2).bind λeJ=>(A.quo (ak r2.1 0) eJ.1).bind λbS=>(A.quo bS (η 3600)).bind λbW=>(A.quo bS (η 60)).bind λcH=>(A.rem cH (η 60)).bind λcm=>(A.rem bS (η 60)).bind λcI=>(A.rem (ak r2.1 0) eJ.1).bind λcJ=>((((Yh bW).bind λv=>δ [v]).bind λzB=>(w8 0 zB [(η 0),(η 0),(η 0),(η 0)]).bind λsQ=>((Yh cm).bind λv=>δ [v]).bind λjm=>(w8 1 jm sQ).bind λgd=>((Yh cI).bind λv=>δ [v]).bind λiE=>(w8 2 iE gd).bind λkD=>((Yh cJ).bind λv=>δ [v]).bind λsR=>(w8 3 sR kD).bind λsS=>δ sS).bind λcs=>δ (n9 cs)).bind λdz=>(W9 (ak r2.1 1)).bind λzD=>(j0 4 dz).bind λzC=>(w8 0 zC zD).bind λvY=>(ZY 0 4 vY).bind λgQ=>Ξ σ gQ eJ.2
def JI:au->Heap->aC:=ir θ [] .k (Yi JO)
def KZ (a0:U) (σ:Heap):aC:=(u0 (η 100) a0).bind λx1=>(pX [x1] σ).bind λr2=>(A.mE r2.1 (δ (η 1)) μ).bind λx3=>Ξ σ x3 r2.2
def AN:au->Heap->aC:=ir θ [] .k (YF KZ)
def Kx (a0:U) (σ:Heap):aC:=(p5 .i a0 (η 29)).bind λx1=>φ x1 (Ξ σ (Γ ⟨#[59]⟩) σ) (Ξ σ (Γ ⟨#[58]⟩) σ)
def FQ:au->Heap->aC:=ir θ [] .k (YF Kx)
def Kz (a0 a1:U) (σ:Heap):aC:=(j0 4 a1).bind λc1=>(Ψ 0 c1).bind λx2=>(p6 (AN [x2] σ) σ).bind λx3=>(u0 x3 (Γ ⟨#[58]⟩)).bind λx4=>(Ψ 1 c1).bind λx5=>(p6 (AN [x5] σ) σ).bind λx6=>(u0 x4 x6).bind λx7=>(u0 x7 (Γ ⟨#[58]⟩)).bind λx8=>(Ψ 2 c1).bind λx9=>(p6 (AN [x9] σ) σ).bind λaQ=>(u0 x8 aQ).bind λaX=>(p6 (FQ [a0] σ) σ).bind λbI=>(u0 aX bI).bind λbJ=>(Ψ 3 c1).bind λbV=>(p6 (AN [bV] σ) σ).bind λbS=>(u0 bJ bS).bind λbW=>Ξ σ bW σ
def Kn:au->Heap->aC:=ir θ [] .k (Yi Kz)
def Jq (a0:U) (σ:Heap):aC:=(p5 .i a0 (η 1)).bind λx1=>φ x1 (Ξ σ (Γ ⟨#[103,111]⟩) σ) ((p5 .i a0 (η 2)).bind λx2=>φ x2 (Ξ σ (Γ ⟨#[98,97,99,107]⟩) σ) ((p5 .i a0 (η 3)).bind λx3=>φ x3 (Ξ σ (Γ ⟨#[106,117,109,112]⟩) σ) ((p5 .i a0 (η 4)).bind λx4=>φ x4 (Ξ σ (Γ ⟨#[112,97,117,115,101]⟩) σ) ((p5 .i a0 (η 5)).bind λx5=>φ x5 (Ξ σ (Γ ⟨#[114,101,115,117,109,101]⟩) σ) ((p5 .i a0 (η 6)).bind λx6=>φ x6 (Ξ σ (Γ ⟨#[114,101,108,101,97,115,101]⟩) σ) (Ξ σ (Γ ⟨#[102,97,100,101,114]⟩) σ))))))
def Fv:au->Heap->aC:=ir θ [] .k (YF Jq)
def Jp (a0:U) (σ:Heap):aC:=(j0 5 a0).bind λc1=>(Ψ 4 c1).bind λx2=>(Kj [x2] σ).bind λr3=>(p4 0 r3.1).bind λx4=>(p4 1 r3.1).bind λx5=>(Ψ 1 c1).bind λx6=>(p5 .i x6 (η 8)).bind λx7=>φ x7 ((u0 (Γ ⟨#[103,114,97,110,100,32]⟩) x4).bind λx8=>Ξ σ x8 r3.2) ((Ψ 1 c1).bind λx9=>(p5 .i x9 (η 9)).bind λaQ=>(ι aQ θ (Ψ 4 c1) aq).bind λaX=>(ι aQ θ (p5 .i aX (η 1)) aq).bind λbI=>(i6 aQ bI bw).bind λbJ=>φ bJ (Ξ σ (Γ ⟨#[98,108,97,99,107]⟩) r3.2) ((Ψ 1 c1).bind λbV=>(p5 .i bV (η 9)).bind λbS=>φ bS (Ξ σ (Γ ⟨#[108,105,103,104,116]⟩) r3.2) ((Ψ 1 c1).bind λbW=>(p6 (Fv [bW] r3.2) r3.2).bind λcH=>(u0 cH (Γ ⟨#[32]⟩)).bind λcm=>(Ψ 2 c1).bind λcI=>(p6 (pX [cI] r3.2) r3.2).bind λcJ=>(u0 cm cJ).bind λcK=>(Ψ 1 c1).bind λcQ=>(p5 .i cQ (η 3)).bind λdU=>(φ dU ((Ψ 3 c1).bind λeX=>(Ju [eX] r3.2).bind λpR=>(u0 (Γ ⟨#[32]⟩) pR.1).bind λdV=>(u0 cK dV).bind λdL=>δ ([dL],pR.2)) ((p5 .i cQ (η 6)).bind λdz=>(φ dz ((Ψ 4 c1).bind λfX=>(Jz [fX] r3.2).bind λr32=>(p4 0 r32.1).bind λgQ=>(p4 1 r32.1).bind λgm=>(u0 (Γ ⟨#[32]⟩) gQ).bind λeR=>(u0 cK eR).bind λgp=>δ ([gp],r32.2)) ((p5 .i cQ (η 7)).bind λeu=>(φ eu ((u0 (Γ ⟨#[32]⟩) x4).bind λfY=>(u0 cK fY).bind λfJ=>δ ([fJ],r3.2)) (δ ([cK],r3.2))).bind λkS=>δ ([(ak kS.1 0)],kS.2))).bind λrF=>δ ([(ak rF.1 0)],rF.2))).bind λEF=>Ξ σ (ak EF.1 0) EF.2)))
def Jj:au->Heap->aC:=ir θ [] .k (YF Jp)
def J9 (a0 a1:U) (σ:Heap):aC:=(j0 4 a1).bind λc1=>(yI [a0] σ).bind λr2=>(XQ .i r2.1 (η 0)).bind λx3=>φ x3 (Ξ σ r2.1 r2.2) ((Ψ 0 c1).bind λx4=>(p6 (fQ [x4,(η 0),(η 23)] r2.2) r2.2).bind λx5=>(HH x5).bind λx6=>(ι x6 ξ (Ψ 1 c1) aq).bind λx7=>(ι x6 ξ (p6 (fQ [x7,(η 0),(η 59)] r2.2) r2.2) aq).bind λx8=>(ι x6 ξ (HH x8) aq).bind λx9=>(i6 x6 bC x9).bind λaQ=>(ι aQ ξ (Ψ 2 c1) aq).bind λaX=>(ι aQ ξ (p6 (fQ [aX,(η 0),(η 59)] r2.2) r2.2) aq).bind λbI=>(ι aQ ξ (HH bI) aq).bind λbJ=>(i6 aQ bC bJ).bind λbV=>(ι bV ξ (Ψ 3 c1) aq).bind λbS=>(ι bV ξ (δ a0) aq).bind λbW=>(ι bV ξ (p6 (Ck [bW] r2.2) r2.2) aq).bind λcH=>(ι bV ξ (Yj cH (η 1)) aq).bind λcm=>(ι bV ξ (p6 (fQ [bS,(η 0),cm] r2.2) r2.2) aq).bind λcI=>(ι bV ξ (HH cI) aq).bind λcJ=>(i6 bV bC cJ).bind λcK=>φ cK (Ξ σ (η 1) r2.2) ((p5 .i a0 (η 29)).bind λcQ=>(ι cQ θ (Ψ 3 c1) aq).bind λdU=>(ι cQ θ (Y3 dU (η 2)) aq).bind λcC=>(i6 cQ cC bw).bind λeX=>(ι eX θ (Ψ 2 c1) aq).bind λeY=>(ι eX θ (p5 .i eY (η 0)) aq).bind λdV=>(i6 eX dV bw).bind λdL=>(ι dL θ (Ψ 1 c1) aq).bind λdz=>(ι dL θ (A.rem dz (η 10)) aq).bind λdh=>(ι dL θ (XW dh (η 0)) aq).bind λfX=>(i6 dL fX bw).bind λgj=>(nh [gj,(η 8)] r2.2).bind λiw=>Ξ σ iw.1 iw.2))
def J5:au->Heap->aC:=ir θ [] .k (Yi J9)
def Kw (a0 a1:U) (σ:Heap):aC:=(yI [a0] σ).bind λr1=>(XQ .i r1.1 (η 0)).bind λx2=>φ x2 ((j0 4 (n9 [(η 0),(η 0),(η 0),(η 0)])).bind λc3=>(w8 0 c3 [(η 0),(η 0),(η 0),(η 0)]).bind λc4=>(ZY 0 4 c4).bind λx5=>Ξ σ (p7 [x5,r1.1]) r1.2) ((A.hU a1).bind λx6=>(XQ .i x6 (η 11)).bind λx7=>(ι x7 ξ (δ a1) aq).bind λx8=>(ι x7 ξ (A.jk x8 (η 2)) aq).bind λx9=>(ι x7 ξ (XQ .i x9 (Zx .u8 58)) aq).bind λaQ=>(i6 x7 bC aQ).bind λaX=>(ι aX ξ (δ a1) aq).bind λbI=>(ι aX ξ (A.jk bI (η 5)) aq).bind λbJ=>(ι aX ξ (XQ .i bJ (Zx .u8 58)) aq).bind λbV=>(i6 aX bC bV).bind λbS=>(ι bS ξ (δ a1) aq).bind λbW=>(ι bS ξ (A.mE bW (δ (η 8)) (δ (η 9))) aq).bind λcH=>(ι bS ξ (δ a0) aq).bind λcm=>(ι bS ξ (p6 (FQ [cm] r1.2) r1.2) aq).bind λcI=>(ι bS ξ (XQ .z cH cI) aq).bind λcJ=>(i6 bS bC cJ).bind λcK=>φ cK ((j0 4 (n9 [(η 0),(η 0),(η 0),(η 0)])).bind λsQ=>(w8 0 sQ [(η 0),(η 0),(η 0),(η 0)]).bind λjm=>(ZY 0 4 jm).bind λcC=>Ξ σ (p7 [cC,(η 9)]) r1.2) ((WY (λou Ac=>(Y3 (ak ou 3) (η 4)).bind λdL=>φ dL ((akW (η 3) (ak ou 3)).bind λdz=>(akW (η 3) (ak ou 3)).bind λdh=>(u0 dh (η 2)).bind λfX=>(A.mE a1 (δ dz) (δ fX)).bind λgj=>(yG [gj] Ac).bind λiw=>(HH iw.1).bind λgm=>φ gm ((W9 (ak ou 0)).bind λzE=>(j0 4 (n9 [(η 0),(η 0),(η 0),(η 0)])).bind λqv=>(w8 0 qv zE).bind λqw=>δ (i7,[(XK qw),(η 9),(ak ou 2),(ak ou 3)],iw.2)) ((A.jk gj (η 0)).bind λfq=>(Yj fq (Zx .u8 48)).bind λfY=>(A.conv ε fY).bind λfJ=>(akW (η 10) fJ).bind λgq=>(A.jk gj (η 1)).bind λiG=>(Yj iG (Zx .u8 48)).bind λjW=>(A.conv ε jW).bind λgD=>(u0 gq gD).bind λfZ=>((W9 (ak ou 2)).bind λ_=>(A.idx 4 (ak ou 3)).bind λj=>δ (0+j*1)).bind λOL=>(W9 (ak ou 2)).bind λD5=>((Yh fZ).bind λv=>δ [v]).bind λsV=>(w8 OL sV D5).bind λzI=>(u0 (ak ou 3) (η 1)).bind λkH=>δ (wh,[(ak ou 0),(ak ou 1),(XK zI),kH],iw.2))) (δ (eN 0,[(ak ou 0),(ak ou 1),(ak ou 2),(ak ou 3)],Ac))) [(XK [(η 0),(η 0),(η 0),(η 0)]),(η 0),(XK [(η 0),(η 0),(η 0),(η 0)]),(η 0)] r1.2).bind λoo=>bif oo.1==eN 0 then(((W9 (ak oo.2.1 2)).bind λ_=>(A.idx 4 (η 0)).bind λj=>δ (0+j*1)).bind λp52=>((W9 (ak oo.2.1 2)).bind λN4=>Ψ p52 N4).bind λjX=>((W9 (ak oo.2.1 2)).bind λ_=>(A.idx 4 (η 1)).bind λj=>δ (0+j*1)).bind λp55=>((W9 (ak oo.2.1 2)).bind λD7=>Ψ p55 D7).bind λkT=>((W9 (ak oo.2.1 2)).bind λ_=>(A.idx 4 (η 2)).bind λj=>δ (0+j*1)).bind λp58=>((W9 (ak oo.2.1 2)).bind λN6=>Ψ p58 N6).bind λjG=>((W9 (ak oo.2.1 2)).bind λ_=>(A.idx 4 (η 3)).bind λj=>δ (0+j*1)).bind λp61=>((W9 (ak oo.2.1 2)).bind λN8=>Ψ p61 N8).bind λgS=>((((Yh jX).bind λv=>δ [v]).bind λzJ=>(w8 0 zJ [(η 0),(η 0),(η 0),(η 0)]).bind λzK=>((Yh kT).bind λv=>δ [v]).bind λD9=>(w8 1 D9 zK).bind λzL=>((Yh jG).bind λv=>δ [v]).bind λEa=>(w8 2 Ea zL).bind λEb=>((Yh gS).bind λv=>δ [v]).bind λzM=>(w8 3 zM Eb).bind λpO=>δ pO).bind λcs=>δ (n9 cs)).bind λtF=>(j0 4 tF).bind λN9=>(w8 0 N9 [(η 0),(η 0),(η 0),(η 0)]).bind λIe=>(ZY 0 4 Ie).bind λkK=>(J5 [a0,kK] oo.2.2).bind λIy=>(XQ .i Iy.1 (η 0)).bind λtG=>φ tG ((W9 (ak oo.2.1 0)).bind λOb=>(j0 4 (n9 [(η 0),(η 0),(η 0),(η 0)])).bind λzN=>(w8 0 zN Ob).bind λOa=>(ZY 0 4 Oa).bind λpW=>Ξ σ (p7 [pW,Iy.1]) Iy.2) ((ZY 0 4 Ie).bind λE3=>(W9 (ak oo.2.1 0)).bind λEc=>(j0 4 E3).bind λc83=>(w8 0 c83 Ec).bind λOd=>(ZY 0 4 Od).bind λAn=>Ξ σ (p7 [An,(η 0)]) Iy.2))else bif oo.1==i7 then(((W9 (ak oo.2.1 0)).bind λOe=>ZY 0 4 Oe).bind λE5=>Ξ σ (p7 [E5,(ak oo.2.1 1)]) oo.2.2)else μ))
def Km:au->Heap->aC:=ir θ [] .k (Yi Kw)
def Jr (a0:U) (σ:Heap):aC:=(Z0 a0).bind λx1=>(p5 .i x1 (η 1)).bind λx2=>(ι x2 θ (δ a0) aq).bind λx3=>(ι x2 θ (XI 1 x3 (η 0)) aq).bind λx4=>(ι x2 θ ((l6 x4 σ).bind λc5=>Ψ 0 c5) aq).bind λx6=>(ι x2 θ (p5 .z x6 (Γ ⟨#[98,108,97,99,107]⟩)) aq).bind λx7=>(ι x2 θ (δ x7) aq).bind λx8=>(ι x8 ξ (δ a0) aq).bind λx9=>(ι x8 ξ (XI 1 x9 (η 0)) aq).bind λaQ=>(ι x8 ξ ((l6 aQ σ).bind λiY=>Ψ 0 iY) aq).bind λbI=>(ι x8 ξ (p5 .z bI (Γ ⟨#[108,105,103,104,116]⟩)) aq).bind λbJ=>(ι x2 θ (i6 x8 bC bJ) aq).bind λbV=>(i6 x2 bV bw).bind λbS=>φ bS (((Yh (η 9)).bind λv=>δ [v]).bind λsP=>(w8 1 sP [(η 0),(η 0),(η 0),(η 0),(η 0)]).bind λkR=>(XI 1 a0 (η 0)).bind λcm=>((l6 cm σ).bind λoV=>Ψ 0 oV).bind λcJ=>(p5 .z cJ (Γ ⟨#[98,108,97,99,107]⟩)).bind λcK=>(φ cK (((Yh (η 1)).bind λv=>δ [v]).bind λjm=>(w8 4 jm kR).bind λgd=>δ ([(XK [(η 0),(η 0),(η 0),(η 0),(η 0)]),(XK gd)],σ)) (δ ([(XK [(η 0),(η 0),(η 0),(η 0),(η 0)]),(XK kR)],σ))).bind λqB=>((W9 (ak qB.1 1)).bind λiE=>ZY 0 5 iE).bind λeY=>(W9 (ak qB.1 0)).bind λff=>(j0 5 eY).bind λsR=>(w8 0 sR ff).bind λsS=>(ZY 0 5 sS).bind λdh=>Ξ σ (p7 [dh,bC]) qB.2) ((Z0 a0).bind λfX=>(p5 .i fX (η 2)).bind λgj=>(ι gj θ (δ a0) aq).bind λgQ=>(ι gj θ (XI 1 gQ (η 0)) aq).bind λgm=>(ι gj θ ((l6 gm σ).bind λqv=>Ψ 0 qv) aq).bind λgp=>(ι gj θ (p5 .z gp (Γ ⟨#[103,114,97,110,100]⟩)) aq).bind λeu=>(i6 gj eu bw).bind λfq=>φ fq ((XI 1 a0 (η 1)).bind λfY=>((l6 fY σ).bind λxX=>Ψ 0 xX).bind λgq=>(FP [gq] σ).bind λzZ=>(p4 0 zZ.1).bind λjW=>(p4 1 zZ.1).bind λgD=>((((Yh (η 8)).bind λv=>δ [v]).bind λzG=>(w8 1 zG [(η 0),(η 0),(η 0),(η 0),(η 0)]).bind λzH=>((Yh jW).bind λv=>δ [v]).bind λsV=>(w8 4 sV zH).bind λzI=>δ zI).bind λcs=>δ (n9 cs)).bind λjE=>(p5 .i gD (η 0)).bind λkH=>(j0 5 jE).bind λN3=>(w8 0 N3 [(η 0),(η 0),(η 0),(η 0),(η 0)]).bind λc52=>(ZY 0 5 c52).bind λlA=>Ξ σ (p7 [lA,kH]) zZ.2) ((WY (λrO B6=>(A.leq (ak rO 2) (η 7)).bind λkT=>φ kT ((p6 (Fv [(ak rO 2)] B6) B6).bind λkU=>(XI 1 a0 (η 0)).bind λkV=>((l6 kV B6).bind λN7=>Ψ 0 N7).bind λiS=>(p5 .z kU iS).bind λkJ=>(φ kJ (((W9 (ak rO 1)).bind λ_=>δ (1)).bind λOM=>(W9 (ak rO 1)).bind λzL=>((Yh (ak rO 2)).bind λv=>δ [v]).bind λzK=>(w8 OM zK zL).bind λD9=>δ ([(ak rO 0),(XK D9)],B6)) (δ ([(ak rO 0),(ak rO 1)],B6))).bind λwL=>(u0 (ak rO 2) (η 1)).bind λqM=>δ (wh,[(ak wL.1 0),(ak wL.1 1),qM],wL.2)) (δ (eN 0,[(ak rO 0),(ak rO 1),(ak rO 2)],B6))) [(XK [(η 0),(η 0),(η 0),(η 0),(η 0)]),(XK [(η 0),(η 0),(η 0),(η 0),(η 0)]),(η 1)] σ).bind λoY=>bif oY.1==eN 0 then(((W9 (ak oY.2.1 1)).bind λ_=>δ (1)).bind λp70=>((W9 (ak oY.2.1 1)).bind λpO=>Ψ p70 pO).bind λtF=>(p5 .i tF (η 0)).bind λrR=>(ι rR ξ (δ a0) aq).bind λAl=>(ι rR ξ (Z0 Al) aq).bind λkK=>(ι rR ξ (Y3 kK (η 2)) aq).bind λrS=>(i6 rR bC rS).bind λtG=>φ tG (((W9 (ak oY.2.1 1)).bind λzN=>ZY 0 5 zN).bind λAm=>(W9 (ak oY.2.1 0)).bind λOc=>(j0 5 Am).bind λOb=>(w8 0 Ob Oc).bind λc81=>(ZY 0 5 c81).bind λE4=>Ξ σ (p7 [E4,bw]) oY.2.2) ((XI 1 a0 (η 1)).bind λO3=>((l6 O3 oY.2.2).bind λEc=>Ψ 0 Ec).bind λAn=>(Cq [An] oY.2.2).bind λuN=>(p4 0 uN.1).bind λO4=>(p4 1 uN.1).bind λB8=>((W9 (ak oY.2.1 1)).bind λ_=>δ (2)).bind λp90=>(W9 (ak oY.2.1 1)).bind λc93=>((Yh O4).bind λv=>δ [v]).bind λc91=>(w8 p90 c91 c93).bind λvZ=>(Ψ 1 vZ).bind λx94=>(p5 .i x94 (η 3)).bind λO7=>(ι O7 ξ (Ψ 1 vZ) aq).bind λO8=>(ι O7 ξ (p5 .i O8 (η 6)) aq).bind λO9=>(i6 O7 bC O9).bind λPa=>(ι Pa ξ (Ψ 1 vZ) aq).bind λPb=>(ι Pa ξ (p5 .i Pb (η 7)) aq).bind λNW=>(i6 Pa bC NW).bind λDW=>(HH B8).bind λxW=>(ι xW ξ (δ DW) aq).bind λVD=>(ι xW ξ (HH VD) aq).bind λVE=>(ι xW ξ (δ VE) aq).bind λDX=>(ι DX θ (δ a0) aq).bind λVF=>(ι DX θ (Z0 VF) aq).bind λahC=>(ι DX θ (XQ .i ahC (η 2)) aq).bind λahD=>(ι xW ξ (i6 DX ahD bw) aq).bind λahE=>(i6 xW bC ahE).bind λH8=>(ι H8 ξ (δ DW) aq).bind λahF=>(ι H8 ξ (δ ahF) aq).bind λH9=>(ι H9 θ (δ a0) aq).bind λahG=>(ι H9 θ (Z0 ahG) aq).bind λahH=>(ι H9 θ (XQ .i ahH (η 3)) aq).bind λahI=>(ι H8 ξ (i6 H9 ahI bw) aq).bind λahJ=>(i6 H8 bC ahJ).bind λahK=>φ ahK ((ZY 0 5 vZ).bind λahL=>(W9 (ak oY.2.1 0)).bind λagF=>(j0 5 ahL).bind λagD=>(w8 0 agD agF).bind λagE=>(ZY 0 5 agE).bind λahM=>Ξ σ (p7 [ahM,bw]) uN.2) ((Ψ 1 vZ).bind λNX=>(p5 .i NX (η 3)).bind λahN=>(φ ahN ((XI 1 a0 (η 2)).bind λahO=>((l6 ahO uN.2).bind λagG=>Ψ 0 agG).bind λahP=>(Jv [ahP] uN.2).bind λNP=>(p4 0 NP.1).bind λahQ=>(p4 1 NP.1).bind λahR=>((Yh ahQ).bind λv=>δ [v]).bind λagH=>(w8 3 agH vZ).bind λagI=>δ ([(ak oY.2.1 0),(XK agI),ahR,(η 0)],NP.2)) ((p5 .i NX (η 6)).bind λahS=>(φ ahS ((XI 1 a0 (η 2)).bind λahT=>((l6 ahT uN.2).bind λagJ=>Ψ 0 agJ).bind λahU=>(Jy [ahU] uN.2).bind λNQ=>(p4 0 NQ.1).bind λahV=>(p4 1 NQ.1).bind λahW=>((Yh ahV).bind λv=>δ [v]).bind λagK=>(w8 4 agK vZ).bind λagL=>δ ([(ak oY.2.1 0),(XK agL),ahW],NQ.2)) ((p5 .i NX (η 7)).bind λahX=>(φ ahX ((XI 1 a0 (η 2)).bind λahY=>((l6 ahY uN.2).bind λagM=>Ψ 0 agM).bind λahZ=>(FP [ahZ] uN.2).bind λNR=>(p4 0 NR.1).bind λah0=>(p4 1 NR.1).bind λah1=>((Yh ah0).bind λv=>δ [v]).bind λagN=>(w8 4 agN vZ).bind λagO=>δ ([(ak oY.2.1 0),(XK agO),ah1],NR.2)) (δ ([(ak oY.2.1 0),(XK vZ),(η 0)],uN.2))).bind λH6=>δ ([(ak H6.1 0),(ak H6.1 1),(ak H6.1 2)],H6.2))).bind λHZ=>δ ([(ak HZ.1 0),(ak HZ.1 1),B8,(ak HZ.1 2)],HZ.2))).bind λzo=>((W9 (ak zo.1 1)).bind λagP=>ZY 0 5 agP).bind λah2=>(ι (ak zo.1 2) θ (δ (ak zo.1 3)) aq).bind λah3=>(ι (ak zo.1 2) θ (p5 .i ah3 (η 0)) aq).bind λah4=>(i6 (ak zo.1 2) ah4 bw).bind λah5=>(W9 (ak zo.1 0)).bind λagS=>(j0 5 ah2).bind λagQ=>(w8 0 agQ agS).bind λagR=>(ZY 0 5 agR).bind λah6=>Ξ σ (p7 [ah6,ah5]) zo.2)))else μ))
def Jk:au->Heap->aC:=ir θ [(.s 1)] .k (YF Jr)
def JX (a0 a1:U) (σ:Heap):aC:=(j0 4 a1).bind λc1=>(Ψ 0 c1).bind λx2=>(akW x2 (η 60)).bind λx3=>(Ψ 1 c1).bind λx4=>(u0 x3 x4).bind λx5=>(akW x5 (η 60)).bind λx6=>(Ψ 2 c1).bind λx7=>(u0 x6 x7).bind λx8=>(p6 (Ck [a0] σ) σ).bind λx9=>(akW x8 x9).bind λaQ=>(Ψ 3 c1).bind λaX=>(u0 aQ aX).bind λbI=>(p5 .i a0 (η 29)).bind λbJ=>(φ bJ ((A.quo x5 (η 10)).bind λbS=>(Yj x5 bS).bind λbW=>(akW (η 2) bW).bind λcH=>(Yj bI cH).bind λcm=>δ ([cm],σ)) (δ ([bI],σ))).bind λeJ=>Ξ σ (ak eJ.1 0) eJ.2
def JT:au->Heap->aC:=ir θ [] .k (Yi JX)
def Jo (a0 a1 a2:U) (σ:Heap):aC:=(j0 5 a0).bind λc1=>(ZY 0 5 c1).bind λx2=>(Ci [x2] σ).bind λr3=>(yI [a1] r3.2).bind λr4=>(A.hU a2).bind λx5=>(XW x5 (η 600000)).bind λx6=>(nh [x6,(η 2)] r4.2).bind λr7=>((((Yh r3.1).bind λv=>δ [v]).bind λc8=>(w8 0 c8 [(η 0),(η 0),(η 0)]).bind λc9=>((Yh r4.1).bind λv=>δ [v]).bind λfC=>(w8 1 fC c9).bind λiY=>((Yh r7.1).bind λv=>δ [v]).bind λef=>(w8 2 ef iY).bind λqu=>δ qu).bind λcs=>δ (U.sl 1 (lI 1 3 cs))).bind λbV=>(tK [bV] r7.2).bind λiR=>(XQ .i iR.1 (η 0)).bind λbW=>φ bW (Ξ σ (p7 [Yn,(η 0),iR.1]) iR.2) ((Kp [a2] iR.2).bind λjD=>(p4 0 jD.1).bind λcm=>(p4 1 jD.1).bind λcI=>(Z0 cm).bind λcJ=>(WY (λv21 ym=>(Y3 (ak v21 5) cJ).bind λcC=>φ cC ((XI 1 cm (ak v21 5)).bind λeX=>((l6 eX ym).bind λkD=>Ψ 0 kD).bind λdV=>(Cl [dV,(Γ ⟨#[32]⟩)] ym).bind λiZ=>(XI 1 iZ.1 (η 0)).bind λdz=>((l6 dz iZ.2).bind λzC=>Ψ 0 zC).bind λfX=>(Km [a1,fX] iZ.2).bind λr32=>(p4 0 r32.1).bind λgQ=>(p4 1 r32.1).bind λgm=>(j0 4 gQ).bind λqv=>(w8 0 qv [(η 0),(η 0),(η 0),(η 0)]).bind λqw=>(XQ .i gm (η 0)).bind λeu=>(ι eu ξ (δ iZ.1) aq).bind λfq=>(ι eu ξ (Z0 fq) aq).bind λfY=>(ι eu ξ (Y3 fY (η 2)) aq).bind λfJ=>(i6 eu bC fJ).bind λgq=>(ι gq ξ (δ cI) aq).bind λiG=>(ι gq ξ (HH iG) aq).bind λjW=>(ι gq ξ (δ jW) aq).bind λgD=>(ι gD θ (δ (ak v21 5)) aq).bind λfZ=>(ι gD θ (δ cm) aq).bind λow=>(ι gD θ (Z0 ow) aq).bind λgE=>(ι gD θ (Yj gE (η 1)) aq).bind λlz=>(ι gD θ (p5 .i fZ lz) aq).bind λjE=>(ι gq ξ (i6 gD jE bw) aq).bind λkH=>(i6 gq bC kH).bind λgR=>φ gR ((u0 (ak v21 5) (η 1)).bind λgK=>δ (i7,[(ak v21 0),Yn,gK,(η 9),(ak v21 4),(ak v21 5)],r32.2)) ((A.yX 1 iZ.1 (δ (η 1)) μ r32.2).bind λlA=>(Jk [lA] r32.2).bind λB4=>(p4 0 B4.1).bind λkI=>(p4 1 B4.1).bind λjF=>(j0 5 kI).bind λc57=>(w8 0 c57 [(η 0),(η 0),(η 0),(η 0),(η 0)]).bind λD8=>(HH jF).bind λkV=>φ kV ((u0 (ak v21 5) (η 1)).bind λjG=>δ (i7,[(ak v21 0),Yn,jG,(η 9),(ak v21 4),(ak v21 5)],B4.2)) ((ZY 0 4 qw).bind λiS=>(p6 (JT [a1,iS] B4.2) B4.2).bind λkJ=>(ZY 0 5 D8).bind λgS=>((((Yh kJ).bind λv=>δ [v]).bind λzJ=>(w8 0 zJ [(η 0),(η 0),(η 0),(η 0),(η 0),(η 0)]).bind λzK=>(j0 5 gS).bind λD9=>(w8 1 D9 zK).bind λzL=>δ zL).bind λcs=>δ (n9 cs)).bind λqM=>(((j0 6 qM).bind λEb=>(w8 0 Eb [(η 0),(η 0),(η 0),(η 0),(η 0),(η 0)]).bind λzM=>δ zM).bind λcs=>δ (U.sl 6 (lI 6 1 cs))).bind λx71=>(Z9 6 (140737488355328 / 48) (ak v21 4) x71 B4.2).bind λWx=>(u0 (ak v21 5) (η 1)).bind λrR=>δ (wh,[(ak v21 0),(ak v21 1),(ak v21 2),(ak v21 3),Wx.1,rR],Wx.2)))) (δ (eN 0,[(ak v21 0),(ak v21 1),(ak v21 2),(ak v21 3),(ak v21 4),(ak v21 5)],ym))) [(XK c1),Yn,(η 0),(η 0),Yn,(η 0)] jD.2).bind λqG=>bif qG.1==eN 0 then(((W9 (ak qG.2.1 0)).bind λc75=>ZY 0 5 c75).bind λrS=>(As [rS,a1,(ak qG.2.1 4)] qG.2.2).bind λIz=>(XQ .i Iz.1 (η 0)).bind λO2=>φ O2 (Ξ σ (p7 [Yn,(η 0),Iz.1]) Iz.2) (Ξ σ (p7 [(ak qG.2.1 4),(η 0),(η 0)]) Iz.2))else bif qG.1==i7 then(Ξ σ (p7 [(ak qG.2.1 1),(ak qG.2.1 2),(ak qG.2.1 3)]) qG.2.2)else μ)
def uQ:au->Heap->aC:=ir θ [ru] (.t [(.s 6),.k,.k]) (A.oS Jo)
end
section
theorem bq(s t:ByteArray):(s==t)=decide (s=t):=by obtain⟨a⟩:=s;obtain⟨b⟩:=t;show(a==b)=_;rw[iX];simp
section
variable {α β : Type}
theorem cT(t e:Option α):φ (.bool θ) t e=t:=rfl
theorem cF(t e:Option α):φ (.bool ξ) t e=e:=rfl
theorem VU(e d:Option α):ι (.bool θ) θ e d=e:=rfl
theorem VT(e d:Option α):ι (.bool θ) ξ e d=d:=rfl
theorem VS(e d:Option α):ι (.bool ξ) θ e d=d:=rfl
theorem VR(e d:Option α):ι (.bool ξ) ξ e d=e:=rfl
theorem pT(x y:U):i6 (.bool θ) x y=δ x:=rfl
theorem pF(x y:U):i6 (.bool ξ) x y=δ y:=rfl
theorem wo{p:Prop}[Decidable p]{w:Bool}{e d:Option α}{f:α->Option β}:(ι (.bool (decide p)) w e d).bind f=if p then(ι (.bool θ) w e d).bind f else(ι (.bool ξ) w e d).bind f:=by by_cases h:p<;>simp [h]
theorem wm{b w:Bool}{e d:Option α}{f:α->Option β}:(ι (.bool b) w e d).bind f=match b with|true=>(ι (.bool θ) w e d).bind f|false=>(ι (.bool ξ) w e d).bind f:=by cases b<;>rfl
theorem wj{p:Prop}[Decidable p]{t e:Option α}:φ (.bool (decide p)) t e=if p then t else e:=by by_cases h:p<;>simp [h,φ]
theorem vQ{p:Prop}[Decidable p]{t e:Option α}:φ (.bool (!decide p)) t e=if p then e else t:=by by_cases h:p<;>simp [h,φ]
theorem wg{b:Bool}{t e:Option α}:φ (.bool (!b)) t e=match b with|true=>e|false=>t:=by cases b<;>rfl
theorem we{b:Bool}{t e:Option α}:φ (.bool b) t e=match b with|true=>t|false=>e:=by cases b<;>rfl
theorem gN(w:Bool)(e d:Option α):ι (.az []) w e d=d:=rfl
theorem xN(a b:AX):(a==b)=decide (a=b):=by rw[iX];simp
end
section
variable (k : IntKind) (a b : Int) (p q : Prop) [Decidable p] [Decidable q] (s t : ByteArray) (x y : U) (σ : Heap) (cs : au)
theorem Nb:u0 (.ah a) (.ah b)=δ (.ah (ε.wrap (a+b))):=rfl
theorem UU:Yj (.ah a) (.ah b)=δ (.ah (ε.wrap (a-b))):=rfl
theorem US:akW (.ah a) (.ah b)=δ (.ah (ε.wrap (a*b))):=rfl
theorem vN(h:b≠0):A.quo (.ah a) (.ah b)=δ (.ah (ε.wrap (a.tdiv b))):=by simp [A.quo,h]
theorem vO(h:b≠0):A.rem (.ah a) (.ah b)=δ (.ah (a.tmod b)):=by simp [A.rem,h]
theorem BF:Y3 (.ah a) (.ah b)=δ (.bool (decide (a<b))):=rfl
theorem UR:A.leq (.ah a) (.ah b)=δ (.bool (decide (a<=b))):=rfl
theorem UQ:XW (.ah a) (.ah b)=δ (.bool (decide (b<a))):=rfl
theorem UP:A.geq (.ah a) (.ah b)=δ (.bool (decide (b<=a))):=rfl
theorem Uh:Y3 (.int .u8 a) (.int .u8 b)=δ (.bool (decide (a<b))):=rfl
theorem Ug:A.leq (.int .u8 a) (.int .u8 b)=δ (.bool (decide (a<=b))):=rfl
theorem Ue:XW (.int .u8 a) (.int .u8 b)=δ (.bool (decide (b<a))):=rfl
theorem Ud:A.geq (.int .u8 a) (.int .u8 b)=δ (.bool (decide (b<=a))):=rfl
theorem cM:p5 .i (.int k a) (.int k b)=δ (.bool (decide (a=b))):=by simp only[p5,XL,A.jR,if_true,fB];congr 2
theorem fI:XQ .i (.int k a) (.int k b)=δ (.bool (decide (¬a=b))):=by simp only[XQ,XL,A.jR,if_true,fB];congr 2;rw[iX];simp
theorem oO:p5 .z (.str s) (.str t)=δ (.bool (decide (s=t))):=by simp only[p5,XL,A.mR,fB,bq]
theorem HK:XQ .z (.str s) (.str t)=δ (.bool (decide (¬s=t))):=by simp only[XQ,XL,A.mR,fB,bq];simp
theorem UT(b:Bool):HH (.bool b)=δ (.bool (!b)):=rfl
theorem Ui:HH (.bool (decide p))=δ (.bool (decide (¬p))):=by simp [HH]
theorem VO:W9 (.lbx cs)=δ cs:=rfl
theorem T9(l:au):p4 0 (.az (x::l))=δ x:=rfl
theorem Ua(x0 x:U)(l:au):p4 1 (.az (x0::x::l))=δ x:=rfl
theorem Ub(x0 x1 x:U)(l:au):p4 2 (.az (x0::x1::x::l))=δ x:=rfl
theorem Uc(x0 x1 x2 x:U)(l:au):p4 3 (.az (x0::x1::x2::x::l))=δ x:=rfl
theorem VM:l6 (.rp cs) σ=δ cs:=rfl
theorem VN(o:Nat):A.gY o (.rp cs)=δ (.rp (cs.drop o)):=rfl
theorem Uf:A.hU (.str s)=δ (.ah s.size):=rfl
theorem VK(n:Int):Yh (.int k n)=δ (.int k n):=rfl
theorem VJ(b:Bool):Yh (.bool b)=δ (.bool b):=rfl
theorem VL:Yh (.str s)=δ (.str s):=rfl
theorem UO(sz:Nat)(es:List au):Yh (.sl sz es)=δ (.sl sz es):=rfl
theorem OK(o k:Nat):Ψ o (cs.drop k)=Ψ (k+o) cs:=by simp [Ψ,W5]
end
theorem VV(a d:U)(l:au):(a::l).getD 0 d=a:=rfl
theorem VW(a b d:U)(l:au):(b::a::l).getD 1 d=a:=rfl
theorem VX(a b c d:U)(l:au):(b::c::a::l).getD 2 d=a:=rfl
theorem VY(a b c e d:U)(l:au):(b::c::e::a::l).getD 3 d=a:=rfl
theorem VZ(a b c e f d:U)(l:au):(b::c::e::f::a::l).getD 4 d=a:=rfl
theorem V0(a b c e f g d:U)(l:au):(b::c::e::f::g::a::l).getD 5 d=a:=rfl
theorem V1(a b c e f g h d:U)(l:au):(b::c::e::f::g::h::a::l).getD 6 d=a:=rfl
theorem V2(a b c e f g h i d:U)(l:au):(b::c::e::f::g::h::i::a::l).getD 7 d=a:=rfl
theorem V3(a b c e f g h i j d:U)(l:au):(b::c::e::f::g::h::i::j::a::l).getD 8 d=a:=rfl
theorem bp{n:Int}(h:aG n):ε.wrap n=n:=IntWalk.i64_in n h
theorem wrap_eq{ro:Bool}{dc:List Sh}{dw:Sh}{r:au->Heap->aC}{args:au}{σ σ':Heap}{v v':U}(h:args.any akY=ξ)(e:r (Zs dc args) σ=δ (v,σ'))(hv:Ya dw v=v'):ir ro dc dw r args σ=δ (v',σ'):=by unfold ir;rw[h,Y4,aZ,e];simp [hv]
theorem K7{v:U}(n:Nat)(h:A.qm v=θ):A.fresh v=θ/\A.shift n v=v:=by cases v<;>first|exact⟨h,rfl⟩|cases h
theorem QS{v:U}(n:Nat)(h:A.xT v=θ):A.vw v=θ/\A.uh n v=v:=by
 have key:(∀vs,v≠.az vs)->A.vw v=θ/\A.uh n v=v:=by intro k;have:=K7 (v:=v) n;cases v<;>first|exact absurd rfl (k _)|exact this h
 by_cases ht:∃vs,v=.az vs
 ·obtain⟨vs,rfl⟩:=ht;simp only[A.xT,nM]at h;refine⟨by simp only[A.vw,nM];exact λx hx=>(K7 n (h x hx)).1,?_⟩;simp only[A.uh];congr 1
  calc vs.map (A.shift n)=vs.map id:=Zh λx hx=>(K7 n (h x hx)).2
   _=vs:=List.map_id vs
 ·exact key λvs e=>ht ⟨vs,e⟩
theorem LZ{dc:List Sh}{dw:Sh}{r:au->Heap->aC}{args args':au}{σ:Heap}{v:U}(h:args.any akY=θ)(hz:Zw σ 0 8 args=δ args')(ho:args'.any akY=ξ)(e:ir θ dc dw r args' []=δ (v,[]))(hs:A.xT v=θ):ir θ dc dw r args σ=δ (v,σ):=by unfold ir at e ⊢;rw[ho,Y4,aZ]at e;obtain⟨⟨q1,q2⟩,e1,e2⟩:=cO.1 e;simp only[Θ]at e2;obtain⟨rfl,rfl⟩:=e2;rw[h,Bool.and_self,bG,hz];simp [e1,(QS σ.length hs).1,(QS σ.length hs).2]
theorem aO(σ:Heap)(r:U):Ξ σ r σ=δ (r,σ):=by simp [Ξ]
theorem Re(σ:Heap)(n d:Nat){a:U}(h:A.rj a=θ):Xz σ n d a=δ a:=by
 cases a<;>simp only[A.rj]at h<;>first|(cases h;done)|skip
 case sl sz es=>cases es with
  |nil=>cases d<;>simp [Xz,A.ko]
  |cons _ _=>simp at h
 all_goals cases d<;>simp [Xz]
theorem QC(σ:Heap)(n d:Nat):∀{l:au},l.all A.rj=θ->Zw σ n d l=δ l
 |[],_=>by simp [Zw]
 |a::l,h=>by simp only[Z4,dr]at h;simp [Zw,Re σ n d h.1,QC σ n d h.2]
theorem Rg(σ:Heap)(n d:Nat){a:U}(h:A.qm a=θ):Xz σ n d a=δ a:=by
 unfold A.qm at h;split at h
 ·cases d<;>simp [Xz,QC σ n _ h]
 ·exact Re σ n d h
theorem QD(σ:Heap)(n d:Nat):∀{l:au},l.all A.qm=θ->Zw σ n d l=δ l
 |[],_=>by simp [Zw]
 |a::l,h=>by simp only[Z4,dr]at h;simp [Zw,Rg σ n d h.1,QD σ n d h.2]
theorem adi(σ:Heap)(n d:Nat){a:U}(h:A.xT a=θ):Xz σ n d a=δ a:=by
 unfold A.xT at h;split at h
 ·cases d<;>simp [Xz,QD σ n _ h]
 ·exact Rg σ n d h
theorem Gz(σ bs:Heap){r:U}(h:A.xT r=θ):Ξ σ r (σ++bs)=δ (r,σ):=by
 unfold Ξ;split
 ·rfl
 ·rw[aE (by simp),adi _ _ _ h];rfl
theorem Mb(σ bs:Heap)(k:IntKind)(n:Int):Ξ σ (.int k n) (σ++bs)=δ (.int k n,σ):=Gz σ bs rfl
theorem R1(σ bs:Heap)(b:Bool):Ξ σ (.bool b) (σ++bs)=δ (.bool b,σ):=Gz σ bs rfl
theorem SL(σ bs:Heap)(s:ByteArray):Ξ σ (.str s) (σ++bs)=δ (.str s,σ):=Gz σ bs rfl
theorem R2(σ bs:Heap):Ξ σ (.az []) (σ++bs)=δ (.az [],σ):=Gz σ bs rfl
theorem Ip(σ bs:Heap)(j:Nat):(σ++bs)[σ.length+j]? =bs[j]? :=by rw[jL (by omega)];congr 1;omega
theorem BI(σ bs:Heap):(σ++bs)[σ.length]? =bs[0]? :=by rw[jL (bL _),alV]
theorem hset(σ bs:Heap)(j:Nat)(b:bH):(σ++bs).set (σ.length+j) b=σ++bs.set j b:=by rw[BD _ _ (by omega)];congr 2;omega
theorem MT(σ bs:Heap)(b:bH):(σ++bs).set σ.length b=σ++bs.set 0 b:=by rw[BD _ _ (bL _),alV]
section
variable {α : Type} (sz : Nat) (c : α -> au) (l : List α)
theorem fu:Z0 (sl sz c l)=δ (.ah l.length):=by simp [sl,Z0]
theorem mm{k:Nat}{x:α}(h:l[k]? =δ x):XI sz (sl sz c l) (.ah (k:Int))=δ (.rp (c x)):=by have hk:k<l.length:=(cL.1 h).1;have hx:l[k]=x:=(cL.1 h).2;simp [XI,sl,A.idx,hk,hx]
theorem ab2{i:Int}{x:α}(h0:0<=i)(h:l[i.toNat]? =δ x):XI sz (sl sz c l) (.ah i)=δ (.rp (c x)):=by have:=mm sz c l h;rwa[Int.toNat_of_nonneg h0]at this
end
inductive Rd (S R : Type) where
 |go(s:S)
 |out(r:R)
def Rd.el{S R γ:Type}(x:Rd S R)(f:S->γ)(g:R->γ):γ:=match x with|.go s=>f s|.out r=>g r
theorem xx{S R γ:Type}(s:S)(f:S->γ)(g:R->γ):(Rd.go s:Rd S R).el f g=f s:=rfl
theorem xu{S R γ:Type}(r:R)(f:S->γ)(g:R->γ):(Rd.out r:Rd S R).el f g=g r:=rfl
theorem Bn{S R γ:Type}{p:Prop}[Decidable p](x y:Rd S R)(f:S->γ)(g:R->γ):(if p then x else y).el f g=if p then x.el f g else y.el f g:=by split<;>rfl
def iC{α S R:Type}(body:List α->α->S->Rd S R):List α->List α->S->Rd S R
 |_,[],s=>.go s
 |pre,x::l,s=>match body pre x s with|.go s'=>iC body (pre++[x]) l s'|.out r=>.out r
theorem ab6{f:au->Heap->Option (AX×au×Heap)}{v:au}{σ:Heap}:∀{n m:Nat}{r r':AX×au×Heap},XB f n v σ=δ r->XB f m v σ=δ r'->r=r':=by
 intro n;induction n generalizing v σ with
 |zero=>intro m r r' h;cases h
 |succ n ih=>
  intro m r r' h1 h2;cases m with
  |zero=>cases h2
  |succ m=>
   simp only[XB]at h1 h2;cases hf:f v σ with
   |none=>rw[hf]at h1;cases h1
   |some q=>
    rw[hf]at h1 h2;simp only[aA]at h1 h2;obtain⟨e,v',σ'⟩:=q;cases e with
    |normal=>exact ih h1 h2
    |exit i=>simp only at h1 h2;rw[h1]at h2;injection h2
    |ret=>simp only at h1 h2;rw[h1]at h2;injection h2
theorem Cu{f:au->Heap->Option (AX×au×Heap)}{v:au}{σ:Heap}{n:Nat}{r:AX×au×Heap}(h:XB f n v σ=δ r):WY f v σ=δ r:=by
 have hex:∃n r,XB f n v σ=δ r:=⟨n,r,h⟩
 unfold WY;rw[dif_pos hex];exact congrArg δ (ab6 (Zt (Zt hex)) h)
theorem Lx{f:au->Heap->Option (AX×au×Heap)}{v v':au}{σ σ':Heap}{r:AX×au×Heap}(h:f v σ=δ (.normal,v',σ'))(k:∃n,XB f n v' σ'=δ r):∃n,XB f n v σ=δ r:=by obtain⟨n,k⟩:=k;exact⟨n+1,by simp [XB,h,k]⟩
theorem yM{f:au->Heap->Option (AX×au×Heap)}{v:au}{σ:Heap}{r:AX×au×Heap}(h:f v σ=δ r)(hr:r.1≠.normal):∃n,XB f n v σ=δ r:=by obtain⟨e,v',σ'⟩:=r;refine⟨1,?_⟩;cases e<;>first|(simp [XB,h];done)|exact absurd rfl hr
theorem oG{α S R γ:Type}{f:au->Heap->Option (AX×au×Heap)}(l:List α)(body:List α->α->S->Rd S R)(st:List α->S->au)(hp:List α->S->Heap)
  (fin:S->AX×au×Heap) (out:List α->S->R->AX×au×Heap) (P:List α->S->Prop) (s0:S) {k:AX×au×Heap->Option γ} (K1:S->Option γ) (K2:R->Option γ)
  (hstep:∀pre x rest s,l=pre++x::rest->P pre s->f (st pre s) (hp pre s)=δ ((body pre x s).el (λs'=>(.normal,st (pre++[x]) s',hp (pre++[x]) s')) (λr=>out pre s r)))
  (hend:∀s,P l s->f (st l s) (hp l s)=δ (fin s)) (h0:P [] s0)
  (hP:∀pre x rest s s',l=pre++x::rest->P pre s->body pre x s=.go s'->P (pre++[x]) s')
  (hk1:∀s,P l s->k (fin s)=K1 s) (hk2:∀pre x rest s r,l=pre++x::rest->P pre s->body pre x s=.out r->k (out pre s r)=K2 r)
  (zk:∀s,(fin s).1≠.normal:=by intros;simp) (hout:∀pre s r,(out pre s r).1≠.normal:=by intros;simp) {v:au} {σ:Heap} (hv:v=st [] s0:=by rfl) (eA:σ=hp [] s0:=by rfl):
  (WY f v σ).bind k=(iC body [] l s0).el K1 K2:=by
 have key:∀(rest pre:List α)(s:S),l=pre++rest->P pre s->∃q,(∃n,XB f n (st pre s) (hp pre s)=δ q)/\k q=(iC body pre rest s).el K1 K2:=by
  intro rest;induction rest with
  |nil=>intro pre s hl hp';rw[WQ]at hl;subst hl;exact⟨fin s,yM (hend s hp') (zk s),by rw[iC,xx,hk1 s hp']⟩
  |cons x rest ih=>
   intro pre s hl hp';have h:=hstep pre x rest s hl hp';rw[iC];cases hb:body pre x s with
   |go s'=>rw[hb]at h;obtain⟨q,h1,h2⟩:=ih (pre++[x]) s' (by simpa using hl) (hP pre x rest s s' hl hp' hb);exact⟨q,Lx h h1,h2⟩
   |out r=>rw[hb]at h;exact⟨out pre s r,yM h (hout pre s r),by rw[xu,hk2 pre x rest s r hl hp' hb]⟩
 obtain⟨q,⟨n,h1⟩,h2⟩:=key l [] s0 rfl h0;rw[hv,eA,Cu h1,aA,h2]
theorem F8{α:Type}{body:List α->α->Unit->Rd Unit Int}{qx:List α->List α->Int}(h0:∀pre,qx pre []=0)(h:∀pre x rest,qx pre (x::rest)=(body pre x ()).el (λ_=>qx (pre++[x]) rest) (λr=>r)) {γ:Type} (K:Int->γ):
  ∀(l pre:List α),(iC body pre l ()).el (λ_=>K 0) K=K (qx pre l)
 |[],pre=>by rw[iC,h0];rfl
 |x::l,pre=>by
  rw[iC,h];cases body pre x ()with
  |go s=>exact F8 h0 h K l (pre++[x])
  |out r=>rfl
theorem oK{α:Type}{l pre rest:List α}{x:α}(h:l=pre++x::rest):l[pre.length]? =δ x:=by rw[h];simp
theorem qh{α:Type}{l pre rest:List α}{x:α}(h:l=pre++x::rest):pre.length<l.length:=by rw[h];simp
theorem Sk{α:Type}{l pre rest:List α}{x:α}(h:l=pre++x::rest)(h0:0<pre.length):∃y,pre.getLast? =δ y/\l[pre.length-1]? =δ y:=by
 cases hp:pre.getLast? with
 |none=>rw[List.getLast?_eq_none_iff]at hp;subst hp;simp at h0
 |some y=>refine⟨y,rfl,?_⟩;rw[h,iV (by omega),<-hp,List.getLast?_eq_getElem?]
theorem RO{γ:Type}{p:UInt8->Bool}{f:au->Heap->Option (AX×au×Heap)}(s:ByteArray){σ:Heap}{k:AX×au×Heap->Option γ}(K2:Option γ)
  (hstep:∀(i:Nat)(c:UInt8),i<s.size->A.jk (.str s) (.ah (i:Int))=δ (.int .u8 c.toNat)->f [.bool ξ,.ah (i:Int)] σ=if p c=θ then δ (.normal,[.bool ξ,.ah ((i:Int)+1)],σ)else δ (.ret,[.bool ξ,.ah (i:Int)],σ))
  (hend:f [.bool ξ,.ah (s.size:Int)] σ=δ (.exit 0,[.bool ξ,.ah (s.size:Int)],σ)) (hk2:∀i:Int,k (.ret,[.bool ξ,.ah i],σ)=K2):
  (WY f [.bool ξ,.ah 0] σ).bind k=if s.data.toList.all p=θ then k (.exit 0,[.bool ξ,.ah (s.size:Int)],σ)else K2:=by
 have hsz:s.data.toList.length=s.size:=rfl
 refine(oG (S:=Unit) (R:=Unit) s.data.toList (λ_ c _=>if p c=θ then .go ()else .out ()) (λpre _=>[.bool ξ,.ah (pre.length:Int)]) (λ_ _=>σ) (λ_=>(.exit 0,[.bool ξ,.ah (s.size:Int)],σ)) (λpre _ _=>(.ret,[.bool ξ,.ah (pre.length:Int)],σ)) (λ_ _=>True) ()
  (λ_=>k (.exit 0,[.bool ξ,.ah (s.size:Int)],σ)) (λ_=>K2) ?_ ?_ trivial (λ_ _ _ _ _ _ _ _=>trivial) (λ_ _=>rfl) (λ_ _ _ _ _ _ _ _=>hk2 _)).trans ?_
 ·intro pre c rest u hl _;have hlt:=qh hl;have hc:=oK hl;rw[hsz]at hlt
  have hsi:A.jk (.str s) (.ah (pre.length:Int))=δ (.int .u8 c.toNat):=by have h2:s[pre.length]=c:=(cL.1 hc).2;simp [A.jk,A.idx,hlt,h2]
  rw[hstep pre.length c hlt hsi];cases p c<;>simp [Rd.el]
 ·intro u _;rw[hsz];exact hend
 ·have key:∀(l pre:List UInt8),(iC (λ(_:List UInt8)c(_:Unit)=>if p c=θ then(Rd.go ():Rd Unit Unit)else .out ()) pre l ()).el (λ_=>k (.exit 0,[.bool ξ,.ah (s.size:Int)],σ)) (λ_=>K2)=if l.all p=θ then k (.exit 0,[.bool ξ,.ah (s.size:Int)],σ)else K2:=by
   intro l;induction l with
   |nil=>intro pre;simp [iC,Rd.el]
   |cons c l ih=>
    intro pre;rw[iC];cases hc:p c
    ·simp [hc,Rd.el]
    ·simp only[if_true];rw[ih];simp [hc]
  exact key s.data.toList []
section
variable {α : Type} (g : α -> ByteArray) (gi : α -> Int) (v : α -> U)
theorem TB(k:ByteArray):∀(l:List α),YB .z (.str k) (l.map λx=>(Γ (g x),v x))=δ ((l.find? λx=>decide (k=g x)).map v)
 |[]=>rfl
 |x::l=>by
  simp only[fH,YB,XL,A.mR,aA,WX];by_cases h:k=g x
  ·rw[bq];simp [h]
  ·rw[bq];simp [h,TB k l]
theorem TA(kk:IntKind)(k:Int):∀(l:List α),YB .i (.int kk k) (l.map λx=>(Zx kk (gi x),v x))=δ ((l.find? λx=>decide (k=gi x)).map v)
 |[]=>rfl
 |x::l=>by
  simp only[fH,YB,XL,A.jR,if_true,aA,WX];by_cases h:k=gi x
  ·have:(k==gi x)=θ:=by simpa using h
   simp [this,h]
  ·have:(k==gi x)=ξ:=by simpa using h
   simp [this,h,TA kk k l]
theorem M6{k:ByteArray}{w:U}:∀{l:List α},(∀x∈l,g x≠k)->alp .z (.str k) w (l.map λx=>(Γ (g x),v x))=δ ((l.map λx=>(Γ (g x),v x))++[(.str k,w)])
 |[],_=>rfl
 |x::l,h=>by
  have h1:(k==g x)=ξ:=by rw[bq];exact gZ λe:k=g x=>h x (by simp) e.symm
  simp only[fH,alp,XL,A.mR,aA,h1,aZ];rw[M6 (λy hy=>h y (by simp [hy]))];rfl
theorem M5{kk:IntKind}{k:Int}{w:U}:∀{l:List α},(∀x∈l,gi x≠k)->alp .i (.int kk k) w (l.map λx=>(Zx kk (gi x),v x))=δ ((l.map λx=>(Zx kk (gi x),v x))++[(.int kk k,w)])
 |[],_=>rfl
 |x::l,h=>by
  have h1:(k==gi x)=ξ:=by simpa using λe:k=gi x=>h x (by simp) e.symm
  simp only[fH,alp,XL,A.jR,if_true,aA,h1,aZ];rw[M5 (λy hy=>h y (by simp [hy]))];rfl
end
theorem xj(e:A.EK){k z:U}{σ:Heap}{id:Nat}{es:List (U×U)}(hk:A.ju e k=θ)(h:σ[id]? =δ (.map es)):Yg e (.om id) k z σ=(YB e k es).map λr=>r.getD z:=by simp [Yg,hk,alB,h]
theorem C7(e:A.EK){k w:U}{σ:Heap}{id:Nat}{es:List (U×U)}(hk:A.ju e k=θ)(h:σ[id]? =δ (.map es)):A.jy e (.om id) k w σ=(alp e k w es).map λes=>σ.set id (.map es):=by simp [A.jy,hk,h]
theorem Sd{α:Type}(l:List α)(x:α):(((l++[x]).length:Nat):Int)=(l.length:Int)+1:=by simp
theorem F3{α:Type}(sz:Nat)(c:α->au)(l:List α){k:Nat}{x:α}(h0:0<k)(h:l[k-1]? =δ x):XI sz (sl sz c l) (.ah ((k:Int) -1))=δ (.rp (c x)):=by have:=mm sz c l h;rwa[show((k-1:Nat):Int)=(k:Int) -1 by omega]at this
def jN{α:Type}(g:α->ByteArray)(l:List α):List (U×U):=l.map λx=>(Γ (g x),ψ θ)
def nR{α:Type}(g:α->Int)(l:List α):List (U×U):=l.map λx=>(η (g x),ψ θ)
theorem LH{α:Type}(p:α->Bool):∀(l:List α),((l.find? p).map λ_=>ψ θ).getD bw=ψ (l.any p)
 |[]=>rfl
 |x::l=>by
  simp only[WX,List.any_cons];cases h:p x
  ·simpa using LH p l
  ·rfl
theorem Rw{α:Type}(g:α->ByteArray)(k:ByteArray)(l:List α):(YB .z (.str k) (jN g l)).map (λr=>r.getD (.bool ξ))=δ (.bool (ia k (l.map g))):=by unfold jN;rw[TB g (λ_=>ψ θ) k l,fB,LH];refine congrArg δ (congrArg ψ ?_);rw[iX,LQ];simp only[WJ,decide_eq_true_eq,kZ];exact⟨λ⟨x,h,e⟩=>⟨x,h,e.symm⟩,λ⟨x,h,e⟩=>⟨x,h,e.symm⟩⟩
theorem Rr{α:Type}(g:α->Int)(k:Int)(l:List α):(YB .i (.ah k) (nR g l)).map (λr=>r.getD (.bool ξ))=δ (.bool (ia k (l.map g))):=by unfold nR;rw[TA g (λ_=>ψ θ) ε k l,fB,LH];refine congrArg δ (congrArg ψ ?_);rw[iX,LQ];simp only[WJ,decide_eq_true_eq,kZ];exact⟨λ⟨x,h,e⟩=>⟨x,h,e.symm⟩,λ⟨x,h,e⟩=>⟨x,h,e.symm⟩⟩
section
variable {α : Type} (g : α -> ByteArray) (gi : α -> Int) (l : List α) (k : ByteArray) (n : Int) (σ bs : Heap) (b0 : bH)
theorem QV:Yg .z (.om σ.length) (.str k) (.bool ξ) (σ++Z7 (jN g l)::bs)=δ (.bool (ia k (l.map g))):=by rw[xj .z rfl (by rw[BI];rfl),Rw]
theorem QT:Yg .i (.om σ.length) (.ah n) (.bool ξ) (σ++Z7 (nR gi l)::bs)=δ (.bool (ia n (l.map gi))):=by rw[xj .i rfl (by rw[BI];rfl),Rr]
theorem QW:Yg .z (.om (σ.length+1)) (.str k) (.bool ξ) (σ++b0::Z7 (jN g l)::bs)=δ (.bool (ia k (l.map g))):=by rw[xj .z rfl (by rw[Ip];rfl),Rw]
theorem QU:Yg .i (.om (σ.length+1)) (.ah n) (.bool ξ) (σ++b0::Z7 (nR gi l)::bs)=δ (.bool (ia n (l.map gi))):=by rw[xj .i rfl (by rw[Ip];rfl),Rr]
theorem Ry(h:ia k (l.map g)=ξ):A.jy .z (.om σ.length) (.str k) (.bool θ) (σ++Z7 (jN g l)::bs)=δ (σ++Z7 (jN g l++[(.str k,.bool θ)])::bs):=by rw[C7 .z rfl (by rw[BI];rfl),jN,M6 g _ (λx hx e=>F4.1 h (by rw[<-e];exact ak3 hx)),fB,MT];rfl
theorem Ru(h:ia n (l.map gi)=ξ):A.jy .i (.om σ.length) (.ah n) (.bool θ) (σ++Z7 (nR gi l)::bs)=δ (σ++Z7 (nR gi l++[(.ah n,.bool θ)])::bs):=by rw[C7 .i rfl (by rw[BI];rfl),nR,M5 gi _ (λx hx e=>F4.1 h (by rw[<-e];exact ak3 hx)),fB,MT];rfl
theorem Rz(h:ia k (l.map g)=ξ):A.jy .z (.om (σ.length+1)) (.str k) (.bool θ) (σ++b0::Z7 (jN g l)::bs)=δ (σ++b0::Z7 (jN g l++[(.str k,.bool θ)])::bs):=by rw[C7 .z rfl (by rw[Ip];rfl),jN,M6 g _ (λx hx e=>F4.1 h (by rw[<-e];exact ak3 hx)),fB,hset];rfl
theorem Rv(h:ia n (l.map gi)=ξ):A.jy .i (.om (σ.length+1)) (.ah n) (.bool θ) (σ++b0::Z7 (nR gi l)::bs)=δ (σ++b0::Z7 (nR gi l++[(.ah n,.bool θ)])::bs):=by rw[C7 .i rfl (by rw[Ip];rfl),nR,M5 gi _ (λx hx e=>F4.1 h (by rw[<-e];exact ak3 hx)),fB,hset];rfl
end
theorem Rx{α:Type}(g:α->ByteArray)(l:List α)(x:α):jN g (l++[x])=jN g l++[(.str (g x),.bool θ)]:=by simp [jN]
theorem Li(σ:Heap)(v:U):p6 (δ (v,σ)) σ=δ v:=by simp [p6]
def Fz(a:U):Prop:=∀σ n d,Xz σ n d a=δ a
def iD(l:au):Prop:=∀σ n d,Zw σ n d l=δ l
theorem dN(k:IntKind)(n:Int):Fz (.int k n):=λ_ _ d=>by cases d<;>simp [Xz]
theorem C3(b:Bool):Fz (.bool b):=λ_ _ d=>by cases d<;>simp [Xz]
theorem vA(s:ByteArray):Fz (.str s):=λ_ _ d=>by cases d<;>simp [Xz]
theorem Mu{l:au}(h:iD l):Fz (.agg l):=λσ n d=>by cases d<;>simp [Xz,h σ n]
theorem oJ:iD []:=λ_ _ _=>by simp [Zw]
theorem bY{a:U}{l:au}(h:Fz a)(k:iD l):iD (a::l):=λσ n d=>by simp [Zw,h σ n d,k σ n d]
theorem sD{α:Type}{sz:Nat}{c:α->au}(h:∀x,iD (c x))(l:List α):Fz (sl sz c l):=by
 intro σ n d
 have:A.ko σ n d (l.map c)=δ (l.map c):=by
  induction l with
  |nil=>simp [A.ko]
  |cons x l ih=>simp [A.ko,h x σ n d,ih]
 cases d<;>simp [sl,Xz,this]
theorem U1{α:Type}{c:α->au}(h:∀x,iD (c x))(l:List α)(σ:Heap)(n d:Nat):A.ko σ n d (l.map c)=δ (l.map c):=by
 induction l with
 |nil=>simp [A.ko]
 |cons x l ih=>simp [A.ko,h x σ n d,ih]
def rq{α:Type}(id sz:Nat)(l:List α):U:=if l=[]then .bA else .os id l.length sz 0 l.length
def oR{α:Type}(sz:Nat)(c:α->au)(l:List α):Heap:=if l=[]then[]else[.arr l.length sz (l.map c)]
theorem adB{α:Type}(sz:Nat)(c:α->au):oR sz c []=[]:=rfl
theorem aa7{α:Type}{sz most:Nat}(c:α->au)(l:List α)(x:α)(σ:Heap)(h:l.length+1<=most):Z9 sz most (rq σ.length sz l) (.sl sz [c x]) (σ++oR sz c l)=δ (rq σ.length sz (l++[x]),σ++oR sz c (l++[x])):=by
 unfold rq oR;cases l with
 |nil=>
  have h1:1<=most:=by simpa using h
  simp [Z9,A.qT,ak8,h1]
 |cons y l=>
  have h1:l.length+1+1<=most:=by simpa using h
  simp [Z9,A.qT,ak8,h1,BI,MT,fG,xF]
theorem aeS{α:Type}{sz:Nat}{c:α->au}(hc:∀x,iD (c x))(l:List α)(σ:Heap)(d:Nat):Xz (σ++oR sz c l) σ.length (d+1) (rq σ.length sz l)=δ (if l=[]then .bA else sl sz c l):=by
 unfold rq oR;split
 ·simp [Xz]
 ·rename_i hl;simp only[Xz,Nat.lt_irrefl,if_false,BI,Z3];rw[aE (by simp)];have e:(List.take l.length (List.drop 0 (l.map c)))=l.map c:=by simp [xF]
  rw[e,GA,U1 hc];rfl
theorem adb{α:Type}{sz:Nat}{c:α->au}(hc:∀x,iD (c x))(l:List α)(k:IntKind)(n:Int)(σ:Heap):Ξ σ (.az [rq σ.length sz l,.int k n]) (σ++oR sz c l)=δ (.az [if l=[]then .bA else sl sz c l,.int k n],σ):=by
 unfold Ξ;split
 ·rename_i h;have:oR sz c l=[]:=by simpa using h
  have hl:l=[]:=by
   unfold oR at this;split at this
   ·assumption
   ·cases this
  subst hl;rfl
 ·rw[aE (by simp)]
  have:Xz (σ++oR sz c l) σ.length 8 (.az [rq σ.length sz l,.int k n])=δ (.az [if l=[]then .bA else sl sz c l,.int k n]):=by simp only[Xz,Zw,aeS hc,dN k n _ _ _,aA,fB]
  rw[this];rfl
theorem afL{α:Type}(sz:Nat)(c:α->au)(l:List α):Ya (.s sz) (if l=[]then .bA else sl sz c l)=sl sz c l:=by
 split
 ·rename_i h;subst h;rfl
 ·rfl
def oP{α:Type}(p:α->Bool)(l:List α):Int:=match l.findIdx? p with|some i=>i|none=>-1
theorem CD{α:Type}(p:α->Bool)(l:List α):(oP p l=-1/\(∀x∈l,p x=ξ)/\l.find? p=μ)\/∃(k:Nat)(x:α),l[k]? =δ x/\p x=θ/\oP p l=k/\l.find? p=δ x/\∀(j:Nat)(y:α),j<k->l[j]? =δ y->p y=ξ:=by
 induction l with
 |nil=>left;exact⟨rfl,by simp,rfl⟩
 |cons x l ih=>
  cases h:p x
  ·rcases ih with⟨h1,h2,h3⟩|⟨k,y,h1,h2,h3,h4,h5⟩
   ·left;refine⟨?_,?_,?_⟩
    ·unfold oP at h1 ⊢;rw[alj,h];cases hf:l.findIdx? p with
     |none=>simp
     |some i=>rw[hf]at h1;simp at h1
    ·intro y hy;rcases eG.1 hy with rfl|hy
     ·exact h
     ·exact h2 y hy
    ·simp [WX,h,h3]
   ·right;refine⟨k+1,y,by simpa using h1,h2,?_,by simp [WX,h,h4],?_⟩
    ·unfold oP at h3 ⊢;rw[alj,h];cases hf:l.findIdx? p with
     |none=>rw[hf]at h3;simp at h3
     |some i=>rw[hf]at h3;simp at h3 ⊢;omega
    ·intro j z hj hz;cases j with
     |zero=>simp at hz;subst hz;exact h
     |succ j=>exact h5 j z (by omega) (by simpa using hz)
  ·right;refine⟨0,x,rfl,h,?_,by simp [WX,h],by intro j y hj;omega⟩;unfold oP;rw[alj,h];rfl
theorem CR{α:Type}{γ:Type}(p:α->Bool)(K1:Option γ)(K2:Int->Option γ):∀(l pre:List α),(∀x∈pre,p x=ξ)->(iC (λpre x(_:Unit)=>if p x=θ then(Rd.out (pre.length:Int):Rd Unit Int)else .go ()) pre l ()).el (λ_=>K1) K2=if oP p (pre++l)=-1 then K1 else K2 (oP p (pre++l))
 |[],pre,h=>by
  have:oP p (pre++[])=-1:=by
   rcases CD p (pre++[])with h1|⟨k,x,h1,h2,_⟩
   ·exact h1.1
   ·have:=h x (by have:=cZ h1;simpa using this);rw[h2]at this;cases this
  rw[iC,xx,aE this]
 |x::l,pre,h=>by
  rw[iC];cases hx:p x
  ·simp only[Φ,if_false]
   have:=CR p K1 K2 l (pre++[x]) (λy hy=>by
    rcases gV.1 hy with hy|hy
    ·exact h y hy
    ·simp at hy;subst hy;exact hx)
   simpa using this
  ·simp only[if_true,xu]
   have:oP p (pre++x::l)=pre.length:=by
    rcases CD p (pre++x::l)with h1|⟨k,y,h1,h2,h3,_,h5⟩
    ·have:=h1.2.1 x (by simp);rw[hx]at this;cases this
    ·rw[h3];rcases Nat.lt_trichotomy k pre.length with hk|hk|hk
     ·rw[iV hk]at h1;have:=h y (cZ h1);rw[h2]at this;cases this
     ·omega
     ·have:=h5 pre.length x hk (by simp);rw[hx]at this;cases this
   rw[this,aD (by omega)]
theorem Sq{α R γ:Type}(p:α->Bool)(r:R)(K1:Unit->γ)(K2:R->γ):∀(l pre:List α),(iC (λ_ x(_:Unit)=>if p x=θ then(Rd.out r:Rd Unit R)else .go ()) pre l ()).el K1 K2=if l.any p=θ then K2 r else K1 ()
 |[],pre=>by simp [iC,Rd.el]
 |x::l,pre=>by
  rw[iC];cases h:p x
  ·simp only[Φ,if_false];rw[Sq p r K1 K2 l (pre++[x])];simp [h]
  ·simp [h,Rd.el]
theorem Rs(l:List Int)(n:Int):nR id l++[(.ah n,.bool θ)]=nR id (l++[n]):=by simp [nR]
theorem acg{κ:Type}[DecidableEq κ](k x:κ)(S:List κ):ia k (S++[x])=(ia k S||decide (x=k)):=by simp [ia]
theorem xS{α:Type}{sz:Nat}{c:α->au}{sh:List Sh}(h:∀x,Zs sh (c x)=c x)(l:List α):Ya (.e sz sh) (sl sz c l)=sl sz c l:=by simp only[sl,Ya,List.map_map];congr 1;exact Zh λx _=>h x
theorem Md(sz:Nat)(sh:List Sh):Ya (.e sz sh) .bA=.sl sz []:=by simp [Ya]
theorem Sf{α γ:Type}{f:au->Heap->Option (AX×au×Heap)}(l:List α)(p:α->Bool)(vs:Nat->au)(σ:Heap)(fin:AX×au×Heap)(ret:Nat->AX×au×Heap){k:AX×au×Heap->Option γ}(K1 K2:Option γ)
  (hstep:∀(i:Nat)(x:α),l[i]? =δ x->f (vs i) σ=if p x=θ then δ (ret i)else δ (.normal,vs (i+1),σ)) (hend:f (vs l.length) σ=δ fin) (hk1:k fin=K1) (hk2:∀i,k (ret i)=K2)
  (zk:fin.1≠.normal:=by simp) (DK:∀i,(ret i).1≠.normal:=by intros;simp) {v:au} {σ':Heap} (hv:v=vs 0:=by rfl) (eA:σ'=σ:=by rfl):
  (WY f v σ').bind k=if l.any p=θ then K2 else K1:=by
 subst hv eA
 refine(oG (S:=Unit) (R:=Unit) l (λ_ x _=>if p x=θ then .out ()else .go ()) (λpre _=>vs pre.length) (λ_ _=>σ') (λ_=>fin) (λpre _ _=>ret pre.length) (λ_ _=>True) () (λ_=>K1) (λ_=>K2)
  ?_ (λ_ _=>hend) trivial (λ_ _ _ _ _ _ _ _=>trivial) (λ_ _=>hk1) (λ_ _ _ _ _ _ _ _=>hk2 _) (λ_=>zk) (λ_ _ _=>DK _)).trans (Sq p () _ _ l [])
 intro pre x rest u hl _;rw[hstep pre.length x (oK hl)];cases p x<;>simp [Rd.el]
theorem R9{α:Type}(sz:Nat)(c:α->au){l:List α}{k:Nat}{x:α}(h:l[k]? =δ x):XI sz (sl sz c l) (.ah (k:Int))=δ (.rp (c x))/\(k:Int)<(l.length:Int)/\(l.length<=bu->ε.wrap ((k:Int)+1)=(k:Int)+1):=
 ⟨mm sz c l h,by have:=(cL.1 h).1;omega,λhl=>bp (by have:=(cL.1 h).1;unfold aG;unfold bu at hl;omega)⟩
theorem ab9{α γ:Type}{f:au->Heap->Option (AX×au×Heap)}(l:List α)(p:α->Bool)(vs:Nat->au)(σ:Heap)(fin:AX×au×Heap)(ret:Nat->α->AX×au×Heap){k:AX×au×Heap->Option γ}(K1:Option γ)(K2:α->Option γ)
  (hstep:∀(i:Nat)(x:α),l[i]? =δ x->f (vs i) σ=if p x=θ then δ (ret i x)else δ (.normal,vs (i+1),σ)) (hend:f (vs l.length) σ=δ fin) (hk1:k fin=K1) (hk2:∀i x,k (ret i x)=K2 x)
  (zk:fin.1≠.normal:=by simp) (DK:∀i x,(ret i x).1≠.normal:=by intros;simp) {v:au} {σ':Heap} (hv:v=vs 0:=by rfl) (eA:σ'=σ:=by rfl):
  (WY f v σ').bind k=(l.find? p).elim K1 K2:=by
 subst hv eA
 have run:∀(l pre:List α),(iC (λ_ x(_:Unit)=>if p x=θ then(Rd.out x:Rd Unit α)else .go ()) pre l ()).el (λ_=>K1) K2=(l.find? p).elim K1 K2:=by
  intro l;induction l with
  |nil=>intro pre;rfl
  |cons x l ih=>
   intro pre;rw[iC];cases h:p x
   ·simp only[Φ,if_false];rw[ih,al7,h]
   ·simp [h,Rd.el]
 refine(oG (S:=Unit) (R:=α) l (λ_ x _=>if p x=θ then .out x else .go ()) (λpre _=>vs pre.length) (λ_ _=>σ') (λ_=>fin) (λpre _ x=>ret pre.length x) (λ_ _=>True) () (λ_=>K1) K2
  ?_ (λ_ _=>hend) trivial (λ_ _ _ _ _ _ _ _=>trivial) (λ_ _=>hk1) (λ_ _ _ _ _ _ _ _=>hk2 _ _) (λ_=>zk) (λ_ _ _=>DK _ _)).trans (run l [])
 intro pre x rest u hl _;rw[hstep pre.length x (oK hl)];cases p x<;>simp [Rd.el]
theorem A7{α:Type}(n:Int)(B:U->Option α)(s:Option α):((Y3 (.ah n) (.ah n)).bind λx=>φ x (B x) s)=s:=by simp only[BF,Yx,aA,decide_false,cF]
section
variable {α β : Type}
theorem abH{c c':U}(h:c=c')(t e:Option α):φ c t e=φ c' t e:=by rw[h]
theorem aaX{c c':U}(h:c=c')(w:Bool)(e d:Option α):ι c w e d=ι c' w e d:=by rw[h]
theorem abB{x y:Option α}(h:x=y)(f:α->Option β):x.bind f=y.bind f:=by rw[h]
attribute [congr] abH aaX abB
end
theorem aK:type_of% @aA.{0,0}/\type_of% @fB.{0,0}/\type_of% @cT/\type_of% @cF/\type_of% @VU/\type_of% @VT/\type_of% @VS/\type_of% @VR/\type_of% @gN/\type_of% @pT/\type_of% @pF/\type_of% @bG.{1}/\type_of% @aZ.{1}/\type_of% @xN/\type_of% @Nb/\type_of% @UU/\type_of% @US/\type_of% @BF/\type_of% @UR/\type_of% @UQ/\type_of% @UP/\type_of% @Uh/\type_of% @Ug/\type_of% @Ue/\type_of% @Ud/\type_of% @cM/\type_of% @fI/\type_of% @oO/\type_of% @HK/\type_of% @UT/\type_of% @Ui/\type_of% @VO/\type_of% @T9/\type_of% @Ua/\type_of% @Ub/\type_of% @Uc/\type_of% @VM/\type_of% @VN/\type_of% @Uf/\type_of% @VK/\type_of% @VJ/\type_of% @VL/\type_of% @UO/\type_of% @OK/\type_of% @VV/\type_of% @VW/\type_of% @VX/\type_of% @VY/\type_of% @VZ/\type_of% @V0/\type_of% @V1/\type_of% @V2/\type_of% @V3/\type_of% @aO/\type_of% @Mb/\type_of% @R1/\type_of% @SL/\type_of% @R2/\type_of% @fu/\type_of% @ite_true.{1}/\type_of% @ite_false.{1}/\type_of% @if_true.{1}/\type_of% @if_false.{1}/\type_of% @Φ/\type_of% @not_true_eq_false/\type_of% @not_false_eq_true/\type_of% @decide_true/\type_of% @decide_false/\type_of% @n8/\type_of% @ZQ/\type_of% @sH.{0}/\type_of% @kN.{0}/\type_of% @Yd.{0}/\type_of% @List.drop_zero.{0}/\type_of% @Tc/\type_of% @Td/\type_of% @Sd/\type_of% @Int.natCast_add/\type_of% @Int.cast_ofNat_Int/\type_of% @Li/\type_of% @xx/\type_of% @xu/\type_of% @Bn/\type_of% @QV/\type_of% @QT/\type_of% @QW/\type_of% @QU/\type_of% @Rx/\type_of% @Ry/\type_of% @Ru/\type_of% @Rz/\type_of% @Rv/\type_of% @true_and/\type_of% @and_true/\type_of% @false_and/\type_of% @and_false/\type_of% @true_or/\type_of% @or_true/\type_of% @false_or/\type_of% @or_false/\type_of% @y9.{0}/\type_of% @Xh.{0}/\type_of% @W0.{0}/\type_of% @l8.{0}/\type_of% @AV.{0}/\type_of% @Zm/\type_of% @Nat.add_zero:=
 ⟨@aA.{0,0},@fB.{0,0},@cT,@cF,@VU,@VT,@VS,@VR,@gN,@pT,@pF,@bG.{1},@aZ.{1},@xN,@Nb,@UU,@US,@BF,@UR,@UQ,@UP,@Uh,@Ug,@Ue,@Ud,@cM,@fI,@oO,@HK,@UT,@Ui,@VO,@T9,@Ua,@Ub,@Uc,@VM,@VN,@Uf,@VK,@VJ,@VL,@UO,@OK,@VV,@VW,@VX,@VY,@VZ,@V0,@V1,@V2,@V3,@aO,@Mb,@R1,@SL,@R2,@fu,@ite_true.{1},@ite_false.{1},@if_true.{1},@if_false.{1},@Φ,@not_true_eq_false,@not_false_eq_true,@decide_true,@decide_false,@n8,@ZQ,@sH.{0},@kN.{0},@Yd.{0},@List.drop_zero.{0},@Tc,@Td,@Sd,@Int.natCast_add,@Int.cast_ofNat_Int,@Li,@xx,@xu,@Bn,@QV,@QT,@QW,@QU,@Rx,@Ry,@Ru,@Rz,@Rv,@true_and,@and_true,@false_and,@and_false,@true_or,@or_true,@false_or,@or_false,@y9.{0},@Xh.{0},@W0.{0},@l8.{0},@AV.{0},@Zm,@Nat.add_zero⟩
end
open Rd renaming el->alD
theorem abU(x:lF):iD (jI x):=(bY (dN _ _) (bY (dN _ _) oJ))
theorem abV(x:mu):iD (lH x):=(bY (dN _ _) (bY (dN _ _) (bY (vA _) oJ)))
theorem abT(x:iL):iD (jr x):=(bY (vA _) (bY (dN _ _) (bY (dN _ _) (bY (dN _ _) (bY (dN _ _) (bY (C3 _) (bY (sD abV _) oJ)))))))
theorem Z6(x:dI):iD (fD x):=(bY (vA _) (bY (dN _ _) (bY (sD abT _) oJ)))
theorem adl(x:fT):iD (gT x):=(bY (dN _ _) (bY (vA _) (bY (dN _ _) (bY (dN _ _) oJ))))
theorem SS(x:bP):iD (ct x):=(bY (dN _ _) (bY (vA _) oJ))
theorem aiZ(x:so):iD (qR x):=(bY (dN _ _) (bY (vA _) (bY (dN _ _) oJ)))
theorem aaW(x:iz):iD (lC x):=(bY (dN _ _) (bY (vA _) (bY (sD aiZ _) oJ)))
theorem adk(x:kj):iD (nF x):=(bY (dN _ _) (bY (vA _) (bY (dN _ _) (bY (dN _ _) (bY (C3 _) (bY (C3 _) (bY (dN _ _) (bY (dN _ _) oJ))))))))
theorem SR(x:cr):iD (dY x):=(bY (dN _ _) (bY (vA _) (bY (dN _ _) (bY (dN _ _) (bY (dN _ _) (bY (dN _ _) (bY (dN _ _) (bY (sD abU _) (bY (C3 _) (bY (dN _ _) (bY (sD adk _) oJ)))))))))))
theorem adj(x:gX):iD (gO x):=(bY (dN _ _) (bY (sD SR _) oJ))
theorem ai9(x:jq):iD (gL x):=(bY (dN _ _) (bY (dN _ _) (bY (dN _ _) oJ)))
theorem abW(x:dM):iD (dQ x):=(bY (sD Z6 _) (bY (sD adl _) (bY (sD aaW _) (bY (sD adj _) (bY (sD ai9 _) oJ)))))
theorem aaV(x:bF):iD (dS x):=(bY (dN _ _) (bY (dN _ _) (bY (dN _ _) (bY (dN _ _) (bY (dN _ _) oJ)))))
theorem Rh(x:cV):iD (cE x):=(bY (dN _ _) (bY (dN _ _) (bY (dN _ _) (bY (dN _ _) (bY (dN _ _) (bY (dN _ _) oJ))))))
def yZ (rate:Int):List au->Option (List UInt8)
 |[]=>δ []
 |[.int ε n,.int ε t,.int ε k,.int ε p,.int ε c,.int ε l]::rest=>
  match JI [.int ε rate,.int ε n] []with
  |some (.agg [.int ε h,.int ε m,.int ε s,.int ε f],[])=>
   match Kn [.int ε rate,.agg [.int ε h,.int ε m,.int ε s,.int ε f]] [],Jj [.agg [.int ε t,.int ε k,.int ε p,.int ε c,.int ε l]] []with
   |some (.str x,[]),δ (.str y,[])=>if x.size+y.size<=1000000 then(yZ rate rest).map λr=>lZ x++(32::(lZ y++10::r))else μ
   |_,_=>μ
  |_=>μ
 |_::_=>μ
def zO (rate e:Int) (es:List au):aC:=
 if e=0 then(yZ rate es).bind λt=>if t.length<=600000 then δ (.az [.str (bZ t),.int ε 0],[])else if t.length<=140737488355328 then δ (.az [.str ⟨#[]⟩,.int ε 2],[])else μ
 else δ (.az [.str ⟨#[]⟩,.int ε e],[])
def tI:au->Heap->aC:=A.oS λs r l σ=>match σ,s,r,l with
 |[],.agg [.sl 3 a,.sl 4 b,.sl 3 c,.sl 2 d,.sl 3 e],.int ε rate,.sl 6 es=>(As [.agg [.sl 3 a,.sl 4 b,.sl 3 c,.sl 2 d,.sl 3 e],.int ε rate,.sl 6 es] []).bind λq=>match q with
  |(.int ε e,[])=>if es.length<=bu then zO rate e es else μ
  |_=>μ
 |_,_,_,_=>μ
section
def IV (a0 a1 a2 a3:U) (σ:Heap):aC:=(j0 5 a0).bind λc1=>(ZY 0 5 c1).bind λx2=>(tI [x2,a1,a2] σ).bind λr3=>(p4 0 r3.1).bind λx4=>(p4 1 r3.1).bind λx5=>(p5 .i x5 (η 0)).bind λx6=>φ x6 ((ZY 0 5 c1).bind λx7=>(uQ [x7,a1,x4] r3.2).bind λr8=>(p4 0 r8.1).bind λx9=>(p4 1 r8.1).bind λaQ=>(p4 2 r8.1).bind λaX=>(XQ .i aX (η 0)).bind λbI=>(ι bI ξ (δ aQ) aq).bind λbJ=>(ι bI ξ (XQ .i bJ (η 0)) aq).bind λbV=>(i6 bI bC bV).bind λbS=>(ι bS ξ (δ x9) aq).bind λbW=>(ι bS ξ (δ a2) aq).bind λcH=>(ι bS ξ (p6 (yx [bW,cH] r8.2) r8.2) aq).bind λcm=>(ι bS ξ (HH cm) aq).bind λcI=>(i6 bS bC cI).bind λcJ=>φ cJ (Ξ σ bw r8.2) ((ZY 0 5 c1).bind λcK=>(uQ [cK,a1,a3] r8.2).bind λqB=>(p4 0 qB.1).bind λdU=>(p4 1 qB.1).bind λcC=>(p4 2 qB.1).bind λeX=>(XQ .i eX (η 0)).bind λeY=>φ eY (Ξ σ bC qB.2) ((ZY 0 5 c1).bind λdV=>(tI [dV,a1,dU] qB.2).bind λiZ=>(p4 0 iZ.1).bind λdz=>(p4 1 iZ.1).bind λdh=>(p5 .i dh (η 2)).bind λfX=>φ fX (Ξ σ bC iZ.2) ((ZY 0 5 c1).bind λgj=>(uQ [gj,a1,dz] iZ.2).bind λiw=>(p4 0 iw.1).bind λgm=>(p4 1 iw.1).bind λeR=>(p4 2 iw.1).bind λgp=>(p5 .i dh (η 0)).bind λeu=>(ι eu θ (δ gp) aq).bind λfq=>(ι eu θ (p5 .i fq (η 0)) aq).bind λfY=>(i6 eu fY bw).bind λfJ=>(ι fJ θ (δ gm) aq).bind λgq=>(ι fJ θ (δ dU) aq).bind λiG=>(ι fJ θ (p6 (yx [gq,iG] iw.2) iw.2) aq).bind λjW=>(i6 fJ jW bw).bind λgD=>Ξ σ gD iw.2)))) ((ZY 0 5 c1).bind λfZ=>(uQ [fZ,a1,a3] r3.2).bind λiy=>(p4 0 iy.1).bind λgE=>(p4 1 iy.1).bind λlz=>(p4 2 iy.1).bind λjE=>(XQ .i jE (η 0)).bind λkH=>φ kH (Ξ σ bC iy.2) ((ZY 0 5 c1).bind λgR=>(tI [gR,a1,gE] iy.2).bind λqE=>(p4 0 qE.1).bind λlA=>(p4 1 qE.1).bind λjX=>(p5 .i jX (η 2)).bind λkI=>φ kI (Ξ σ bC qE.2) ((ZY 0 5 c1).bind λjF=>(uQ [jF,a1,lA] qE.2).bind λqF=>(p4 0 qF.1).bind λkU=>(p4 1 qF.1).bind λkV=>(p4 2 qF.1).bind λjG=>(p5 .i jX (η 0)).bind λiS=>(ι iS θ (δ jG) aq).bind λkJ=>(ι iS θ (p5 .i kJ (η 0)) aq).bind λgS=>(i6 iS gS bw).bind λmZ=>(ι mZ θ (δ kU) aq).bind λtE=>(ι mZ θ (δ gE) aq).bind λje=>(ι mZ θ (p6 (yx [tE,je] qF.2) qF.2) aq).bind λqL=>(i6 mZ qL bw).bind λqM=>Ξ σ qM qF.2)))
def Pf:au->Heap->aC:=ir θ [ru,.k,(.s 6)] .k (A.D0 IV)
end
section
open Go.RowKit
theorem jH.same{P:Program}{nm:List Nat}{f:FuncId}{args:au}{σ:Heap}{r:U}(hc:∀us w,(callFunc f us).run P w=.ok (.enter f us) w)
  (h:∀(c:RC)(vs:Array Value)(w:World),aF c args vs.toList->Calls P f vs w λe w'=>∃v,e=.returned v/\Below w.heap.size w w'/\∀c',an c' r v):jH P nm f args σ r σ:=by
 refine .inl ⟨f,hc,λz vs e1 e2 hh ha=>(h _ vs z.w ha).mono ?_⟩;rintro e w' ⟨v,k1,k2,k3⟩;have ho:Out z z.w z.E:=⟨rfl,rfl,rfl,bL _,λ_ _ _=>rfl,λi p hp=>.inr ⟨p,hp,rfl⟩,λi p hp=>⟨p,hp,.inl rfl⟩,e2,λp hp=>hh.lt hp⟩
 exact⟨v,z.E,k1,ho.grow k2,hh.mono (pe k2) rfl (λp hp=>k2.block _ (hh.lt hp)),k3 _⟩
theorem UF{c:RC}{a:U}{vs:Array Value}(h:aF c [a] vs.toList):∃v,vs=#[v]/\an c a v:=by simp only[aF]at h;obtain⟨v,vs',e,h1,e2⟩:=h;refine⟨v,?_,h1⟩;subst e2;cases vs;simp at e;simp [e]
theorem BA{c:RC}{a b:U}{vs:Array Value}(h:aF c [a,b] vs.toList):∃v u,vs=#[v,u]/\an c a v/\an c b u:=by simp only[aF]at h;obtain⟨v,vs',e,h1,u,vs2,e2,h2,e3⟩:=h;refine⟨v,u,?_,h1,h2⟩;subst e3;subst e2;cases vs;simp at e;simp [e]
theorem Py:Sound Tryz.prog aJ 139 FB:=by
 intro args σ r σ' h;unfold FB Yi at h;split at h
 ·simp only at h;split at h
  ·simp only[χ,Θ]at h;obtain⟨rfl,rfl⟩:=h;refine jH.same Tryz.call139 λc vs w hr=>?_
   obtain⟨v,u,rfl,h1,h2⟩:=BA hr;simp only[an]at h1 h2;subst h1 h2;refine(Tryz.strings_Compare _ _ w).mono ?_;rintro e w' ⟨rfl,rfl⟩;exact⟨_,rfl,Below.refl _ _,λc'=>by simp [an]⟩
  ·cases h
 ·cases h
end
section
open Go.RowKit Go.Sort
theorem jH.tab{P:Program}{nm:List Nat}{f:FuncId}{args:au}{σ:Heap}{r:U}(hc:∀us w,(callFunc f us).run P w=.ok (.enter f us) w)
  (h:∀(c:RC)(vs:Array Value)(w:World)(free:Nat->Prop),vK w free->aF c args vs.toList->Calls P f vs w λe w'=>∃v,e=.returned v/\Below w.heap.size w w'/\∀c',an c' r v):jH P nm f args σ r σ:=by
 refine .inl ⟨f,hc,λz vs e1 e2 hh ha=>(h _ vs z.w _ e2.tab ha).mono ?_⟩;rintro e w' ⟨v,k1,k2,k3⟩;have ho:Out z z.w z.E:=⟨rfl,rfl,rfl,bL _,λ_ _ _=>rfl,λi p hp=>.inr ⟨p,hp,rfl⟩,λi p hp=>⟨p,hp,.inl rfl⟩,e2,λp hp=>hh.lt hp⟩
 exact⟨v,z.E,k1,ho.grow k2,hh.mono (pe k2) rfl (λp hp=>k2.block _ (hh.lt hp)),k3 _⟩
theorem AF:Sound Tryz.prog aJ 50 pX:=by
 intro args σ r σ' h;unfold pX YF at h;split at h
 ·simp only at h;split at h
  ·split at h
   ·rename_i hb;simp only[χ,Θ]at h;obtain⟨rfl,rfl⟩:=h;refine jH.tab Tryz.call50 λc vs w free ht hr=>?_
    obtain⟨v,rfl,h1⟩:=UF hr;simp only[an]at h1;subst h1;refine(Tryz.strconv_Itoa _ hb.1 hb.2 w ht.pow).mono ?_;rintro e w' ⟨rfl,j,os,rfl⟩;exact⟨_,rfl,⟨rfl,rfl,rfl,by simp [grow,alE],λk hk=>by simp [grow,alE,Array.getElem?_append,hk]⟩,λc'=>by simp [an,lN]⟩
   ·cases h
  ·cases h
 ·cases h
end
section
open Go.RowKit
def Gr(w w':World):Prop:=Below w.heap.size w w'
theorem Gr.refl(w:World):Gr w w:=Below.refl _ _
theorem Gr.trans{a b c:World}(h:Gr a b)(k:Gr b c):Gr a c:=Below.trans h (Below.mono k (Below.size h))
theorem Gr.alloc{a b:World}(h:Gr a b)(o:Obj):Gr a (b.alloc o):=Below.alloc h (Below.size h) o
theorem Gr.drew{a b:World}(h:Gr a b):Gr a b.drew:=Below.drew h
theorem Gr.drewN{a b:World}(h:Gr a b)(n:Nat):Gr a (b.drewN n):=⟨h.os,h.tape,h.output,h.size,h.block⟩
theorem Gr.put{a b:World}{k o:Nat}(hp:a.heap.size<=k)(h:Gr a b)(u:Value):Gr a (b.setCell ⟨k,o,μ⟩ u):=Below.setCell h hp u
theorem Gr.after{a b c:World}(k:Gr b c)(h:Gr a b):Gr a c:=h.trans k
theorem Gr.cell{a b:World}(h:Gr a b){p:Addr}{v:Value}(hc:a.cell? p=δ v):b.cell? p=δ v:=by
 by_cases hp:p.block<a.heap.size
 ·rw[Below.cell h hp];exact hc
 ·have:a.heap[p.block]? =μ:=alk (by omega);simp [ZV,this]at hc
abbrev aiu(w:World)(b:Nat)(v0:Value):Prop:=(w.cell? ⟨b,0,μ⟩=δ v0)/\(w.frozen? ⟨b,0,μ⟩=ξ)/\b<w.heap.size
abbrev aiv(w:World)(b:Nat)(v0 v1:Value):Prop:=(w.cell? ⟨b,0,μ⟩=δ v0/\w.cell? ⟨b,1,μ⟩=δ v1)/\(w.frozen? ⟨b,0,μ⟩=ξ/\w.frozen? ⟨b,1,μ⟩=ξ)/\b<w.heap.size
abbrev aiw(w:World)(b:Nat)(v0 v1 v2:Value):Prop:=(w.cell? ⟨b,0,μ⟩=δ v0/\w.cell? ⟨b,1,μ⟩=δ v1/\w.cell? ⟨b,2,μ⟩=δ v2)/\(w.frozen? ⟨b,0,μ⟩=ξ/\w.frozen? ⟨b,1,μ⟩=ξ/\w.frozen? ⟨b,2,μ⟩=ξ)/\b<w.heap.size
abbrev aix(w:World)(b:Nat)(v0 v1 v2 v3:Value):Prop:=(w.cell? ⟨b,0,μ⟩=δ v0/\w.cell? ⟨b,1,μ⟩=δ v1/\w.cell? ⟨b,2,μ⟩=δ v2/\w.cell? ⟨b,3,μ⟩=δ v3)/\(w.frozen? ⟨b,0,μ⟩=ξ/\w.frozen? ⟨b,1,μ⟩=ξ/\w.frozen? ⟨b,2,μ⟩=ξ/\w.frozen? ⟨b,3,μ⟩=ξ)/\b<w.heap.size
abbrev aiy(w:World)(b:Nat)(v0 v1 v2 v3 v4:Value):Prop:=(w.cell? ⟨b,0,μ⟩=δ v0/\w.cell? ⟨b,1,μ⟩=δ v1/\w.cell? ⟨b,2,μ⟩=δ v2/\w.cell? ⟨b,3,μ⟩=δ v3/\w.cell? ⟨b,4,μ⟩=δ v4)/\(w.frozen? ⟨b,0,μ⟩=ξ/\w.frozen? ⟨b,1,μ⟩=ξ/\w.frozen? ⟨b,2,μ⟩=ξ/\w.frozen? ⟨b,3,μ⟩=ξ/\w.frozen? ⟨b,4,μ⟩=ξ)/\b<w.heap.size
abbrev aiz(w:World)(b:Nat)(v0 v1 v2 v3 v4 v5:Value):Prop:=(w.cell? ⟨b,0,μ⟩=δ v0/\w.cell? ⟨b,1,μ⟩=δ v1/\w.cell? ⟨b,2,μ⟩=δ v2/\w.cell? ⟨b,3,μ⟩=δ v3/\w.cell? ⟨b,4,μ⟩=δ v4/\w.cell? ⟨b,5,μ⟩=δ v5)/\(w.frozen? ⟨b,0,μ⟩=ξ/\w.frozen? ⟨b,1,μ⟩=ξ/\w.frozen? ⟨b,2,μ⟩=ξ/\w.frozen? ⟨b,3,μ⟩=ξ/\w.frozen? ⟨b,4,μ⟩=ξ/\w.frozen? ⟨b,5,μ⟩=ξ)/\b<w.heap.size
abbrev aiA(w:World)(b:Nat)(v0 v1 v2 v3 v4 v5 v6:Value):Prop:=(w.cell? ⟨b,0,μ⟩=δ v0/\w.cell? ⟨b,1,μ⟩=δ v1/\w.cell? ⟨b,2,μ⟩=δ v2/\w.cell? ⟨b,3,μ⟩=δ v3/\w.cell? ⟨b,4,μ⟩=δ v4/\w.cell? ⟨b,5,μ⟩=δ v5/\w.cell? ⟨b,6,μ⟩=δ v6)/\(w.frozen? ⟨b,0,μ⟩=ξ/\w.frozen? ⟨b,1,μ⟩=ξ/\w.frozen? ⟨b,2,μ⟩=ξ/\w.frozen? ⟨b,3,μ⟩=ξ/\w.frozen? ⟨b,4,μ⟩=ξ/\w.frozen? ⟨b,5,μ⟩=ξ/\w.frozen? ⟨b,6,μ⟩=ξ)/\b<w.heap.size
abbrev aiB(w:World)(b:Nat)(v0 v1 v2 v3 v4 v5 v6 v7:Value):Prop:=(w.cell? ⟨b,0,μ⟩=δ v0/\w.cell? ⟨b,1,μ⟩=δ v1/\w.cell? ⟨b,2,μ⟩=δ v2/\w.cell? ⟨b,3,μ⟩=δ v3/\w.cell? ⟨b,4,μ⟩=δ v4/\w.cell? ⟨b,5,μ⟩=δ v5/\w.cell? ⟨b,6,μ⟩=δ v6/\w.cell? ⟨b,7,μ⟩=δ v7)/\(w.frozen? ⟨b,0,μ⟩=ξ/\w.frozen? ⟨b,1,μ⟩=ξ/\w.frozen? ⟨b,2,μ⟩=ξ/\w.frozen? ⟨b,3,μ⟩=ξ/\w.frozen? ⟨b,4,μ⟩=ξ/\w.frozen? ⟨b,5,μ⟩=ξ/\w.frozen? ⟨b,6,μ⟩=ξ/\w.frozen? ⟨b,7,μ⟩=ξ)/\b<w.heap.size
abbrev aiC(w:World)(b:Nat)(v0 v1 v2 v3 v4 v5 v6 v7 v8:Value):Prop:=(w.cell? ⟨b,0,μ⟩=δ v0/\w.cell? ⟨b,1,μ⟩=δ v1/\w.cell? ⟨b,2,μ⟩=δ v2/\w.cell? ⟨b,3,μ⟩=δ v3/\w.cell? ⟨b,4,μ⟩=δ v4/\w.cell? ⟨b,5,μ⟩=δ v5/\w.cell? ⟨b,6,μ⟩=δ v6/\w.cell? ⟨b,7,μ⟩=δ v7/\w.cell? ⟨b,8,μ⟩=δ v8)/\(w.frozen? ⟨b,0,μ⟩=ξ/\w.frozen? ⟨b,1,μ⟩=ξ/\w.frozen? ⟨b,2,μ⟩=ξ/\w.frozen? ⟨b,3,μ⟩=ξ/\w.frozen? ⟨b,4,μ⟩=ξ/\w.frozen? ⟨b,5,μ⟩=ξ/\w.frozen? ⟨b,6,μ⟩=ξ/\w.frozen? ⟨b,7,μ⟩=ξ/\w.frozen? ⟨b,8,μ⟩=ξ)/\b<w.heap.size
abbrev aic(w:World)(b:Nat)(v0 v1 v2 v3 v4 v5 v6 v7 v8 v9:Value):Prop:=(w.cell? ⟨b,0,μ⟩=δ v0/\w.cell? ⟨b,1,μ⟩=δ v1/\w.cell? ⟨b,2,μ⟩=δ v2/\w.cell? ⟨b,3,μ⟩=δ v3/\w.cell? ⟨b,4,μ⟩=δ v4/\w.cell? ⟨b,5,μ⟩=δ v5/\w.cell? ⟨b,6,μ⟩=δ v6/\w.cell? ⟨b,7,μ⟩=δ v7/\w.cell? ⟨b,8,μ⟩=δ v8/\w.cell? ⟨b,9,μ⟩=δ v9)/\(w.frozen? ⟨b,0,μ⟩=ξ/\w.frozen? ⟨b,1,μ⟩=ξ/\w.frozen? ⟨b,2,μ⟩=ξ/\w.frozen? ⟨b,3,μ⟩=ξ/\w.frozen? ⟨b,4,μ⟩=ξ/\w.frozen? ⟨b,5,μ⟩=ξ/\w.frozen? ⟨b,6,μ⟩=ξ/\w.frozen? ⟨b,7,μ⟩=ξ/\w.frozen? ⟨b,8,μ⟩=ξ/\w.frozen? ⟨b,9,μ⟩=ξ)/\b<w.heap.size
abbrev aid(w:World)(b:Nat)(v0 v1 v2 v3 v4 v5 v6 v7 v8 v9 v10:Value):Prop:=(w.cell? ⟨b,0,μ⟩=δ v0/\w.cell? ⟨b,1,μ⟩=δ v1/\w.cell? ⟨b,2,μ⟩=δ v2/\w.cell? ⟨b,3,μ⟩=δ v3/\w.cell? ⟨b,4,μ⟩=δ v4/\w.cell? ⟨b,5,μ⟩=δ v5/\w.cell? ⟨b,6,μ⟩=δ v6/\w.cell? ⟨b,7,μ⟩=δ v7/\w.cell? ⟨b,8,μ⟩=δ v8/\w.cell? ⟨b,9,μ⟩=δ v9/\w.cell? ⟨b,10,μ⟩=δ v10)/\(w.frozen? ⟨b,0,μ⟩=ξ/\w.frozen? ⟨b,1,μ⟩=ξ/\w.frozen? ⟨b,2,μ⟩=ξ/\w.frozen? ⟨b,3,μ⟩=ξ/\w.frozen? ⟨b,4,μ⟩=ξ/\w.frozen? ⟨b,5,μ⟩=ξ/\w.frozen? ⟨b,6,μ⟩=ξ/\w.frozen? ⟨b,7,μ⟩=ξ/\w.frozen? ⟨b,8,μ⟩=ξ/\w.frozen? ⟨b,9,μ⟩=ξ/\w.frozen? ⟨b,10,μ⟩=ξ)/\b<w.heap.size
abbrev aie(w:World)(b:Nat)(v0 v1 v2 v3 v4 v5 v6 v7 v8 v9 v10 v11:Value):Prop:=(w.cell? ⟨b,0,μ⟩=δ v0/\w.cell? ⟨b,1,μ⟩=δ v1/\w.cell? ⟨b,2,μ⟩=δ v2/\w.cell? ⟨b,3,μ⟩=δ v3/\w.cell? ⟨b,4,μ⟩=δ v4/\w.cell? ⟨b,5,μ⟩=δ v5/\w.cell? ⟨b,6,μ⟩=δ v6/\w.cell? ⟨b,7,μ⟩=δ v7/\w.cell? ⟨b,8,μ⟩=δ v8/\w.cell? ⟨b,9,μ⟩=δ v9/\w.cell? ⟨b,10,μ⟩=δ v10/\w.cell? ⟨b,11,μ⟩=δ v11)/\(w.frozen? ⟨b,0,μ⟩=ξ/\w.frozen? ⟨b,1,μ⟩=ξ/\w.frozen? ⟨b,2,μ⟩=ξ/\w.frozen? ⟨b,3,μ⟩=ξ/\w.frozen? ⟨b,4,μ⟩=ξ/\w.frozen? ⟨b,5,μ⟩=ξ/\w.frozen? ⟨b,6,μ⟩=ξ/\w.frozen? ⟨b,7,μ⟩=ξ/\w.frozen? ⟨b,8,μ⟩=ξ/\w.frozen? ⟨b,9,μ⟩=ξ/\w.frozen? ⟨b,10,μ⟩=ξ/\w.frozen? ⟨b,11,μ⟩=ξ)/\b<w.heap.size
abbrev aif(w:World)(b:Nat)(v0 v1 v2 v3 v4 v5 v6 v7 v8 v9 v10 v11 v12:Value):Prop:=(w.cell? ⟨b,0,μ⟩=δ v0/\w.cell? ⟨b,1,μ⟩=δ v1/\w.cell? ⟨b,2,μ⟩=δ v2/\w.cell? ⟨b,3,μ⟩=δ v3/\w.cell? ⟨b,4,μ⟩=δ v4/\w.cell? ⟨b,5,μ⟩=δ v5/\w.cell? ⟨b,6,μ⟩=δ v6/\w.cell? ⟨b,7,μ⟩=δ v7/\w.cell? ⟨b,8,μ⟩=δ v8/\w.cell? ⟨b,9,μ⟩=δ v9/\w.cell? ⟨b,10,μ⟩=δ v10/\w.cell? ⟨b,11,μ⟩=δ v11/\w.cell? ⟨b,12,μ⟩=δ v12)/\(w.frozen? ⟨b,0,μ⟩=ξ/\w.frozen? ⟨b,1,μ⟩=ξ/\w.frozen? ⟨b,2,μ⟩=ξ/\w.frozen? ⟨b,3,μ⟩=ξ/\w.frozen? ⟨b,4,μ⟩=ξ/\w.frozen? ⟨b,5,μ⟩=ξ/\w.frozen? ⟨b,6,μ⟩=ξ/\w.frozen? ⟨b,7,μ⟩=ξ/\w.frozen? ⟨b,8,μ⟩=ξ/\w.frozen? ⟨b,9,μ⟩=ξ/\w.frozen? ⟨b,10,μ⟩=ξ/\w.frozen? ⟨b,11,μ⟩=ξ/\w.frozen? ⟨b,12,μ⟩=ξ)/\b<w.heap.size
abbrev aih(w:World)(b:Nat)(v0 v1 v2 v3 v4 v5 v6 v7 v8 v9 v10 v11 v12 v13:Value):Prop:=(w.cell? ⟨b,0,μ⟩=δ v0/\w.cell? ⟨b,1,μ⟩=δ v1/\w.cell? ⟨b,2,μ⟩=δ v2/\w.cell? ⟨b,3,μ⟩=δ v3/\w.cell? ⟨b,4,μ⟩=δ v4/\w.cell? ⟨b,5,μ⟩=δ v5/\w.cell? ⟨b,6,μ⟩=δ v6/\w.cell? ⟨b,7,μ⟩=δ v7/\w.cell? ⟨b,8,μ⟩=δ v8/\w.cell? ⟨b,9,μ⟩=δ v9/\w.cell? ⟨b,10,μ⟩=δ v10/\w.cell? ⟨b,11,μ⟩=δ v11/\w.cell? ⟨b,12,μ⟩=δ v12/\w.cell? ⟨b,13,μ⟩=δ v13)/\(w.frozen? ⟨b,0,μ⟩=ξ/\w.frozen? ⟨b,1,μ⟩=ξ/\w.frozen? ⟨b,2,μ⟩=ξ/\w.frozen? ⟨b,3,μ⟩=ξ/\w.frozen? ⟨b,4,μ⟩=ξ/\w.frozen? ⟨b,5,μ⟩=ξ/\w.frozen? ⟨b,6,μ⟩=ξ/\w.frozen? ⟨b,7,μ⟩=ξ/\w.frozen? ⟨b,8,μ⟩=ξ/\w.frozen? ⟨b,9,μ⟩=ξ/\w.frozen? ⟨b,10,μ⟩=ξ/\w.frozen? ⟨b,11,μ⟩=ξ/\w.frozen? ⟨b,12,μ⟩=ξ/\w.frozen? ⟨b,13,μ⟩=ξ)/\b<w.heap.size
end
section
open Go.RowKit Go.Sort
def vL:List UInt8:=[48,49,50,51,52,53,54,55,56,57]
theorem adW:∀n:Fin 256,vL.contains (ak0 n.val)=iO (ak0 n.val):=by decide+kernel
theorem VG(b:UInt8):vL.contains b=iO b:=by have:=adW ⟨b.toNat,b.toNat_lt⟩;simpa using this
theorem drop_nil{p:UInt8->Bool}:∀l:List UInt8,l.dropWhile p=[]↔l.all p=θ
 |[]=>by simp
 |x::l=>by
  rw[List.dropWhile_cons];cases h:p x
  ·simp [h]
  ·simp [h,drop_nil l]
theorem adS(l:List UInt8):(amj l vL).isEmpty=l.all iO:=by
 have hp:(λb=>vL.contains b)=iO:=funext VG;unfold amj Lib.trimLeftS Lib.trimRightS;rw[show(λx=>vL.contains x)=iO from hp];rw[iX,List.isEmpty_iff,drop_nil];constructor
 ·intro h;rw[alv]at h;cases hd:l.reverse.dropWhile iO with
  |nil=>rw[drop_nil,alv]at hd;exact hd
  |cons y r=>
   have hy:iO y=ξ:=by have:=List.head?_dropWhile_not iO l.reverse;rw[hd]at this;simpa using this
   rw[hd]at h;simp [hy]at h
 ·intro h;have:l.reverse.dropWhile iO=[]:=by rw[drop_nil,alv];exact h
  rw[this];rfl
theorem Qr(s:ByteArray)(hs:s.size<=9223372036854775807)(w:World):
  Calls Tryz.prog 58 #[.string s] w λe w'=>e=.returned (.bool (jj s))/\Gr w w':=by
 have U2:=λW=>Tryz.strings_Trim s ⟨#[48,49,50,51,52,53,54,55,56,57]⟩ W hs (by decide) (by
  intro j c h;have:c∈vL:=cZ h;have h2:vL.contains c=θ:=by simpa using this
  rw[VG]at h2;have:=of_decide_eq_true h2
  omega)
 obtain⟨r,hr⟩:∃r,r=(⟨(amj s.data.toList vL).toArray⟩:ByteArray):=⟨_,rfl⟩
 have Us:∀W,Calls Tryz.prog 104 #[.string s,.string ⟨#[48,49,50,51,52,53,54,55,56,57]⟩] W λe w'=>e=.returned (.string r)/\Gr W w':=λW=>by rw[hr];exact U2 W
 clear U2;have HC:=ZL Us;clear Us
 have hre:(r.toList==[])=(lZ s).all iO:=by rw[hr,alb,<-adS];cases amj s.data.toList vL<;>rfl
 clear hr;unfold jj
 have hse:(s.toList==[])=(lZ s).isEmpty:=by rw[alb];unfold lZ;cases s.data.toList<;>rfl
 generalize (lZ s).all iO=q at *
 generalize (lZ s).isEmpty=u at *
 go_enter Tryz.func58,Tryz.ntmps58
 go_wp2_with (go_at_call 104;refine(HC.out _).mono ?_;rintro e w' ⟨rfl,hb⟩)
 ·rename_i hu;rw[hu]
  go_ret
  exact⟨rfl,(by repeat (first|exact Gr.refl _|assumption|refine Gr.alloc ?_ _|refine Gr.drew ?_|refine Gr.drewN ?_ _|(refine Gr.put ?_ ?_ _;first|exact bL _|(simp;done)|omega)|(apply Gr.after;assumption)))⟩
 ·rename_i hu;rw[Bool.eq_false_iff.2 hu]
  go_ret
  exact⟨rfl,hb⟩
theorem SF:∀(l:List UInt8)(acc:Nat),l.all iO=θ->∃m,Lib.decFrom acc l=δ m
 |[],acc,_=>⟨acc,rfl⟩
 |b::r,acc,h=>by rw[Z4,dr]at h;have hb:=of_decide_eq_true h.1;rw[Lib.decFrom,show Lib.digitVal b=δ (b.toNat-48)from aE hb];exact SF r _ h.2
theorem ac8{s:ByteArray}(h:jj s=θ):Lib.atoi s.data.toList=δ ((alX (lZ s)).getD 0:Nat):=by
 unfold jj at h;rw[dr,p9]at h;show Lib.atoi (lZ s)=_;cases hl:lZ s with
 |nil=>rw[hl]at h;cases h.1
 |cons b r=>
  rw[hl]at h;obtain⟨m,hm⟩:=SF (b::r) 0 h.2;rw[Z4,dr]at h;have hb:=of_decide_eq_true h.2.1;have h45:(b==45)=ξ:=by rw[beq_eq_false_iff_ne];rintro rfl;exact absurd hb.1 (by decide)
  have h43:(b==43)=ξ:=by rw[beq_eq_false_iff_ne];rintro rfl;exact absurd hb.1 (by decide)
  have hd:alX (b::r)=δ m:=by unfold alX;exact hm
  rw[Lib.atoi,h45,h43,hd];rfl
theorem R8{s:ByteArray}(h:0<s.size):(lZ s).head? =δ s[0]:=by rw[List.head?_eq_getElem?,bT (by exact h)];rfl
theorem ajG(s:ByteArray)(n:Int)(hs:s.size<=9223372036854775807)(hn:n<=18)(w:World):
  Calls Tryz.prog 108 #[.string s,.int ε n] w λe w'=>e=.returned (.tuple #[.int ε (lS s n).1,.bool (lS s n).2])/\Gr w w':=by
 have HD:=ZL (Qr s hs);obtain⟨r,hr⟩:∃r,r=lS s n:=⟨_,rfl⟩
 rw[<-hr];have HR:=ZL hr;clear hr;cases hd:jj s with
 |false=>
  have h1:=HR.out;unfold lS at h1;rw[aE (.inl hd)]at h1;subst h1;clear HR;rw[hd]at HD
  go_enter Tryz.func108,Tryz.ntmps108
  go_wp2_with (go_at_call 58;refine(HD.out _).mono ?_;rintro e w' ⟨rfl,hb⟩)
  exact bodyPost_ret (v:=.tuple #[.int ε 0,.bool ξ]) (by simp [results,Tryz.results108,go_sem]) rfl ⟨rfl,hb⟩
 |true=>
  rw[hd]at HD;by_cases h1:n<(s.size:Int)
  ·have h2:=HR.out;unfold lS at h2;rw[aE (.inr (.inl h1))]at h2;subst h2;clear HR
   go_enter Tryz.func108,Tryz.ntmps108
   go_wp2_with (go_at_call 58;refine(HD.out _).mono ?_;rintro e w' ⟨rfl,hb⟩)
   exact bodyPost_ret (v:=.tuple #[.int ε 0,.bool ξ]) (by simp [results,Tryz.results108,go_sem]) rfl ⟨rfl,hb⟩
  ·by_cases h2:1<s.size/\(lZ s).head? =δ 48
   ·have h3:=HR.out;unfold lS at h3;rw[aE (.inr (.inr h2))]at h3;subst h3;clear HR;obtain⟨h2,h4⟩:=h2
    go_enter Tryz.func108,Tryz.ntmps108
    go_wp2_with (go_at_call 58;refine(HD.out _).mono ?_;rintro e w' ⟨rfl,hb⟩)
    all_goals first
     |exact bodyPost_ret (v:=.tuple #[.int ε 0,.bool ξ]) (by simp [results,Tryz.results108,go_sem]) rfl ⟨rfl,hb⟩
     |(exfalso;rename_i q0 q _ _ _ _;have h5:=(R8 q0).symm.trans h4;have h6:s[0].toNat=48:=(by injection h5 with h5;rw[h5];rfl);have h7:=q.2;rw[h6]at h7;exact absurd h7 (by decide))
   ·have h3:=HR.out;unfold lS at h3;have h0:¬jj s=ξ:=λq=>by rw[hd]at q;cases q
    rw[aD (λq=>q.elim h0 (λq=>q.elim h1 h2))]at h3;subst h3;clear HR
    have hA:∀W:World,Calls Tryz.prog 156 #[.string s] W λe w'=>e=.returned (.tuple #[.int ε ((alX (lZ s)).getD 0:Nat),.nilIface])/\Gr W w':=λW=>
     (Tryz.strconv_Atoi s _ (by omega) (ac8 hd) W).mono λe w'⟨h,t,hw⟩=>⟨h,by rw[hw];exact Go.Joins.below_bytesWorld _ _ _ _ (bL _)⟩
    generalize ((alX (lZ s)).getD 0:Nat)=m at *
    have HA:=ZL hA;clear hA
    go_enter Tryz.func108,Tryz.ntmps108
    go_wp2_with (first
     |(go_at_call 58;refine(HD.out _).mono ?_;rintro e w' ⟨rfl,hb⟩)
     |(go_at_call 156;refine(HA.out _).mono ?_;rintro e w2 ⟨rfl,yc⟩))
    ·exfalso;rename_i q0 q;rcases q with q|q
     ·omega
     ·refine h2 ⟨by omega,?_⟩;rw[R8 q0];have h6:(s[0].toNat:Int)=48:=by simpa using q
      congr 1;exact UInt8.toNat_inj.1 (by show s[0].toNat=48;omega)
    all_goals
     go_quiet (fail)
     go_wp2
     exact bodyPost_ret (v:=.tuple #[.int ε (m:Int),.bool θ]) (by simp [results,Tryz.results108,go_sem]) rfl ⟨rfl,(by repeat (first|exact Gr.refl _|assumption|refine Gr.alloc ?_ _|refine Gr.drew ?_|refine Gr.drewN ?_ _|(refine Gr.put ?_ ?_ _;first|exact bL _|(simp;done)|omega)|(apply Gr.after;assumption)))⟩
end
section
open Go.RowKit Go.Sort
theorem acT(w:World)(n:Nat):Below w.heap.size w (w.drewN n):=⟨rfl,rfl,rfl,by simp [alE],λk hk=>by simp [alE]⟩
theorem Ke:Sound Tryz.prog aJ 109 yF:=by
 intro args σ r σ' h;unfold yF Yi at h;split at h
 ·simp only at h;split at h
  ·split at h
   ·rename_i hb;simp only[χ,Θ]at h;obtain⟨rfl,rfl⟩:=h;refine jH.tab Tryz.call109 λc vs w free ht hr=>?_
    obtain⟨v,u,rfl,h1,h2⟩:=BA hr;simp only[an]at h1 h2;subst h1 h2;obtain⟨m,hm⟩:=ht.2.1;refine(Tryz.strings_Cut _ _ m w hb hm).mono ?_;rintro e w' ⟨rfl,n,rfl⟩;exact⟨_,rfl,acT w n,λc'=>by simp [an,aF,ji,bZ,lZ]⟩
   ·cases h
  ·cases h
 ·cases h
theorem XP:Sound Tryz.prog aJ 111 Fw:=by
 intro args σ r σ' h;unfold Fw Yi at h;split at h
 ·simp only at h;split at h
  ·split at h
   ·rename_i hb;simp only[χ,Θ]at h;obtain⟨rfl,rfl⟩:=h;refine jH.tab Tryz.call111 λc vs w free ht hr=>?_
    obtain⟨v,u,rfl,h1,h2⟩:=BA hr;simp only[an]at h1 h2;subst h1 h2;obtain⟨m,hm⟩:=ht.2.1;refine(Tryz.strings_Contains _ _ m w hb hm).mono ?_;rintro e w' ⟨rfl,rfl⟩;exact⟨_,rfl,Below.refl _ _,λc'=>by simp [an]⟩
   ·cases h
  ·cases h
 ·cases h
theorem Pp:Sound Tryz.prog aJ 133 Au:=by
 intro args σ r σ' h;unfold Au Yi at h;split at h
 ·simp only at h;split at h
  ·split at h
   ·rename_i hb;simp only[χ,Θ]at h;obtain⟨rfl,rfl⟩:=h;refine jH.tab Tryz.call133 λc vs w free ht hr=>?_
    obtain⟨v,u,rfl,h1,h2⟩:=BA hr;simp only[an]at h1 h2;subst h1 h2;refine(Tryz.strings_TrimRight_one _ _ hb.1 w hb.2).mono ?_;rintro e w' ⟨rfl,rfl⟩;exact⟨_,rfl,Below.refl _ _,λc'=>by simp [an,bZ,lZ]⟩
   ·cases h
  ·cases h
 ·cases h
theorem QJ{c:RC}{b:Nat}:∀(l:List ByteArray)(off:Nat),(∀k(h:k<l.length),c.w.cell? ⟨b,off+k,μ⟩=δ (.string l[k]))->aY c 1 b off (l.map jh)
 |[],off,h=>by simp [aY]
 |x::l,off,h=>by
  simp only[fH,aY];refine⟨rfl,?_,QJ l (off+1) λk hk=>?_⟩
  ·unfold jh;simp only[aT];exact⟨⟨_,h 0 (by simp),rfl,by simp [an]⟩,trivial⟩
  ·have:=h (k+1) (by simp;omega);rw[show off+1+k=off+(k+1) by omega];simpa using this
theorem PE:Sound Tryz.prog aJ 23 Cl:=by
 intro args σ r σ' h;unfold Cl Yi at h;split at h
 ·simp only at h;split at h
  ·split at h
   ·rename_i s p hb;simp only[χ,Θ]at h;obtain⟨rfl,rfl⟩:=h;refine .inl ⟨23,Tryz.call23,λz vs e1 e2 hh ha=>?_⟩;obtain⟨v,u,rfl,h1,h2⟩:=BA ha;simp only[an]at h1 h2;subst h1 h2;obtain⟨m,hm⟩:=e2.tab.2.1;refine(Tryz.strings_Split s p m z.w hb.1 hm hb.2).mono ?_;rintro e w' ⟨rfl,rfl⟩;have Ek:Below z.w.heap.size z.w (z.w.alloc (.cells ((Lib.splitB p 0 (Lib.countB s p) s).map Value.string).toArray 9)):=(Below.refl _ _).alloc (bL _) _;have hout:Out z z.w z.E:=⟨rfl,rfl,rfl,bL _,λ_ _ _=>rfl,λi p hp=>.inr ⟨p,hp,rfl⟩,λi p hp=>⟨p,hp,.inl rfl⟩,e2,λp hp=>hh.lt hp⟩
    refine⟨_,z.E,rfl,hout.grow Ek,hh.mono (pe Ek) rfl (λp hp=>Ek.block _ (hh.lt hp)),?_⟩;have hlen:(jt s p).length=Lib.countB s p+1:=Lib.splitB_all p hb.2 0 _ s rfl;simp only[sl,an,Yo];refine⟨δ ⟨z.w.heap.size,0,μ⟩,Lib.countB s p+1,by rw[hlen],by rw[hlen];exact bL _,by decide,.inr ⟨z.w.heap.size,0,rfl,?_,?_,?_⟩⟩
    ·show z.w.heap.size<(z.w.heap.push _).size;rw[Array.size_push];omega
    ·rintro(q|⟨p,hp,q⟩|⟨i,q⟩)
     ·have:=e2 _ q;omega
     ·have:=hh.lt (p:=p) hp;simp only[ctx]at this;omega
     ·cases q
    ·refine QJ _ 0 λk hk=>?_
     simp only[ctx,ZV,World.alloc];simp [jt]at hk ⊢
   ·cases h
  ·cases h
 ·cases h
theorem FL:Sound Tryz.prog aJ 58 yG:=by
 intro args σ r σ' h;unfold yG YF at h;split at h
 ·simp only at h;split at h
  ·split at h
   ·rename_i hb;simp only[χ,Θ]at h;obtain⟨rfl,rfl⟩:=h;refine jH.tab Tryz.call58 λc vs w free ht hr=>?_
    obtain⟨v,rfl,h1⟩:=UF hr;simp only[an]at h1;subst h1;refine(Qr _ hb w).mono ?_;rintro e w' ⟨rfl,hg⟩;exact⟨_,rfl,hg,λc'=>by simp [an]⟩
   ·cases h
  ·cases h
 ·cases h
theorem JQ:Sound Tryz.prog aJ 108 AB:=by
 intro args σ r σ' h;unfold AB Yi at h;split at h
 ·simp only at h;split at h
  ·split at h
   ·rename_i hb;simp only[χ,Θ]at h;obtain⟨rfl,rfl⟩:=h;refine jH.tab Tryz.call108 λc vs w free ht hr=>?_
    obtain⟨v,u,rfl,h1,h2⟩:=BA hr;simp only[an]at h1 h2;subst h1 h2;refine(ajG _ _ hb.1 hb.2 w).mono ?_;rintro e w' ⟨rfl,hg⟩;exact⟨_,rfl,hg,λc'=>by simp [an,aF]⟩
   ·cases h
  ·cases h
 ·cases h
end
section
theorem abm:Sound Tryz.prog aJ 208 Le:=q1 [] 35 (.s .n (.s (.s .n (.b (.l [2,7] [.exit 0,.ret] (.s .n (.s eZ (.s (.b (.s .n (.s .n aW))) .n)))))) aR)) l9 Tryz.func208 Tryz.call208 (λa0 σ=>by kernel_rfl) rfl rfl
theorem K5:Sound Tryz.prog aJ 179 AO:=q1 [] 20 (.s .n aR) (Δ abm l9) Tryz.func179 Tryz.call179 (λa0 σ=>by kernel_rfl) rfl rfl
theorem ng:Sound Tryz.prog aJ 34 fQ:=q3 [] 15 (.s .n aR) l9 Tryz.func34 Tryz.call34 (λa0 a1 a2 σ=>by kernel_rfl) rfl rfl
theorem Pv:Sound Tryz.prog aJ 205 Ch:=q1 [] 5 (.s .n aR) (Δ ng l9) Tryz.func205 Tryz.call205 (λa0 σ=>by kernel_rfl) rfl rfl
theorem akr:Sound Tryz.prog aJ 206 I5:=q1 [5] 63 (.s .n (.s aW (.s .n (.s (.s .n (.b (.l [2,12] [.exit 0,.ret] (.s .n (.s eZ (.s (.b (.s .n (.s (.b (.s .n (.j aR (.s .n (.j aR (.s .n (.j aR aW))))))) .n))) .n)))))) aR)))) (Δ Pv (Δ K5 l9)) Tryz.func206 Tryz.call206 (λa0 σ=>by kernel_rfl) rfl rfl
theorem Xp:Sound Tryz.prog aJ 175 I0:=q1 [1,6] 115 (.s .n (.s (.b (.s .n (.j aR (.s .n (.j aR (.s .n (.j aR aW))))))) (.s .n (.s (.s .n (.b (.l [1,2,33] [.exit 1,.ret] (.s .n (.s eZ (.s (.b (.s .n (.s (.b (.s .n (.j aR (.s .n (.j aR (.s .n (.j aR (.s .n (.j aR aW))))))))) (.s (.s .n aW) (.s .n (.s .n (.c [1] .n .n))))))) .n)))))) aR)))) (Δ K5 (Δ ng (Δ Pv (Δ akr l9)))) Tryz.func175 Tryz.call175 (λa0 σ=>by kernel_rfl) rfl rfl
theorem akA:Sound Tryz.prog aJ 134 IZ:=q1 [5] 30 (.s .n (.s aW (.s .n (.s (.s .n (.b (.l [2,13] [.exit 0,.ret] (.s .n (.s eZ (.s (.b (.s .n (.s (.s .n aW) (.s aW .n)))) .n)))))) aR)))) (Δ Xp l9) Tryz.func134 Tryz.call134 (λa0 σ=>by kernel_rfl) rfl rfl
def W6 (dyn:Nat->au->Heap->aC):Fx:=⟨Tryz.prog,aJ,Y1 (λ_ _=>μ) [],dyn,[],[],19,[]⟩
theorem ajO(dyn:Nat->au->Heap->aC)(hd:∀f,Sound Tryz.prog aJ f (dyn (aJ.getD f 0))):Sound Tryz.prog aJ 176 (ir θ [(.s 3)] .k (Yi (Fg dyn))):=
 XD (akT (X:=W6 dyn) (fn:=Tryz.f176) (ck:=(.s .n (.s (.s .n (.b (.l [4,8] [.exit 0,.ret] (.s .n (.s eZ (.s (.b (.s .n aW)) .n)))))) aR))) .F trivial (akS rfl l9 (hd)) Tryz.func176 Tryz.call176 (λa0 a1 σ=>by kernel_rfl)) _ _ _ rfl rfl
theorem ajy(dyn:Nat->au->Heap->aC)(hd:∀f,Sound Tryz.prog aJ f (dyn (aJ.getD f 0))):Sound Tryz.prog aJ 176 (Ff dyn):=ajO dyn hd
theorem Pj:Sound Tryz.prog aJ 177 Ce:=q2 [2] 8 (.s .n aR) l9 Tryz.func177 Tryz.call177 (λa0 a1 σ=>by kernel_rfl) rfl rfl
def XV:Fx:=⟨Tryz.prog,aJ,Y1 (λ_ _=>μ) [(176,Ff (Y1 (λ_ _=>μ) [(64,Ce)]))],(Y1 (λ_ _=>μ) [(64,Ce)]),[4],[],17,[]⟩
theorem aj3:Sound Tryz.prog aJ 135 (ir θ [(.s 3)] Ia (Yi (FC))):=
 XD (akT (X:=XV) (fn:=Tryz.f135) (ck:=(.s .n (.s .n (.s aW aR)))) .F trivial (akS rfl (Δ (ajy _ (xq (ak4 (xe Pj (by kernel_rfl) rfl) alw))) l9) (xq (ak4 (xe Pj (by kernel_rfl) rfl) alw))) Tryz.func135 Tryz.call135 (λa0 a1 σ=>by kernel_rfl)) _ _ _ rfl rfl
theorem Pw:Sound Tryz.prog aJ 135 FA:=aj3
theorem aj2:Sound Tryz.prog aJ 136 Ar:=q3 [] 32 (.s .n (.s aW (.s (.s .n (.b (.l [6,7] [.exit 0,.ret] (.s (.s .n eZ) (.s (.b aW) .n))))) aR))) l9 Tryz.func136 Tryz.call136 (λa0 a1 a2 σ=>by kernel_rfl) rfl rfl
def YM:Fx:=⟨Tryz.prog,aJ,Y1 (λ_ _=>μ) [],(λ_ _ _=>μ),[4],[15],33,[]⟩
theorem YL:Sound Tryz.prog aJ 137 (ir ξ [] .k (A.oS (Cp))):=
 XD (Sound.NT (X:=YM) (fn:=Tryz.f137) (ck:=(.s .n (.s (.s .n (.c [4] .n .n)) (.s .n (.b (.l [4,6] [.exit 0] (.s (.s .n eZ) (.s (.b .n) .n)))))))) .K trivial (akS rfl l9 (λ_=>Xr)) Tryz.func137 Tryz.call137 (λa0 a1 a2 σ=>by kernel_rfl)) _ _ _ rfl rfl
theorem aj7:Sound Tryz.prog aJ 137 FG:=YL
theorem Pr:Sound Tryz.prog aJ 91 Fq:=q1 [1,6,7] 91 (.s .n (.s (.s .n aW) (.s aW (.s .n (.s (.s .n (.b (.l [1,2,23] [.exit 0,.ret] (.s .n (.s eZ (.s (.b (.s .n (.s aW (.s aW (.s .n (.s aW (.s aW (.s aW .n)))))))) .n)))))) aR))))) (Δ akA (Δ ng (Δ Pw (Δ aj2 (Δ aj7 l9))))) Tryz.func91 Tryz.call91 (λa0 σ=>by kernel_rfl) rfl rfl
theorem uY:Sound Tryz.prog aJ 21 nh:=q2 [] 7 (.s .n (.s aW aR)) l9 Tryz.func21 Tryz.call21 (λa0 a1 σ=>by kernel_rfl) rfl rfl
theorem Cw:Sound Tryz.prog aJ 18 tK:=q1 [] 15 (.s .n (.s (.s .n (.b (.l [2,7] [.exit 0,.ret] (.s .n (.s eZ (.s (.b (.s .n aW)) .n)))))) aR)) l9 Tryz.func18 Tryz.call18 (λa0 σ=>by kernel_rfl) rfl rfl
theorem PG:Sound Tryz.prog aJ 97 FF:=q1 [1,7,8,11] 50 (.s .n (.s (.s .n aW) (.s .n (.s (.s .n (.b (.l [1,5,20] [.exit 0] (.s .n (.s eZ (.s (.b (.s .n (.s .n (.s .n (.b (.l [1,5,7,35] [.exit 2] (.s .n (.s eZ (.s (.b aR) .n))))))))) .n)))))) aR)))) (Δ Pr (Δ Pw l9)) Tryz.func97 Tryz.call97 (λa0 σ=>by kernel_rfl) rfl rfl
theorem aau:Sound Tryz.prog aJ 92 KN:=q1 [1,7] 24 (.s .n (.s .n (.s .n (.s (.s .n (.b (.l [16] [.exit 0] (.s .n (.s eZ (.s (.b aR) .n)))))) aR)))) (Δ PG l9) Tryz.func92 Tryz.call92 (λa0 σ=>by kernel_rfl) rfl rfl
theorem P4:Sound Tryz.prog aJ 138 FR:=q1 [] 40 (.s .n (.s (.s .n (.b (.l [2,6] [.exit 0,.ret] (.s .n (.s eZ (.s (.b (.s .n aW)) .n)))))) aR)) l9 Tryz.func138 Tryz.call138 (λa0 σ=>by kernel_rfl) rfl rfl
theorem ZO:Sound Tryz.prog aJ 93 Kl:=q1 [] 9 (.s .n aR) (Δ P4 l9) Tryz.func93 Tryz.call93 (λa0 σ=>by kernel_rfl) rfl rfl
theorem PI:Sound Tryz.prog aJ 94 FH:=q1 [] 5 (.s .n aR) (Δ ng l9) Tryz.func94 Tryz.call94 (λa0 σ=>by kernel_rfl) rfl rfl
theorem Y8:Sound Tryz.prog aJ 95 J4:=q2 [2,3] 21 (.s .n (.s aW aR)) (Δ Py l9) Tryz.func95 Tryz.call95 (λa0 a1 σ=>by kernel_rfl) rfl rfl
theorem Pn:Sound Tryz.prog aJ 53 Fo:=q2 [2,8,10] 97 (.s .n (.s (.s .n aW) (.s .n (.s (.s .n (.b (.l [4,26] [.exit 0,.ret] (.s .n (.s eZ (.s (.b (.s .n (.s (.b (.s .n (.j aR (.s .n (.j aR (.s .n (.j aR aW))))))) (.s .n (.b (.l [4,8,63] [.exit 3,.ret] (.s .n (.s eZ (.s (.b (.s .n (.b (.s .n (.j aR (.s .n (.j aR aW))))))) .n))))))))) .n)))))) aR)))) (Δ Pr (Δ uY (Δ Cw (Δ aau (Δ ng (Δ ZO (Δ PI (Δ Y8 l9)))))))) Tryz.func53 Tryz.call53 (λa0 a1 σ=>by kernel_rfl) rfl rfl
theorem PZ:Sound Tryz.prog aJ 140 wU:=q1 [] 5 (.s .n aR) (Δ ng l9) Tryz.func140 Tryz.call140 (λa0 σ=>by kernel_rfl) rfl rfl
theorem XJ:Sound Tryz.prog aJ 141 Ji:=q1 [1,5] 90 (.s .n (.s aW (.s .n (.s aW (.s aW (.s aW (.s (.s .n (.b (.l [2,28] [.exit 0,.ret] (.s .n (.s eZ (.s (.b (.s .n aW)) .n)))))) (.s aW (.s (.s .n (.b (.l [2,6] [.exit 2,.ret] (.s (.s .n eZ) (.s (.b aW) .n))))) aR))))))))) (Δ ng (Δ uY l9)) Tryz.func141 Tryz.call141 (λa0 σ=>by kernel_rfl) rfl rfl
theorem Y7:Sound Tryz.prog aJ 180 J3:=q2 [2,3] 20 (.s .n (.s (.s .n (.j (.s aW aR) .n)) aR)) (Δ Py l9) Tryz.func180 Tryz.call180 (λa0 a1 σ=>by kernel_rfl) rfl rfl
theorem X4:Sound Tryz.prog aJ 142 Jw:=q1 [4] 99 (.s .n (.s (.s .n (.b (.l [2,7] [.exit 0,.ret] (.s .n (.s eZ (.s (.b (.s .n (.b (.s .n (.j aR (.s .n (.j aR (.s .n (.j aR (.s .n (.j aR (.s .n (.j aR (.s .n (.j aR aW))))))))))))))) .n)))))) aR)) (Δ ng (Δ K5 (Δ PZ (Δ Y7 l9)))) Tryz.func142 Tryz.call142 (λa0 σ=>by kernel_rfl) rfl rfl
theorem abl:Sound Tryz.prog aJ 96 Ld:=q1 [5] 101 (.s .n (.s aW (.s .n (.s (.s .n (.b (.l [2,3,13] [.exit 0,.ret] (.s .n (.s eZ (.s (.b (.s .n (.s (.b (.s .n (.j aR (.s .n (.j aR (.s .n (.j aR aW))))))) (.s (.s .n aW) (.s aW (.s (.s .n aW) .n)))))) .n)))))) aR)))) (Δ ng (Δ P4 (Δ PZ (Δ XJ (Δ X4 (Δ uY l9)))))) Tryz.func96 Tryz.call96 (λa0 σ=>by kernel_rfl) rfl rfl
theorem ZN:Sound Tryz.prog aJ 98 Kk:=q3 [4,5,9,11] 55 (.s .n (.s aW (.s aW (.s aW (.s (.s .n (.b (.l [4,5,6,7,31] [.exit 0,.ret] (.s .n (.s eZ (.s (.b (.s .n (.s (.s .n eZ) (.s (.s .n (.b (.l [4,6,7,43] [.exit 2,.ret] (.s .n (.s eZ (.s (.b (.s .n aW)) .n)))))) .n)))) .n)))))) aR))))) (Δ PI l9) Tryz.func98 Tryz.call98 (λa0 a1 a2 σ=>by kernel_rfl) rfl rfl
theorem ajE:Sound Tryz.prog aJ 54 JH:=q3 [3,12,14,16] 76 (.s .n (.s (.s .n aW) (.s .n (.s .n (.s (.s .n (.b (.l [37] [.exit 0] (.s .n (.s eZ (.s (.b aR) .n)))))) (.s (.s .n (.b (.l [6,46] [.exit 2,.ret] (.s .n (.s eZ (.s (.b (.s .n (.s .n (.b (.l [6,53] [.exit 4,.ret] (.s .n (.s eZ (.s (.b (.s .n (.s aW (.s .n aW)))) .n)))))))) .n)))))) aR)))))) (Δ Pn (Δ abl (Δ Cw (Δ PG (Δ ZN l9))))) Tryz.func54 Tryz.call54 (λa0 a1 a2 σ=>by kernel_rfl) rfl rfl
def Xg (dyn:Nat->au->Heap->aC):Fx:=⟨Tryz.prog,aJ,Y1 (λ_ _=>μ) [],dyn,[],[],19,[]⟩
theorem Xf(dyn:Nat->au->Heap->aC)(hd:∀f,Sound Tryz.prog aJ f (dyn (aJ.getD f 0))):Sound Tryz.prog aJ 99 (ir θ [(.s 2)] .k (Yi (Fk dyn))):=
 XD (akT (X:=Xg dyn) (fn:=Tryz.f99) (ck:=(.s .n (.s (.s .n (.b (.l [4,8] [.exit 0,.ret] (.s .n (.s eZ (.s (.b (.s .n aW)) .n)))))) aR))) .F trivial (akS rfl l9 (hd)) Tryz.func99 Tryz.call99 (λa0 a1 σ=>by kernel_rfl)) _ _ _ rfl rfl
theorem adO(dyn:Nat->au->Heap->aC)(hd:∀f,Sound Tryz.prog aJ f (dyn (aJ.getD f 0))):Sound Tryz.prog aJ 99 (Fj dyn):=Xf dyn hd
theorem PD:Sound Tryz.prog aJ 100 Cj:=q2 [2] 8 (.s .n aR) l9 Tryz.func100 Tryz.call100 (λa0 a1 σ=>by kernel_rfl) rfl rfl
def aaD:Fx:=⟨Tryz.prog,aJ,Y1 (λ_ _=>μ) [(99,Fj (Y1 (λ_ _=>μ) [(127,Cj)]))],(Y1 (λ_ _=>μ) [(127,Cj)]),[2,4],[],19,[]⟩
theorem aaC:Sound Tryz.prog aJ 55 (ir θ [ru] (.t [(.a [.k,(.e 11 BN)]),.k]) (Yi (F1))):=
 XD (akT (X:=aaD) (fn:=Tryz.f55) (ck:=(.s .n (.s .n (.s aW aR)))) .F trivial (akS rfl (Δ (adO _ (xq (ak4 (xe PD (by kernel_rfl) rfl) alw))) l9) (xq (ak4 (xe PD (by kernel_rfl) rfl) alw))) Tryz.func55 Tryz.call55 (λa0 a1 σ=>by kernel_rfl)) _ _ _ rfl rfl
theorem aav:Sound Tryz.prog aJ 55 KO:=aaC
theorem Px:Sound Tryz.prog aJ 19 Ci:=q1 [1,5,8,9] 107 (.s .n (.s (.s .n aW) (.s (.s .n (.b (.l [1,2,29] [.exit 0,.ret] (.s .n (.s eZ (.s (.b (.s .n (.s aW (.s aW (.s .n aW))))) .n)))))) (.s aW (.s (.s .n (.b (.l [1,2,70] [.exit 2,.ret] (.s .n (.s eZ (.s (.b (.s .n (.s aW (.s aW (.s (.s .n aW) aW))))) .n)))))) aR))))) (Δ Pn (Δ uY (Δ Cw (Δ ng (Δ ajE (Δ aav l9)))))) Tryz.func19 Tryz.call19 (λa0 σ=>by kernel_rfl) rfl rfl
theorem Za:Sound Tryz.prog aJ 56 J6:=q1 [] 13 (.s .n (.s (.s .n (.b (.s (.s .n (.c [6] .n (.s .n (.c [6] .n .n)))) (.j aR aW)))) aR)) l9 Tryz.func56 Tryz.call56 (λa0 σ=>by kernel_rfl) rfl rfl
theorem FT:Sound Tryz.prog aJ 20 yI:=q1 [] 15 (.s .n (.s .n aR)) (Δ Za (Δ uY l9)) Tryz.func20 Tryz.call20 (λa0 σ=>by kernel_rfl) rfl rfl
theorem ajg:Sound Tryz.prog aJ 22 Kp:=q1 [] 22 (.s .n (.s aW (.s .n (.s aW aR)))) (Δ PE l9) Tryz.func22 Tryz.call22 (λa0 σ=>by kernel_rfl) rfl rfl
theorem P0:Sound Tryz.prog aJ 46 FQ:=q1 [] 5 (.s .n (.s aW aR)) l9 Tryz.func46 Tryz.call46 (λa0 σ=>by kernel_rfl) rfl rfl
theorem JP:Sound Tryz.prog aJ 47 Ck:=q1 [] 6 (.s .n (.s aW aR)) l9 Tryz.func47 Tryz.call47 (λa0 σ=>by kernel_rfl) rfl rfl
theorem ajR:Sound Tryz.prog aJ 59 J5:=q2 [3] 55 (.s .n (.s (.s .n aW) (.s aW aR))) (Δ FT (Δ ng (Δ JP (Δ uY l9)))) Tryz.func59 Tryz.call59 (λa0 a1 σ=>by kernel_rfl) rfl rfl
theorem akt:Sound Tryz.prog aJ 24 Km:=q2 [4,7,10] 83 (.s .n (.s (.s .n aW) (.s aW (.s .n (.s (.s .n (.b (.l [4,5,7,39] [.exit 0,.ret] (.s .n (.s eZ (.s (.b (.s .n (.s .n (.s aW .n)))) .n)))))) (.s .n (.s (.s .n aW) aR))))))) (Δ FT (Δ P0 (Δ FL (Δ ajR l9)))) Tryz.func24 Tryz.call24 (λa0 a1 σ=>by kernel_rfl) rfl rfl
end
section
theorem Pe:Sound Tryz.prog aJ 189 Fb:=q2 [] 18 (.s .n aR) l9 Tryz.func189 Tryz.call189 (λa0 a1 σ=>by kernel_rfl) rfl rfl
theorem WU:Sound Tryz.prog aJ 154 IM:=q2 [] 15 (.s .n (.s aW aR)) (Δ Pe l9) Tryz.func154 Tryz.call154 (λa0 a1 σ=>by kernel_rfl) rfl rfl
theorem akw:Sound Tryz.prog aJ 105 Jb:=q2 [] 11 (.s .n aR) (Δ WU l9) Tryz.func105 Tryz.call105 (λa0 a1 σ=>by kernel_rfl) rfl rfl
theorem Kf:Sound Tryz.prog aJ 61 Cq:=q1 [] 8 (.s .n aR) (Δ JQ l9) Tryz.func61 Tryz.call61 (λa0 σ=>by kernel_rfl) rfl rfl
theorem PC:Sound Tryz.prog aJ 85 FE:=q1 [] 5 (.s .n aR) (Δ ng l9) Tryz.func85 Tryz.call85 (λa0 σ=>by kernel_rfl) rfl rfl
theorem WW:Sound Tryz.prog aJ 190 IP:=q2 [] 21 (.s .n aR) l9 Tryz.func190 Tryz.call190 (λa0 a1 σ=>by kernel_rfl) rfl rfl
theorem WV:Sound Tryz.prog aJ 155 IN:=q2 [] 18 (.s .n (.s aW aR)) (Δ WW l9) Tryz.func155 Tryz.call155 (λa0 a1 σ=>by kernel_rfl) rfl rfl
theorem ajT:Sound Tryz.prog aJ 106 Jc:=q2 [] 11 (.s .n aR) (Δ WV l9) Tryz.func106 Tryz.call106 (λa0 a1 σ=>by kernel_rfl) rfl rfl
theorem PB:Sound Tryz.prog aJ 107 AA:=q2 [] 66 (.s .n (.s .n (.s .n (.s aW (.s (.s .n (.b (.l [9,48] [.exit 0] (.s .n (.s eZ (.s (.b (.s .n (.s .n (.s .n (.c [9] .n .n))))) .n)))))) aR))))) (Δ Ke (Δ Kf (Δ FL l9))) Tryz.func107 Tryz.call107 (λa0 a1 σ=>by kernel_rfl) rfl rfl
theorem ZR:Sound Tryz.prog aJ 131 Ko:=q2 [] 16 (.s .n (.s .n (.s (.s .n (.c [5] .n .n)) aR))) l9 Tryz.func131 Tryz.call131 (λa0 a1 σ=>by kernel_rfl) rfl rfl
theorem P3:Sound Tryz.prog aJ 86 Cv:=q2 [] 12 (.s .n aR) (Δ ZR l9) Tryz.func86 Tryz.call86 (λa0 a1 σ=>by kernel_rfl) rfl rfl
theorem akh:Sound Tryz.prog aJ 60 FP:=q1 [] 59 (.s .n (.s (.s .n (.b (.s .n (.j aR aW)))) (.s (.s .n (.s .n (.j (.s .n (.s aW aR)) .n))) (.s .n (.s .n (.s aW aR)))))) (Δ akw (Δ Kf (Δ PC (Δ ajT (Δ PB (Δ P3 l9)))))) Tryz.func60 Tryz.call60 (λa0 σ=>by kernel_rfl) rfl rfl
theorem Pt:Sound Tryz.prog aJ 49 Fv:=q1 [] 16 (.s .n (.s (.s .n (.b (.s .n (.j aR (.s .n (.j aR (.s .n (.j aR (.s .n (.j aR (.s .n (.j aR aW)))))))))))) aR)) l9 Tryz.func49 Tryz.call49 (λa0 σ=>by kernel_rfl) rfl rfl
theorem X3:Sound Tryz.prog aJ 62 Jv:=q1 [] 62 (.s .n (.s .n (.s .n (.s aW (.s (.s .n (.b (.l [7,44] [.exit 0] (.s .n (.s eZ (.s (.b (.s .n (.s .n (.s .n (.c [7] .n .n))))) .n)))))) aR))))) (Δ Ke (Δ JQ (Δ FL l9))) Tryz.func62 Tryz.call62 (λa0 σ=>by kernel_rfl) rfl rfl
theorem WO:Sound Tryz.prog aJ 158 IK:=q2 [] 13 (.s .n (.s aW aR)) (Δ Pe l9) Tryz.func158 Tryz.call158 (λa0 a1 σ=>by kernel_rfl) rfl rfl
theorem ajq:Sound Tryz.prog aJ 110 I8:=q2 [] 8 (.s .n aR) (Δ WO l9) Tryz.func110 Tryz.call110 (λa0 a1 σ=>by kernel_rfl) rfl rfl
theorem ajZ:Sound Tryz.prog aJ 63 Jy:=q1 [] 97 (.s .n (.s .n (.s (.s .n (.j (.s .n (.s aW aR)) .n)) (.s .n (.s .n (.s aW (.s .n (.s (.s .n (.c [10,14] .n .n)) (.s aW (.s .n (.s aW aR))))))))))) (Δ Ke (Δ PB (Δ JQ (Δ FL (Δ ajq (Δ XP l9)))))) Tryz.func63 Tryz.call63 (λa0 σ=>by kernel_rfl) rfl rfl
theorem aky:Sound Tryz.prog aJ 25 Jk:=q1 [2,4] 155 (.s .n (.s .n (.s (.s .n (.j (.s .n (.s (.s .n (.c [2,4] .n .n)) aR)) .n)) (.s (.s .n (.j (.s .n aR) .n)) (.s (.s .n (.b (.l [2,4,7] [.exit 0] (.s (.s .n eZ) (.s (.b (.s .n (.c [2,4] .n .n))) .n))))) (.s aW (.s .n (.s .n (.s .n (.s aW (.s .n (.s (.s .n (.b (.s .n (.c [2,4,9,11] .n (.s .n (.c [2,4,11] .n (.s .n (.c [2,4,11] .n .n)))))))) aR)))))))))))) (Δ akh (Δ Pt (Δ Kf (Δ X3 (Δ ajZ l9))))) Tryz.func25 Tryz.call25 (λa0 σ=>by kernel_rfl) rfl rfl
theorem acE:Sound Tryz.prog aJ 26 JT:=q2 [3] 34 (.s .n (.s .n (.s .n (.s (.s .n (.c [6] .n .n)) aR)))) (Δ JP l9) Tryz.func26 Tryz.call26 (λa0 a1 σ=>by kernel_rfl) rfl rfl
theorem aaw:Sound Tryz.prog aJ 35 FX:=q1 [] 7 (.s .n (.s aW aR)) l9 Tryz.func35 Tryz.call35 (λa0 σ=>by kernel_rfl) rfl rfl
theorem aho:Sound Tryz.prog aJ 36 Ft:=q1 [1] 53 (.s .n (.s aW (.s .n (.s .n (.s aW aR))))) (Δ ng l9) Tryz.func36 Tryz.call36 (λa0 σ=>by kernel_rfl) rfl rfl
def WZ (dyn:Nat->au->Heap->aC):Fx:=⟨Tryz.prog,aJ,Y1 (λ_ _=>μ) [],dyn,[],[],19,[]⟩
theorem aiK(dyn:Nat->au->Heap->aC)(hd:∀f,Sound Tryz.prog aJ f (dyn (aJ.getD f 0))):Sound Tryz.prog aJ 129 (ir θ [(.s 3)] .k (Yi (Fe dyn))):=
 XD (akT (X:=WZ dyn) (fn:=Tryz.f129) (ck:=(.s .n (.s (.s .n (.b (.l [4,8] [.exit 0,.ret] (.s .n (.s eZ (.s (.b (.s .n aW)) .n)))))) aR))) .F trivial (akS rfl l9 (hd)) Tryz.func129 Tryz.call129 (λa0 a1 σ=>by kernel_rfl)) _ _ _ rfl rfl
theorem ajl(dyn:Nat->au->Heap->aC)(hd:∀f,Sound Tryz.prog aJ f (dyn (aJ.getD f 0))):Sound Tryz.prog aJ 129 (Fc dyn):=aiK dyn hd
def aka (dyn:Nat->au->Heap->aC):Fx:=⟨Tryz.prog,aJ,Y1 (λ_ _=>μ) [(129,Fc dyn)],dyn,[],[],9,[]⟩
theorem WK(dyn:Nat->au->Heap->aC)(hd:∀f,Sound Tryz.prog aJ f (dyn (aJ.getD f 0))):Sound Tryz.prog aJ 77 (ir θ [(.s 3)] .k (Yi (Fa dyn))):=
 XD (akT (X:=aka dyn) (fn:=Tryz.f77) (ck:=(.s .n aR)) .F trivial (akS rfl (Δ (ajl dyn hd) l9) (hd)) Tryz.func77 Tryz.call77 (λa0 a1 σ=>by kernel_rfl)) _ _ _ rfl rfl
theorem ajW(dyn:Nat->au->Heap->aC)(hd:∀f,Sound Tryz.prog aJ f (dyn (aJ.getD f 0))):Sound Tryz.prog aJ 77 (E9 dyn):=WK dyn hd
theorem Ph:Sound Tryz.prog aJ 78 Cd:=q2 [2] 9 (.s .n aR) l9 Tryz.func78 Tryz.call78 (λa0 a1 σ=>by kernel_rfl) rfl rfl
def ajx:Fx:=⟨Tryz.prog,aJ,Y1 (λ_ _=>μ) [(77,E9 (Y1 (λ_ _=>μ) [(152,Cd)])),(34,fQ),(21,nh)],(Y1 (λ_ _=>μ) [(152,Cd)]),[2],[],36,[]⟩
theorem aiM:Sound Tryz.prog aJ 37 (ir θ [ru] .k (Yi (Fy))):=
 XD (akT (X:=ajx) (fn:=Tryz.f37) (ck:=(.s .n (.s .n (.s aW (.s .n (.s (.s .n (.b (.s .n (.c [6] .n (.s .n (.c [6] .n .n)))))) aR)))))) .F trivial (akS rfl (Δ (ajW _ (xq (ak4 (xe Ph (by kernel_rfl) rfl) alw))) (Δ ng (Δ uY l9))) (xq (ak4 (xe Ph (by kernel_rfl) rfl) alw))) Tryz.func37 Tryz.call37 (λa0 a1 σ=>by kernel_rfl)) _ _ _ rfl rfl
theorem ajL:Sound Tryz.prog aJ 37 Fu:=aiM
theorem YJ:Sound Tryz.prog aJ 39 FI:=q2 [2,6,8] 38 (.s .n (.s (.s .n (.b (.l [2,4,12] [.exit 0,.ret] (.s .n (.s eZ (.s (.b (.s .n (.s .n (.b (.l [2,4,6,19] [.exit 2,.ret] (.s .n (.s eZ (.s (.b (.s .n aW)) .n)))))))) .n)))))) aR)) l9 Tryz.func39 Tryz.call39 (λa0 a1 σ=>by kernel_rfl) rfl rfl
def Xj (dyn:Nat->au->Heap->aC):Fx:=⟨Tryz.prog,aJ,Y1 (λ_ _=>μ) [],dyn,[],[],19,[]⟩
theorem Xi(dyn:Nat->au->Heap->aC)(hd:∀f,Sound Tryz.prog aJ f (dyn (aJ.getD f 0))):Sound Tryz.prog aJ 79 (ir θ [(.s 11)] .k (Yi (Fm dyn))):=
 XD (akT (X:=Xj dyn) (fn:=Tryz.f79) (ck:=(.s .n (.s (.s .n (.b (.l [4,8] [.exit 0,.ret] (.s .n (.s eZ (.s (.b (.s .n aW)) .n)))))) aR))) .F trivial (akS rfl l9 (hd)) Tryz.func79 Tryz.call79 (λa0 a1 σ=>by kernel_rfl)) _ _ _ rfl rfl
theorem ai2(dyn:Nat->au->Heap->aC)(hd:∀f,Sound Tryz.prog aJ f (dyn (aJ.getD f 0))):Sound Tryz.prog aJ 79 (Fl dyn):=Xi dyn hd
def Xa (dyn:Nat->au->Heap->aC):Fx:=⟨Tryz.prog,aJ,Y1 (λ_ _=>μ) [(79,Fl dyn)],dyn,[],[],9,[]⟩
theorem aiT(dyn:Nat->au->Heap->aC)(hd:∀f,Sound Tryz.prog aJ f (dyn (aJ.getD f 0))):Sound Tryz.prog aJ 38 (ir θ [(.s 11)] .k (Yi (Fi dyn))):=
 XD (akT (X:=Xa dyn) (fn:=Tryz.f38) (ck:=(.s .n aR)) .F trivial (akS rfl (Δ (ai2 dyn hd) l9) (hd)) Tryz.func38 Tryz.call38 (λa0 a1 σ=>by kernel_rfl)) _ _ _ rfl rfl
theorem W8(dyn:Nat->au->Heap->aC)(hd:∀f,Sound Tryz.prog aJ f (dyn (aJ.getD f 0))):Sound Tryz.prog aJ 38 (Fh dyn):=aiT dyn hd
theorem Pg:Sound Tryz.prog aJ 40 Cc:=q2 [2] 9 (.s .n aR) l9 Tryz.func40 Tryz.call40 (λa0 a1 σ=>by kernel_rfl) rfl rfl
def XE:Fx:=⟨Tryz.prog,aJ,Y1 (λ_ _=>μ) [(19,Ci),(20,yI),(21,nh),(18,tK),(35,FX),(34,fQ),(36,Ft),(37,Fu),(39,FI),(38,Fh (Y1 (λ_ _=>μ) [(157,Cc)]))],(Y1 (λ_ _=>μ) [(157,Cc)]),[3,9],[10],86,[]⟩
theorem ai5:Sound Tryz.prog aJ 10 (ir θ [ru,.k,(.s 6)] .k (A.oS (Fp))):=
 XD (Sound.NT (X:=XE) (fn:=Tryz.f10) (ck:=(.s .n (.s (.s .n aW) (.s (.s .n (.b (.l [3,6,27] [.exit 0,.ret] (.s .n (.s eZ (.s (.b (.s .n (.s .n (.s .n (.s .n (.s aW aW)))))) .n)))))) aR)))) .F trivial (akS rfl (Δ Px (Δ FT (Δ uY (Δ Cw (Δ aaw (Δ ng (Δ aho (Δ ajL (Δ YJ (Δ (W8 _ (xq (ak4 (xe Pg (by kernel_rfl) rfl) alw))) l9)))))))))) (xq (ak4 (xe Pg (by kernel_rfl) rfl) alw))) Tryz.func10 Tryz.call10 (λa0 a1 a2 σ=>by kernel_rfl)) _ _ _ rfl rfl
theorem Po:Sound Tryz.prog aJ 10 As:=ai5
theorem aas:Sound Tryz.prog aJ 6 uQ:=q3 [3,16,18] 103 (.s .n (.s (.s .n aW) (.s .n (.s .n (.s (.s .n (.b (.l [3,6,7,8,12,41] [.exit 0,.ret] (.s .n (.s eZ (.s (.b (.s .n (.s .n (.s .n (.s aW (.s .n (.s aW .n))))))) .n)))))) (.s (.s .n aW) aR)))))) (Δ Px (Δ FT (Δ uY (Δ Cw (Δ ajg (Δ PE (Δ akt (Δ aky (Δ acE (Δ Po l9)))))))))) Tryz.func6 Tryz.call6 (λa0 a1 a2 σ=>by kernel_rfl) rfl rfl
theorem adr:Sound Tryz.prog aJ 7 yx:=q2 [] 26 (.s .n (.s aW (.s (.s .n (.b (.l [4,13] [.exit 0,.ret] (.s .n (.s eZ (.s (.b (.s .n aW)) .n)))))) aR))) l9 Tryz.func7 Tryz.call7 (λa0 a1 σ=>by kernel_rfl) rfl rfl
theorem aax:Sound Tryz.prog aJ 45 AN:=q1 [] 7 (.s .n aR) (Δ AF l9) Tryz.func45 Tryz.call45 (λa0 σ=>by kernel_rfl) rfl rfl
theorem aiX:Sound Tryz.prog aJ 13 Kn:=q2 [3] 25 (.s .n aR) (Δ aax (Δ P0 l9)) Tryz.func13 Tryz.call13 (λa0 a1 σ=>by kernel_rfl) rfl rfl
theorem ain:Sound Tryz.prog aJ 14 JI:=q2 [4] 44 (.s .n (.s (.s .n (.c [1,4] (.s .n (.s .n (.s .n (.c [1,4] .n .n)))) .n)) (.s .n (.s .n aR)))) (Δ JP l9) Tryz.func14 Tryz.call14 (λa0 a1 σ=>by kernel_rfl) rfl rfl
theorem ajX:Sound Tryz.prog aJ 48 Kj:=q1 [] 29 (.s .n (.s (.b (.s .n (.j aR (.s .n (.j aR aW))))) (.s .n (.s aW aR)))) (Δ PC (Δ P3 (Δ AF l9))) Tryz.func48 Tryz.call48 (λa0 σ=>by kernel_rfl) rfl rfl
theorem X5:Sound Tryz.prog aJ 88 Jx:=q1 [] 20 (.s .n (.s .n (.s (.s .n (.c [3] .n .n)) aR))) (Δ AF (Δ Pp l9)) Tryz.func88 Tryz.call88 (λa0 σ=>by kernel_rfl) rfl rfl
theorem X2:Sound Tryz.prog aJ 51 Ju:=q1 [] 5 (.s .n aR) (Δ X5 l9) Tryz.func51 Tryz.call51 (λa0 σ=>by kernel_rfl) rfl rfl
theorem ajU:Sound Tryz.prog aJ 89 JS:=q1 [] 5 (.s .n aR) (Δ ng l9) Tryz.func89 Tryz.call89 (λa0 σ=>by kernel_rfl) rfl rfl
theorem aj0:Sound Tryz.prog aJ 90 Ja:=q1 [] 11 (.s .n (.s aW aR)) (Δ AF (Δ Pp l9)) Tryz.func90 Tryz.call90 (λa0 σ=>by kernel_rfl) rfl rfl
end
section
open Go.RowKit Go.Sort
set_option maxHeartbeats 400000
theorem abI(b:Nat)(w:World)(h0:w.cell? ⟨b,0,μ⟩=δ (.pointer (δ ⟨b,0,μ⟩))):
  Calls Tryz.prog 44 #[.pointer (δ ⟨b,0,μ⟩)] w λe w'=>e=.returned (.tuple #[])/\w'=w:=by
 obtain⟨j,hj,_⟩:=cO.1 (show(Tryz.prog.info? 47).map (·.size)=δ 2 from by kernel_rfl)
 go_enter Tryz.func44,Tryz.ntmps44
 go_wp2
 rw[Lib.run_neq_ptr_same w _ Tryz.underlying44 hj]
 go_wp2
 go_end0
 exact⟨rfl,rfl⟩
theorem aaR(b:Nat)(w:World)(h0:w.cell? ⟨b,0,μ⟩=δ (.pointer μ))(hsh:w.shape? b=δ (47,2))(hfz:w.frozen? ⟨b,0,μ⟩=ξ):
  Calls Tryz.prog 44 #[.pointer (δ ⟨b,0,μ⟩)] w λe w'=>e=.returned (.tuple #[])/\w'=w.setCell ⟨b,0,μ⟩ (.pointer (δ ⟨b,0,μ⟩)):=by
 obtain⟨j,hj,hjs⟩:=cO.1 (show(Tryz.prog.info? 47).map (·.size)=δ 2 from by kernel_rfl)
 go_enter Tryz.func44,Tryz.ntmps44
 go_wp2
 rw[Lib.run_to_unsafe w ⟨b,0,μ⟩ Tryz.underlying44 Tryz.underlying119 hj (by rw[hjs];decide) hsh (Nat.zero_lt_succ 1)];simp only[alY];rw[al8]
 go_wp2
 rw[run_callFunc_extern Tryz.func84 (by kernel_rfl) (by kernel_rfl) (by kernel_rfl) (e:=Extern.AbiNoEscape.same) (by kernel_rfl)];rw[Lib.run_noEscape];simp only[alY];rw[al8]
 go_wp2
 rw[Lib.run_from_unsafe w ⟨b,0,μ⟩ Tryz.underlying119 Tryz.underlying44 hj hsh (by kernel_rfl)];simp only[alY];rw[al8]
 go_wp2
 go_end0
 exact⟨rfl,rfl⟩
theorem ac5(B b:Nat)(bs:List Value)(w:World)(h:Xx 47 5 B b bs w):
  Calls Tryz.prog 44 #[.pointer (δ ⟨b,0,μ⟩)] w λe w'=>e=.returned (.tuple #[])/\(Z8 47 5 B b (.pointer (δ ⟨b,0,μ⟩)) bs w'/\Below B w w'/\ak1 5 (δ b) w w'):=by
 rcases h with h|h
 ·refine(aaR b w h.cell0 h.shape h.frozen0).mono ?_;rintro e w' ⟨rfl,rfl⟩;exact⟨rfl,h.used _,(Below.refl B w).setCell (p:=⟨b,0,μ⟩) h.1 _,(ak1.refl _ _ w).setCell ⟨b,0,μ⟩ rfl _⟩
 ·refine(abI b w h.cell0).mono ?_;rintro e w' ⟨rfl,rfl⟩;exact⟨rfl,h,Below.refl B _,ak1.refl _ _ _⟩
theorem acO(B b:Nat)(bs:List Value)(s:ByteArray)(w:World)(h:Xx 47 5 B b bs w)(hlen:bs.length+s.size<=140737488355328)(hBw:B<=w.heap.size):
  Calls Tryz.prog 12 #[.pointer (δ ⟨b,0,μ⟩),.string s] w λe w'=>e=.returned (.tuple #[.int ε s.size,.nilIface])/\(Z8 47 5 B b (.pointer (δ ⟨b,0,μ⟩)) (bs++W7 s) w'/\Below B w w'/\ak1 5 (δ b) w w'):=by
 obtain⟨i0,hi,dP,hz1,hz2⟩:=info_parts (show(Tryz.prog.info? 5).map (λi=>(i.zero,i.size,i.bytes))=δ (δ (.int .u8 0),1,1)from by kernel_rfl)
 go_enter Tryz.func12,Tryz.ntmps12
 go_wp2_with (go_at_call 44;refine(ac5 B b bs _ h).mono ?_)
 rintro e w1 ⟨rfl,h1,Om,hk1⟩;obtain⟨hB,v,hbk,hown,hne⟩:=h1;have c0:w1.cell? ⟨b,0,μ⟩=δ (.pointer (δ ⟨b,0,μ⟩)):=by rw[Yb hbk];rfl
 have c1:w1.cell? ⟨b,1,μ⟩=δ v:=by rw[Yb hbk];rfl
 go_wp2_with (at_builtin;refine Lib.wpList_append_own_string _ rfl _ _ 45 9 rfl B 5 i0 Tryz.underlying45 Tryz.underlying9 hi dP hz1 hz2 _ _ _ rfl hown s rfl ?c3 ?c4 ?c5 ?_)
 case c3=>unfold maxLen;omega
 case c4=>omega
 case c5=>have:=Om.size;omega
 intro v' w2 Uy MP _
 have hlt:b<w1.heap.size:=by
  rcases Nat.lt_or_ge b w1.heap.size with h'|h'
  ·exact h'
  ·simp [alk h']at hbk
 have yc:w2.heap[b]? =δ (.cells #[.pointer (δ ⟨b,0,μ⟩),v] 47 (0,0)):=by rw[MP.block b hlt (λe=>hne e.symm)];exact hbk
 have d0:w2.cell? ⟨b,0,μ⟩=δ (.pointer (δ ⟨b,0,μ⟩)):=by rw[Yb yc];rfl
 have d1:w2.cell? ⟨b,1,μ⟩=δ v:=by rw[Yb yc];rfl
 have f1:w2.frozen? ⟨b,1,μ⟩=ξ:=Lib.frozen_of_heap yc 1
 obtain⟨ao,n',cap,rfl⟩:∃ao n' cap,v'=.slice ao n' cap:=by
  rcases Uy.2 with⟨hv,_⟩|⟨g,cap,cur,hv,_⟩
  ·exact⟨_,_,_,hv⟩
  ·exact⟨_,_,_,hv⟩
 go_wp2
 go_ret2
 refine⟨rfl,?_,?_,?_⟩
 ·exact Z8.put (T:=47) (e:=5) hB yc (bs':=bs++W7 s) (by simpa [Lib.strCells_length]using Uy) (by decide)
 ·exact(Om.grown MP (by have:=Om.size;omega) (λk hk=>(hown.lt k hk).1)).setCell (p:=⟨b,1,μ⟩) hB _
 ·refine(hk1.grown MP λg hg=>?_).setCell ⟨b,1,μ⟩ rfl _;rcases hown.2 with⟨rfl,_⟩|⟨g',cap,cur,rfl,_,Ep,_⟩
  ·cases hg
  ·simp only[Value.ownBlock,χ]at hg;subst hg;exact⟨_,_,Ep⟩
end
section
open Go.RowKit Go.Sort
theorem Ho{n:FuncId}{m:au->Heap->aC}{jl:au}{r:U}(hs:Sound Tryz.prog aJ n m)(hc:∀us w,(callFunc n us).run Tryz.prog w=.ok (.enter n us) w){z:Z}(hnm:z.nm=aJ)(hE:z.E=[])(hl:pN z){W:World}(hb:Below z.w.heap.size z.w W){vs:Array Value}(hr:aF (ctx z z.w [] cg) jl vs.toList)(hm:m jl []=δ (r,[])):
  Calls Tryz.prog n vs W λe W'=>∃v,e=.returned v/\an (ctx z W' [] cg) r v/\Below W.heap.size W W':=by
 have hl':pN ⟨W,[],z.X,z.nm⟩:=⟨λb k=>nJ (hl b k) hb.size,hl.tab.to hb.size (λb k _=>hb.block b k) λb _ k=>by
  rcases k with k|⟨p,hp,_⟩
  ·exact .inl k
  ·cases hp⟩
 have wu:fS (ctx ⟨W,[],z.X,z.nm⟩ W [] cg) []:=by
  refine⟨rfl,λi j p q hp=>?_,λi p x hp=>?_⟩
  ·simp [ctx]at hp
  ·simp [ctx]at hp
 have hr':aF (ctx ⟨W,[],z.X,z.nm⟩ W [] cg) jl vs.toList:=ZD (pe (z:=z) (w:=z.w) (w':=W) (E:=[]) (pb:=cg) hb) _ _ hr;rcases hs _ _ _ _ hm with⟨g,h1,h2⟩|hv
 case inr=>
  obtain⟨v,w',E',k1,_⟩:=hv ⟨W,[],z.X,z.nm⟩ vs hnm hl' wu hr';rw[hc]at k1;injection k1 with k1
  cases k1
 have hg:g=n:=by
  have e1:=h1 #[] W;rw[hc #[] W]at e1;injection e1 with e1
  injection e1 with e1
  exact e1.symm
 subst hg;refine(h2 ⟨W,[],z.X,z.nm⟩ vs hnm hl' wu hr').mono ?_;rintro e w' ⟨v,E',rfl,ho,hh,hv⟩;have hE':E'=[]:=by have:=hh.len;simpa [ctx]using this
 subst hE';exact⟨v,rfl,hv,ho.os,ho.tape,ho.output,ho.size,λk hk=>ho.stay k hk (λp hp=>by cases hp)⟩
theorem Ty{c:RC}{sz b:Nat}:∀{es:List au}{off k:Nat}{e:au},aY c sz b off es->es[k]? =δ e->aT c b (off+k*sz) e
 |[],off,k,e,_,h=>by cases h
 |x::es,off,0,e,r,h=>by
  simp only[aY]at r;injection h with h
  subst h;simpa using r.2.1
 |x::es,off,k+1,e,r,h=>by simp only[aY]at r;have:=Ty (k:=k) r.2.2 (by simpa using h);rw[fU,Nat.one_mul,Nat.add_comm (k*sz) sz,<-fG];exact this
theorem ajQ(a b:List UInt8):W7 (bZ (a++b))=W7 (bZ a)++W7 (bZ b):=by simp [W7,bZ]
theorem P6(a:List UInt8):(W7 (bZ a)).length=a.length:=by simp [W7,bZ]
theorem ab4{T e:TypeId}{B b:Nat}{bs:List Value}{w w':World}(h:Xx T e B b bs w)(hb:Below w.heap.size w w'):Xx T e B b bs w':=by
 have key:∀p,Z8 T e B b p bs w->Z8 T e B b p bs w':=by intro p h;have hlt:=h.lt;obtain⟨hB,v,h1,h2,h3⟩:=h;exact⟨hB,v,by rw[hb.block b hlt];exact h1,h2.kept (row:=μ) ⟨hb.os,hb.tape,hb.output,hb.size,λk hk _=>hb.block k hk⟩ (by cases hv:v.ownBlock<;>simp),h3⟩
 rcases h with h|h
 ·exact .inl (key _ h)
 ·exact .inr (key _ h)
theorem ae8{c:RC}{sz:Nat}{es:List au}{a:Option Addr}{n cap:Nat}(h:an c (.sl sz es) (.slice a n cap)):n=es.length/\∀k e,es[k]? =δ e->∃b off,a=δ ⟨b,off,μ⟩/\b<c.w.heap.size/\aT c b (off+k*sz) e:=by
 simp only[an]at h;obtain⟨a',cap',h1,h2,h3,h4⟩:=h;injection h1 with e1 e2 e3
 subst e1;refine⟨e2,λk e he=>?_⟩;rcases h4 with rfl|⟨b,off,rfl,h5,h6,h7⟩
 ·cases he
 ·exact⟨b,off,rfl,h5,Ty h7 he⟩
theorem GY{c:RC}:aF c [] []:=by simp [aF]
theorem mo{c:RC}{a:U}{l:au}{v:Value}{vs:List Value}(h:an c a v)(k:aF c l vs):aF c (a::l) (v::vs):=by simp only[aF];exact⟨v,vs,rfl,h,k⟩
theorem Mg{c:RC}{cs:au}{vs:List Value}(h:aF c cs vs)(h1:∀x∈vs,cx x=θ):aF c [.agg cs] [.agg vs.toArray]:=by simp only[aF,an];exact⟨_,[],rfl,⟨vs.toArray,rfl,by simpa using h,by simpa using h1⟩,rfl⟩
end
section
open Go Go.Sort Go.RowKit
section
variable {P : Program} {ops : Array Oper} {md : Region.Mode} {C : World -> Prop}
def Dl(P:Program)(md:Region.Mode)(ops:Array Oper)(C:World->Prop)(n:Nat)(L:Array Bool->Act->Prop):Nat->Array Bool->Act->Prop
 |0,done,a=>L done a
 |f+1,done,a=>XR md ops done≠[]/\∀i∈XR md ops done,i<n/\qOp P ops C i (Dl P md ops C n L f (done.setIfInBounds i θ)) a
theorem abZ{n g:Nat}{L:Array Bool->Act->Prop}{Q':Exit->Act->World->Prop}(hL:∀done a w,C w->L done a->wpAny P md ops Q' g done a w)(f:Nat):∀(done:Array Bool)(a:Act)(w:World),C w->Dl P md ops C n L f done a->wpAny P md ops Q' (f+g) done a w:=by
 induction f with
 |zero=>intro done a w hw h;rw[Zm];exact hL _ _ _ hw h
 |succ f ih=>intro done a w hw h;rw[show f+1+g=(f+g)+1 by omega];exact⟨λh0=>absurd h0 h.1,λi hi=>wpOp_of_qOp hw (λa' w' hw' k=>ih _ a' w' hw' k) (h.2 i hi).2⟩
theorem aac{n i:Nat}{oi:Oper}{v:Value}{L:Array Bool->Act->Prop}(hi:ops[i]? =δ oi)(hsel:∀(j:Nat) (o:Oper) cs b,ops[j]? =δ o->o.op≠.select cs b)
  (hs:Region.sinkB md ops n=θ) (hc:Region.chainB md ops n=θ) (hn:n<ops.size) (hin:i<n) (hdone:∀done a,L done a->∀j∈XR md ops done,n<=j) (f:Nat):
  ∀(done:Array Bool)(a:Act),HeadInv md ops n done->
   (∀j oj,ops[j]? =δ oj->j≠i->done.getD j θ=ξ->(∀e∈oj.after,Zl md e=θ->e.on≠i)->oi.apart ops oj=θ)->
   i∈XR md ops done->YieldsIn P ops C oi v a->Dl P md ops C n L f (done.setIfInBounds i θ) (a.put oi.dst v)->Dl P md ops C n L (f+1) done a:=by
 induction f with
 |zero=>
  intro done a inv _ hr hy H;refine⟨λh=>(by rw[h]at hr;cases hr),λj hj=>?_⟩;have hjn:j<n:=Nat.lt_of_not_le λh=>tail_waits hs hc hn inv _ i rfl hin (mem_ready.1 hr).1 j h hj
  by_cases hji:j=i
  ·subst hji;exact⟨hjn,hy.qOp hi H⟩
  ·exact absurd (hdone _ _ H j (ready_mono hj hji)) (by omega)
 |succ f ih=>
  intro done a inv hfree hr hy H;refine⟨λh=>(by rw[h]at hr;cases hr),λj hj=>?_⟩;have hjn:j<n:=Nat.lt_of_not_le λh=>tail_waits hs hc hn inv _ i rfl hin (mem_ready.1 hr).1 j h hj
  refine⟨hjn,?_⟩;by_cases hji:j=i
  ·subst hji;exact hy.qOp hi H
  obtain⟨U3,oj,zS,hall⟩:=mem_ready.1 hj
  have hnot:∀e∈oj.after,Zl md e=θ->e.on≠i:=λe he hb heq=>by have h1:=hall e he hb;rw[heq,getD_both (mem_ready.1 hr).1]at h1;cases h1
  refine qOp_mono (λa' h3=>ih (done.setIfInBounds j θ) a' (inv.set hj hjn) (λk ok hk hki hun hno=>?_) (ready_mono hr (Ne.symm hji)) h3.1 ?_) (qOp_put zS (hfree j oj zS hji U3 hnot) (λcs b=>hsel i oi cs b hi) (λcs b=>hsel j oj cs b zS) hy (H.2 j (ready_mono hj hji)).2)
  ·refine hfree k ok hk hki ?_ hno;by_cases hjk:j=k
   ·subst hjk;exact U3
   ·rw[getD_set_ne θ hjk]at hun;exact hun
  ·rw[Array.setIfInBounds_comm _ _ hji];exact h3.2
theorem ab0{n g:Nat}{Lq:Act->Prop}(hsel:Region.noSelect ops=θ)(hs:Region.sinkB md ops n=θ)(hc:Region.chainB md ops n=θ)(hn:n<ops.size)(l:List Oper):
  ∀(k:Nat)(done:Array Bool)(a:Act),(∀j,j<l.length->l[j]? =ops[k+j]?)->k+l.length=n->HeadInv md ops n done->alZ md ops g l.length k done=θ->wpQuiet P ops C Lq l a->
  Dl P md ops C n (λd' a'=>Region.seqB md ops g n d'=θ/\Lq a') l.length done a:=by
 induction l with
 |nil=>
  intro k done a _ hk _ hB h;obtain rfl:k=n:=by simpa using hk
  exact⟨by simpa [alZ]using hB,h⟩
 |cons o l ih=>
  intro k done a hl hk inv hB h;have h0:ops[k]? =δ o:=by simpa using(hl 0 (by simp)).symm
  simp only[l8,alZ,dr]at hB;obtain⟨⟨hr,hf⟩,hB'⟩:=hB;simp only[l8]at hk hl;have hr':k∈XR md ops done:=by simpa using hr
  have hst:qOp P ops C k (wpQuiet P ops C Lq l) a:=by unfold qOp;simp only[h0];exact h
  obtain⟨v,hy,hK⟩:=yieldsIn_of_qOp h0 hst
  exact aac h0 (Region.noSelect_spec hsel) hs hc hn (by omega) (λd' a' hL=>seqB_ready hL.1) l.length done a inv (Region.free_spec h0 hf) hr' hy
   (ih (k+1) _ _ (λj hj=>by have:=hl (j+1) (by omega);simpa [fG,Nat.add_comm 1 j]using this) (by omega) (inv.set hr' (by omega)) hB' hK)
theorem ajv{id:Nat}{Q:Exit->Act->World->Prop}{a:Act}{w:World}{l:List Oper}(n:Nat)(hm:P.follows .mixedOrders=θ)(hB:alL .any l.toArray n=θ)(hC:C {w with drawn:=w.drawn+1})
  (h:wpQuiet P l.toArray C (λa'=>∀w',C w'->wpList P l.toArray Q (l.drop n) a' w') (l.take n) a):(Code.region id l.toArray θ).wp P Q a w:=by
 simp only[alL,dr,decide_eq_true_eq]at hB;obtain⟨⟨⟨⟨hsel,hn⟩,hs⟩,hc⟩,ahe⟩:=hB;have hn':n<l.length:=by simpa using hn
 have htl:(l.take n).length=n:=by simp;omega
 have jA:(l.drop n).length=l.toArray.size-n:=by simp
 have ahq:HeadInv .any l.toArray n (WL l.toArray.size ξ):=
  ⟨by simp,λj oj _ hl=>(by rw[getD_replicate_false]at hl;cases hl),λt _ ht=>getD_in (by simpa using ht) (getD_replicate_false _ _)⟩
 have H:=ab0 (md:=.any) (g:=l.toArray.size-n) hsel hs hc hn (l.take n) 0 _ a (λj hj=>by rw[htl]at hj;simp [hj]) (by simpa using htl) ahq (by rw[htl];exact ahe) h
 have K:=abZ (Q':=Q) (g:=l.toArray.size-n) (λd' a' w' hw' hL=>by
  have:=wpAny_of_seq (md:=.any) (Q':=Q) (l.drop n) n d' a' w' (λj=>by simp [W5]) (by rw[jA];exact hL.1) (hL.2 w' hw')
  rwa[jA]at this) _ _ _ _ hC H
 rw[htl,show n+(l.toArray.size-n)=l.toArray.size by omega]at K;exact wp_region_any hm K
theorem ajP{id:Nat}{Q:Exit->Act->World->Prop}{a:Act}{w:World}{l:List Oper}(n:Nat)(hm:P.follows .mixedOrders=θ)(hB:alL .any l.toArray n=θ)
  (h:wpQuiet P l.toArray (λw'=>∃p:Regrown,w'=grow (redrawn w p.d) p.os) (λa'=>∀w',(∃p:Regrown,w'=grow (redrawn w p.d) p.os)->wpList P l.toArray Q (l.drop n) a' w') (l.take n) a):(Code.region id l.toArray θ).wp P Q a w:=
 ajv n hm hB ⟨⟨w.drawn+1,#[]⟩,by rw[grow_empty];rfl⟩ h
end
end
section
theorem X7:Sound Tryz.prog aJ 52 Jz:=q1 [] 32 (.s .n (.s aW (.s .n (.s aW aR)))) (Δ ajU (Δ aj0 (Δ AF l9))) Tryz.func52 Tryz.call52 (λa0 σ=>by kernel_rfl) rfl rfl
theorem aj8:Sound Tryz.prog aJ 15 Jj:=q1 [1] 70 (.s .n (.s .n (.s (.b (.s .n (.j aR (.s .n (.j aR aW))))) (.s .n (.s (.s .n (.b (.s .n (.c [5] .n (.s .n (.c [5] aR (.s .n (.c [5] .n .n)))))))) aR))))) (Δ ajX (Δ Pt (Δ AF (Δ X2 (Δ X7 l9))))) Tryz.func15 Tryz.call15 (λa0 σ=>by kernel_rfl) rfl rfl
end
section
open Go.RowKit Go.Sort
set_option maxHeartbeats 4000000 in
theorem aja{z:Z}(hnm:z.nm=aJ)(hE:z.E=[])(hl:pN z){ps bs gs ds fs es:List au}{rate e:Int}{a1 a2 a3 a4 a5 a6:Option Addr}{n1 n2 n3 n4 n5 n6 c1 c2 c3 c4 c5 c6:Nat}{out:List UInt8}{ft:Int}
  (hr:aF (ctx z z.w [] cg) [.agg [.sl 3 ps,.sl 4 bs,.sl 3 gs,.sl 2 ds,.sl 3 fs],.int ε rate,.sl 6 es] [.agg #[.slice a1 n1 c1,.slice a2 n2 c2,.slice a3 n3 c3,.slice a4 n4 c4,.slice a5 n5 c5],.int ε rate,.slice a6 n6 c6]) (uG:As [.agg [.sl 3 ps,.sl 4 bs,.sl 3 gs,.sl 2 ds,.sl 3 fs],.int ε rate,.sl 6 es] []=δ (.int ε e,[]))
  (hel:es.length<=9223372036854775807) (ho:zO rate e es=δ (.az [.str (bZ out),.int ε ft],[])):
  Calls Tryz.prog 5 #[.agg #[.slice a1 n1 c1,.slice a2 n2 c2,.slice a3 n3 c3,.slice a4 n4 c4,.slice a5 n5 c5],.int ε rate,.slice a6 n6 c6] z.w λe w'=>e=.returned (.tuple #[.string (bZ out),.int ε ft])/\Below z.w.heap.size z.w w':=by
 have Nl:∀W,Below z.w.heap.size z.w W->_:=λW hb=>Ho Po Tryz.call10 hnm hE hl (W:=W) hb (vs:=#[.agg #[.slice a1 n1 c1,.slice a2 n2 c2,.slice a3 n3 c3,.slice a4 n4 c4,.slice a5 n5 c5],.int ε rate,.slice a6 n6 c6]) hr uG
 have b1:Below z.w.heap.size z.w (z.w.alloc (.cells #[.slice a1 n1 c1,.slice a2 n2 c2,.slice a3 n3 c3,.slice a4 n4 c4,.slice a5 n5 c5] 30)):=(Below.refl _ _).alloc (bL _) _;unfold zO at ho;by_cases h0:e=0
 case neg=>
  rw[aD h0]at ho;simp only[χ,Θ,p7.injEq,ZX,Γ.injEq,Zx.injEq,and_true,true_and]at ho;have hne:(e !=0)=θ:=by simpa using h0
  obtain⟨sZ,rfl⟩:=ho;rw[<-sZ]
  go_enter Tryz.func5,Tryz.ntmps5
  go_wp2_with fail
  refine(Nl _ b1).mono ?_;rintro e1 w1 ⟨v,rfl,hv,hb⟩;simp only[an]at hv;subst hv
  go_wp2
  go_ret2
  exact⟨rfl,b1.trans (hb.mono (by simp))⟩
 case pos=>
  subst h0;rw[aE rfl]at ho;obtain⟨T,hT,ho⟩:=bg.1 ho
  have We:T.length<=140737488355328:=by
   by_cases h6:T.length<=600000
   ·omega
   ·rw[aD h6]at ho;by_cases h7:T.length<=140737488355328
    ·exact h7
    ·rw[aD h7]at ho;cases ho
  have jU:an (ctx z z.w [] cg) (.sl 6 es) (.slice a6 n6 c6):=by simp only[aF,ZX]at hr;obtain⟨_,_,⟨rfl,rfl⟩,_,_,_,⟨rfl,rfl⟩,_,_,_,⟨rfl,rfl⟩,h,_⟩:=hr;exact h
  obtain⟨jT,uF⟩:=ae8 jU;subst jT;have HC:=ZL uF;have HO:=ZL ho;have HT:=ZL hT;clear uF ho hT jU
  go_enter Tryz.func5,Tryz.ntmps5
  go_wp2_with fail
  refine(Nl _ b1).mono ?_;rintro e1 w1 ⟨v,rfl,hv,hb⟩;simp only[an]at hv;subst hv;clear Nl;have g1:Below z.w.heap.size z.w w1:=b1.trans (hb.mono (by simp));clear b1 hb
  go_wp2_with fail
  have hB:=Lib.fresh_isBuilder 47 5 w1;have g2:Below z.w.heap.size z.w (w1.alloc (.cells #[.pointer μ,.slice μ 0 0] 47)):=g1.alloc g1.size _;generalize hW:w1.alloc (.cells #[.pointer μ,.slice μ 0 0] 47)=W at *
  have hbz:w1.heap.size<=W.heap.size:=by rw[<-hW];simp
  clear hW;generalize hb0:w1.heap.size=b at *
  have VH:=ZL hbz;have VI:=ZL (show z.w.heap.size<=b by have:=g1.size;omega);clear hb0 hbz g1
  go_loopw [21] (λi wr=>∃(k:Nat)(acc:List UInt8),k<=es.length/\i=.int ε k/\Xx 47 5 b b (W7 (bZ acc)) wr/\Below z.w.heap.size z.w wr/\Hid (b<=wr.heap.size)/\Hid (∃x,yZ rate (es.drop k)=δ x/\acc++x=T)) (λi _=>es.length-(intOf i).toNat)
  case atStart=>exact⟨0,[],ur _,rfl,hB,g2,VH,ZL ⟨T,HT.out,rfl⟩⟩
  case round=>
   clear hB g2 VH HT;obtain⟨k,acc,hk,rfl,hB,hG,HB,HX⟩:=hrel;by_cases hlt:k<es.length
   ·obtain⟨x,hx,ya⟩:=HX.out;clear HX;rw[List.drop_eq_getElem_cons hlt]at hx;obtain⟨bk,off,rfl,hbk,hcs⟩:=HC.out k _ (bT hlt);generalize es[k]=ek at *
    unfold yZ at hx;split at hx
    ·rename_i h';cases h'
    ·rename_i n t kd p c l rest h';injection h' with h1 h2
     subst h1 h2;split at hx
     ·rename_i sh sm ss sf hst;split at hx
      ·rename_i s1 s2 hsh hac;split at hx
       ·rename_i hsz;obtain⟨y,hy,rfl⟩:=cO.1 hx;obtain⟨v0,k0,o0,r0⟩:=XS (i:=0) hcs rfl;obtain⟨v1,k1,o1,r1⟩:=XS (i:=1) hcs rfl;obtain⟨v2,k2,o2,r2⟩:=XS (i:=2) hcs rfl;obtain⟨v3,k3,o3,r3⟩:=XS (i:=3) hcs rfl;obtain⟨v4,k4,o4,r4⟩:=XS (i:=4) hcs rfl;obtain⟨v5,k5,o5,r5⟩:=XS (i:=5) hcs rfl;have hra:=Mg (mo r1 (mo r2 (mo r3 (mo r4 (mo r5 GY))))) (by simp [o1,o2,o3,o4,o5]);simp only[an]at r0 r1 r2 r3 r4 r5;subst r0 r1 r2 r3 r4 r5;clear hcs o0 o1 o2 o3 o4 o5;have c0:=(hG.cell (p:=⟨bk,off+k*6+0,μ⟩) hbk).trans k0;have c1:=(hG.cell (p:=⟨bk,off+k*6+1,μ⟩) hbk).trans k1;have c2:=(hG.cell (p:=⟨bk,off+k*6+2,μ⟩) hbk).trans k2;have c3:=(hG.cell (p:=⟨bk,off+k*6+3,μ⟩) hbk).trans k3;have c4:=(hG.cell (p:=⟨bk,off+k*6+4,μ⟩) hbk).trans k4;have c5:=(hG.cell (p:=⟨bk,off+k*6+5,μ⟩) hbk).trans k5;clear k0 k1 k2 k3 k4 k5;rw[Nat.add_zero]at c0
        go_wp2_with fail
        clear c0 c1 c2 c3 c4 c5;generalize Io:wr.alloc (.cells #[.int ε n,.int ε t,.int ε kd,.int ε p,.int ε c,.int ε l] 41)=W2;have Ic:Below wr.heap.size wr W2:=by rw[<-Io];exact(Below.refl _ _).alloc (bL _) _
        have zh:W2.heap[wr.heap.size]? =δ (.cells #[.int ε n,.int ε t,.int ε kd,.int ε p,.int ε c,.int ε l] 41 (0,0)):=by rw[<-Io];exact heap_alloc_new wr _
        have ahn:W2.heap.size=wr.heap.size+1:=by rw[<-Io];simp
        clear Io;have Oj:Below z.w.heap.size z.w W2:=hG.trans (Ic.mono hG.size);have Ik:∀d os,Below z.w.heap.size z.w (grow (redrawn W2 d) os):=λd os=>Oj.trans ((below_regrown W2 d os).mono Oj.size)
        have q0:∀d os,(grow (redrawn W2 d) os).cell? ⟨wr.heap.size,0,μ⟩=δ (.int ε n):=λd os=>cell_regrown (by rw[Yb zh];rfl) d os
        have q1:∀d os,(grow (redrawn W2 d) os).cell? ⟨wr.heap.size,1,μ⟩=δ (.int ε t):=λd os=>cell_regrown (by rw[Yb zh];rfl) d os
        have q2:∀d os,(grow (redrawn W2 d) os).cell? ⟨wr.heap.size,2,μ⟩=δ (.int ε kd):=λd os=>cell_regrown (by rw[Yb zh];rfl) d os
        have q3:∀d os,(grow (redrawn W2 d) os).cell? ⟨wr.heap.size,3,μ⟩=δ (.int ε p):=λd os=>cell_regrown (by rw[Yb zh];rfl) d os
        have q4:∀d os,(grow (redrawn W2 d) os).cell? ⟨wr.heap.size,4,μ⟩=δ (.int ε c):=λd os=>cell_regrown (by rw[Yb zh];rfl) d os
        have q5:∀d os,(grow (redrawn W2 d) os).cell? ⟨wr.heap.size,5,μ⟩=δ (.int ε l):=λd os=>cell_regrown (by rw[Yb zh];rfl) d os
        have cS:∀d os,Calls Tryz.prog 14 #[.int ε rate,.int ε n] (grow (redrawn W2 d) os) λe w''=>e=.returned (.agg #[.int ε sh,.int ε sm,.int ε ss,.int ε sf])/\∃p:Regrown,w''=grow (redrawn W2 p.d) p.os:=λd os=>alx ((Ho ain Tryz.call14 hnm hE hl (Ik d os) (vs:=#[.int ε rate,.int ε n]) (mo (by simp only[an]) (mo (by simp only[an]) GY)) hst).mono λe w' h=>by
         obtain⟨v,rfl,hv,hb⟩:=h;refine⟨?_,hb⟩;simp only[an,aF]at hv;obtain⟨va,rfl,⟨_,_,e1,rfl,_,_,rfl,rfl,_,_,rfl,rfl,_,_,rfl,rfl,rfl⟩,_⟩:=hv
         exact congrArg (λx=>Ending.returned (Value.agg x)) (jv.1 (by rw[e1])))
        have cW:∀d os,Calls Tryz.prog 13 #[.int ε rate,.agg #[.int ε sh,.int ε sm,.int ε ss,.int ε sf]] (grow (redrawn W2 d) os) λe w''=>e=.returned (.string s1)/\∃p:Regrown,w''=grow (redrawn W2 p.d) p.os:=λd os=>alx ((Ho aiX Tryz.call13 hnm hE hl (Ik d os) (vs:=#[.int ε rate,.agg #[.int ε sh,.int ε sm,.int ε ss,.int ε sf]]) (mo (by simp only[an]) (Mg (vs:=[.int ε sh,.int ε sm,.int ε ss,.int ε sf]) (mo (by simp only[an]) (mo (by simp only[an]) (mo (by simp only[an]) (mo (by simp only[an]) GY)))) (by simp [cx]))) hsh).mono λe w' h=>by
         obtain⟨v,rfl,hv,hb⟩:=h;simp only[an]at hv
         exact⟨by rw[hv],hb⟩)
        have cA:∀d os,Calls Tryz.prog 15 #[.agg #[.int ε t,.int ε kd,.int ε p,.int ε c,.int ε l]] (grow (redrawn W2 d) os) λe w''=>e=.returned (.string s2)/\∃p:Regrown,w''=grow (redrawn W2 p.d) p.os:=λd os=>alx ((Ho aj8 Tryz.call15 hnm hE hl (Ik d os) (vs:=#[.agg #[.int ε t,.int ε kd,.int ε p,.int ε c,.int ε l]]) (Mg (vs:=[.int ε t,.int ε kd,.int ε p,.int ε c,.int ε l]) (mo (by simp only[an]) (mo (by simp only[an]) (mo (by simp only[an]) (mo (by simp only[an]) (mo (by simp only[an]) GY))))) (by simp [cx])) hac).mono λe w' h=>by
         obtain⟨v,rfl,hv,hb⟩:=h;simp only[an]at hv
         exact⟨by rw[hv],hb⟩)
        have z1:¬9223372036854775807<s1.size+1:=by omega
        have z2:¬9223372036854775807<s1.size+1+s2.size:=by omega
        have z3:¬9223372036854775807<s1.size+1+s2.size+1:=by omega
        refine ajP 12 (by kernel_rfl) (by kernel_rfl) ?_;simp only[List.take_succ_cons,List.take_zero,List.drop_succ_cons,List.drop_zero];repeat (quiet_step (with_reducible (first|exact cS _ _|exact cW _ _|exact cA _ _)))
        refine wpQuiet_nil ?_;intro w' hw';obtain⟨⟨dq,osq⟩,rfl⟩:=hw';have D1:Below wr.heap.size wr (grow (redrawn W2 dq) osq):=Ic.trans ((below_regrown W2 dq osq).mono Ic.size);clear cS cW cA q0 q1 q2 q3 q4 q5 Ik zh ahn Ic Oj;generalize grow (redrawn W2 dq) osq=W3 at *
        have V8:=ab4 hB D1;have Wb:Below z.w.heap.size z.w W3:=hG.trans (D1.mono hG.size)
        have eC:s1++⟨#[32]⟩++s2++⟨#[10]⟩=bZ (lZ s1++32::(lZ s2++[10])):=by apply Xo;simp [bZ]
        have ag3:(acc++(lZ s1++32::(lZ s2++10::y))).length<=140737488355328:=by rw[ya];exact We
        simp only[W0,l8]at ag3;clear hB hG hst hsh hac hx hra z1 z2 z3;rw[eC]
        go_wp2_with fail
        refine(acO b b _ (bZ (lZ s1++32::(lZ s2++[10]))) W3 V8 (by rw[P6,show ∀l:List UInt8,(bZ l).size=l.length from λl=>rfl];simp only[W0,l8,AV];omega) (by have:=HB.out;have:=D1.size;omega)).mono ?_;rintro e1 W4 ⟨rfl,V9,b4,q4⟩;have hG4:Below z.w.heap.size z.w W4:=Wb.trans (b4.mono VI.out)
        have hB5:Xx 47 5 b b (W7 (bZ (acc++(lZ s1++32::(lZ s2++[10]))))) W4:=by rw[ajQ];exact .inr V9
        have HB4:Hid (b<=W4.heap.size):=ZL (by have:=HB.out;have:=D1.size;have:=b4.size;omega);clear V8 V9 b4 q4 D1 Wb HB
        go_wp2
        go_roundw
        case rel=>exact⟨k+1,_,by omega,by go_num,hB5,hG4,HB4,ZL ⟨y,hy,by rw[<-ya];simp⟩⟩
        case measure=>simp [intOf];omega
       ·cases hx
      ·cases hx
     ·cases hx
    ·cases hx
   ·have hk':k=es.length:=by omega
    subst hk';obtain⟨x,hx,ya⟩:=HX.out;rw[List.drop_length,yZ]at hx;injection hx with hx
    subst hx;rw[WQ]at ya;subst ya;have ho:=HO.out;have hcs:=P6 acc;by_cases h6:acc.length<=600000
    ·rw[aE h6]at ho;simp only[χ,Θ,p7.injEq,ZX,Γ.injEq,Zx.injEq,and_true,true_and]at ho;obtain⟨sZ,rfl⟩:=ho;have hd:decide ((600000:Int)<(acc.length:Int))=ξ:=gZ (by omega);have hd2:decide (600000<acc.length)=ξ:=gZ (by omega)
     go_wp2_with fail
     refine(Tryz.Builder_Len b b _ _ hB).mono ?_;rintro e1 w' ⟨rfl,rfl⟩;rw[hcs]
     go_wp2_with fail
     refine(Tryz.Builder_String_any b b acc _ (by simpa [Lib.byteCells,W7,bZ]using hB) HB.out).mono ?_;rintro e1 w' ⟨rfl,hb'⟩
     go_wp2
     go_ret2
     exact⟨by rw[<-sZ];rfl,hG.trans (hb'.mono VI.out)⟩
    ·rw[aD h6,aE We]at ho;simp only[χ,Θ,p7.injEq,ZX,Γ.injEq,Zx.injEq,and_true,true_and]at ho;obtain⟨sZ,rfl⟩:=ho;have hd:decide ((600000:Int)<(acc.length:Int))=θ:=qo (by omega);have hd2:decide (600000<acc.length)=θ:=qo (by omega)
     go_wp2_with fail
     refine(Tryz.Builder_Len b b _ _ hB).mono ?_;rintro e1 w' ⟨rfl,rfl⟩;rw[hcs]
     go_wp2
     go_ret2
     exact⟨by rw[<-sZ];rfl,hG⟩
theorem abO{rate e:Int}{es:List au}{r:U}{σ':Heap}(h:zO rate e es=δ (r,σ')):∃out ft,r=.az [.str (bZ out),.int ε ft]/\σ'=[]:=by
 unfold zO at h;split at h
 ·obtain⟨t,_,h⟩:=bg.1 h;split at h
  ·injection h with h;injection h with h1 h2
   exact⟨_,_,h1.symm,h2.symm⟩
  ·split at h
   ·injection h with h;injection h with h1 h2
    exact⟨[],_,h1.symm,h2.symm⟩
   ·cases h
 ·injection h with h;injection h with h1 h2
  exact⟨[],_,h1.symm,h2.symm⟩
theorem akE:Sound Tryz.prog aJ 5 tI:=by
 intro args σ r σ' h;unfold tI A.oS at h;split at h;case h_2=>cases h
 rename_i x0 x1 x2;simp only at h;split at h;case h_2=>cases h
 rename_i ps bs gs ds fs rate es;obtain⟨q,hq,h⟩:=bg.1 h;split at h;case h_2=>cases h
 rename_i e;split at h;case isFalse=>cases h
 rename_i hel;obtain⟨out,ft,rfl,rfl⟩:=abO h;refine .inl ⟨5,Tryz.call5,λz vs e1 e2 hh ha=>?_⟩;have hE:z.E=[]:=by have:=hh.len;simpa [ctx]using this
 rw[hE]at ha hh
 obtain⟨w1,w3,q1,Wf,Wg⟩:∃w1 w3,vs.toList=[w1,.int ε rate,w3]/\an (ctx z z.w [] cg) (.agg [.sl 3 ps,.sl 4 bs,.sl 3 gs,.sl 2 ds,.sl 3 fs]) w1/\an (ctx z z.w [] cg) (.sl 6 es) w3:=by have ha':=ha;rw[aF]at ha';obtain⟨w1,vs1,e3,h3,ha'⟩:=ha';rw[aF]at ha';obtain⟨w2,vs2,e4,h4,ha'⟩:=ha';rw[aF]at ha';obtain⟨w3,WC,e5,h5,ha'⟩:=ha';rw[aF]at ha';rw[an]at h4;subst ha';subst e5;subst e4;subst h4;exact⟨w1,w3,e3,h3,h5⟩
 obtain⟨va,rfl,a1,c1,a2,c2,a3,c3,a4,c4,a5,c5,q2⟩:∃va,w1=.agg va/\∃a1 c1 a2 c2 a3 c3 a4 c4 a5 c5,va.toList=[.slice a1 ps.length c1,.slice a2 bs.length c2,.slice a3 gs.length c3,.slice a4 ds.length c4,.slice a5 fs.length c5]:=by rw[an]at Wf;obtain⟨va,e3,h3,_⟩:=Wf;simp only[aF]at h3;obtain⟨s1,vs2,e4,h4,s2,WC,e5,h5,s3,vs4,e6,h6,s4,vs5,e7,h7,s5,vs6,e8,h8,h9⟩:=h3;subst h9;subst e8;subst e7;subst e6;subst e5;rw[an]at h4 h5 h6 h7 h8;obtain⟨a1,c1,f1,_⟩:=h4;obtain⟨a2,c2,f2,_⟩:=h5;obtain⟨a3,c3,f3,_⟩:=h6;obtain⟨a4,c4,f4,_⟩:=h7;obtain⟨a5,c5,f5,_⟩:=h8;exact⟨va,e3,a1,c1,a2,c2,a3,c3,a4,c4,a5,c5,by rw[e4,f1,f2,f3,f4,f5]⟩
 obtain⟨a6,c6,rfl⟩:∃a6 c6,w3=.slice a6 es.length c6:=by rw[an]at Wg;obtain⟨a6,c6,e6,_⟩:=Wg;exact⟨a6,c6,e6⟩
 obtain rfl:vs=#[.agg va,.int ε rate,.slice a6 es.length c6]:=jv.1 (by rw[q1]);obtain rfl:va=#[.slice a1 ps.length c1,.slice a2 bs.length c2,.slice a3 gs.length c3,.slice a4 ds.length c4,.slice a5 fs.length c5]:=jv.1 (by rw[q2]);refine(aja e1 hE e2 ha hq hel h).mono ?_;rintro e w' ⟨rfl,hb⟩;have hout:Out z z.w z.E:=⟨rfl,rfl,rfl,bL _,λ_ _ _=>rfl,λi p hp=>.inr ⟨p,hp,rfl⟩,λi p hp=>⟨p,hp,.inl rfl⟩,e2,λp hp=>by rw[hE]at hp;cases hp⟩
 refine⟨_,z.E,rfl,hout.grow hb,?_,?_⟩
 ·rw[hE];exact hh.mono (pe hb) rfl (λp hp=>by cases hp)
 ·simp [an,aF]
end
section
theorem Xc:Sound Tryz.prog aJ 3 Pf:=q4 [4] 87 (.s .n (.s .n (.s (.s .n (.j (.s .n aW) .n)) (.s .n (.s aW (.s .n (.s aW (.s .n aR)))))))) (Δ akE (Δ aas (Δ adr l9))) Tryz.func3 Tryz.call3 (λa0 a1 a2 a3 σ=>by kernel_rfl) rfl rfl
end
instance : Inhabited ByteArray := ⟨⟨#[]⟩⟩
instance : Inhabited lF := ⟨⟨0, 0⟩⟩
instance : Inhabited pE := ⟨⟨0, []⟩⟩
instance : Inhabited T7 := ⟨⟨0, 0, 0, 0, 0, ⟨0, []⟩⟩⟩
instance : Inhabited adZ := ⟨⟨0, 0⟩⟩
instance : Inhabited mu := ⟨⟨0, 0, ⟨#[]⟩⟩⟩
instance : Inhabited iL := ⟨⟨⟨#[]⟩, 0, 0, 0, 0, ξ, []⟩⟩
instance : Inhabited dI := ⟨⟨⟨#[]⟩, 0, []⟩⟩
instance : Inhabited fT := ⟨⟨0, ⟨#[]⟩, 0, 0⟩⟩
instance : Inhabited fA := ⟨⟨[], []⟩⟩
instance : Inhabited bP := ⟨⟨0, ⟨#[]⟩⟩⟩
theorem C2(a b:bP):XL (.s [0,2]) (.agg (ct a)) (.agg (ct b))=δ (decide (a=b)):=by obtain⟨x1,x2⟩:=a;obtain⟨DW,xW⟩:=b;simp only[XL,ct,XC,A.jQ,A.jR,A.rB,A.mR,if_true,aA,fB,bq];congr 1;rw[iX];simp [and_assoc]
theorem afu(a b:bP):p5 (.s [0,2]) (.agg (ct a)) (.agg (ct b))=δ (.bool (decide (a=b))):=by rw[p5,C2];rfl
instance : Inhabited so := ⟨⟨⟨0, ⟨#[]⟩⟩, 0⟩⟩
instance : Inhabited iz := ⟨⟨0, ⟨#[]⟩, []⟩⟩
instance : Inhabited agw := ⟨⟨[], 0, 0⟩⟩
instance : Inhabited lG := ⟨⟨0, 0⟩⟩
theorem abN(a b:lG):XL (.s [0,0]) (.agg (ue a)) (.agg (ue b))=δ (decide (a=b)):=by obtain⟨x1,x2⟩:=a;obtain⟨DW,xW⟩:=b;simp only[XL,ue,XC,A.jQ,A.jR,A.rB,A.mR,if_true,aA,fB,bq];congr 1;rw[iX];simp [and_assoc]
theorem ady(a b:lG):XQ (.s [0,0]) (.agg (ue a)) (.agg (ue b))=δ (.bool (decide (¬(a=b)))):=by rw[XQ,abN,fB,decide_not]
instance : Inhabited kj := ⟨⟨⟨0, ⟨#[]⟩⟩, ⟨0, 0⟩, ξ, ξ, 0, 0⟩⟩
instance : Inhabited cr := ⟨⟨0, ⟨#[]⟩, 0, 0, 0, 0, ⟨0, []⟩, ξ, 0, []⟩⟩
instance : Inhabited afi := ⟨⟨⟨0, ⟨#[]⟩⟩, ⟨0, 0⟩, 0⟩⟩
instance : Inhabited af6 := ⟨⟨0, 0, 0⟩⟩
instance : Inhabited gX := ⟨⟨0, []⟩⟩
instance : Inhabited jq := ⟨⟨0, 0, 0⟩⟩
instance : Inhabited dM := ⟨⟨⟨[], []⟩, [], [], []⟩⟩
instance : Inhabited bF := ⟨⟨0, 0, 0, 0, 0⟩⟩
instance : Inhabited cV := ⟨⟨0, ⟨0, 0, 0, 0, 0⟩⟩⟩
theorem abM(a b:cV):XL (.s [0,0,0,0,0,0]) (.agg (cE a)) (.agg (cE b))=δ (decide (a=b)):=by obtain⟨x1,⟨x2,x3,x4,x5,x6⟩⟩:=a;obtain⟨DW,⟨xW,VD,VE,DX,VF⟩⟩:=b;simp only[XL,cE,XC,A.jQ,A.jR,A.rB,A.mR,if_true,aA,fB,bq];congr 1;rw[iX];simp [and_assoc]
theorem adx(a b:cV):XQ (.s [0,0,0,0,0,0]) (.agg (cE a)) (.agg (cE b))=δ (.bool (decide (¬(a=b)))):=by rw[XQ,abM,fB,decide_not]
instance : Inhabited iM := ⟨⟨0, 0, 0, 0⟩⟩
instance : Inhabited UN := ⟨⟨⟨0, ⟨#[]⟩⟩, ⟨0, 0, 0, 0, 0, ⟨0, []⟩⟩, 0, ξ⟩⟩
instance : Inhabited abz := ⟨⟨0, 0, 0, ξ, 0, []⟩⟩
instance : Inhabited P8 := ⟨⟨0, 0, 0⟩⟩
instance : Inhabited SA := ⟨⟨0, 0, 0, 0, 0, 0, ξ, ξ, []⟩⟩
instance : Inhabited T8 := ⟨⟨0, 0⟩⟩
instance : Inhabited acR := ⟨⟨⟨0, 0, 0, 0, 0, 0, ξ, ξ, []⟩, [], 0, [], 0, 0, 0⟩⟩
section
def Rf{β τ:Type}(M:Option β)(T:Option τ)(Q:τ->β->Prop):Prop:=∀t,T=δ t->∃b,M=δ b/\Q t b
section
variable {α β ω τ ζ : Type}
theorem aj{M0:Option α}{K:α->Option β}{T:Option τ}{Q:τ->β->Prop}(a:α)(h:M0=δ a)(k:Rf (K a) T Q):Rf (M0.bind K) T Q:=by intro t ht;obtain⟨b,h1,h2⟩:=k t ht;exact⟨b,by rw[h];exact h1,h2⟩
theorem aL{M0:Option α}{K:α->Option β}{o:Option ω}{K':ω->Option τ}{Q:τ->β->Prop}(e:ω->α)(h:∀t,o=δ t->M0=δ (e t))(k:∀t,o=δ t->Rf (K (e t)) (K' t) Q):Rf (M0.bind K) (o.bind K') Q:=by intro t ht;obtain⟨x,h1,h2⟩:=bg.1 ht;obtain⟨b,h3,h4⟩:=k x h1 t h2;exact⟨b,by rw[h x h1];exact h3,h4⟩
theorem kP{M0:Option α}{K:α->Option β}{o:Option ω}{K':ω->Option τ}{Q:τ->β->Prop}(Q0:ω->α->Prop)(h:Rf M0 o Q0)(k:∀t a,Q0 t a->Rf (K a) (K' t) Q):Rf (M0.bind K) (o.bind K') Q:=by intro t ht;obtain⟨x,h1,h2⟩:=bg.1 ht;obtain⟨a,h3,h4⟩:=h x h1;obtain⟨b,h5,h6⟩:=k x a h4 t h2;exact⟨b,by rw[h3];exact h5,h6⟩
theorem aS{t:τ}{b:β}{Q:τ->β->Prop}(h:Q t b):Rf (δ b) (δ t) Q:=by intro u hu;cases hu;exact⟨b,rfl,h⟩
theorem aN{M:Option β}{t:τ}{Q:τ->β->Prop}(b:β)(e:M=δ b)(h:Q t b):Rf M (δ t) Q:=by rw[e];exact aS h
theorem ae0{M:Option β}{Q:τ->β->Prop}:Rf M (μ:Option τ) Q:=by intro u hu;cases hu
theorem MZ{M:Option β}{p:Prop}[Decidable p]{T:Option τ}{Q:τ->β->Prop}(h:p->Rf M T Q):Rf M (if p then T else μ) Q:=by
 split
 ·exact h ‹_›
 ·exact ae0
theorem bR{p:Prop}[Decidable p]{X Y:Option β}{X' Y':Option τ}{Q:τ->β->Prop}(h1:p->Rf X X' Q)(h2:¬p->Rf Y Y' Q):Rf (φ (.bool (decide p)) X Y) (if p then X' else Y') Q:=by
 by_cases h:p
 ·simp only[h,decide_true,if_true];exact h1 h
 ·simp only[h,decide_false,if_false];exact h2 h
theorem cR{c:Bool}{X Y:Option β}{X' Y':Option τ}{Q:τ->β->Prop}(h1:c=θ->Rf X X' Q)(h2:c=ξ->Rf Y Y' Q):Rf (φ (.bool c) X Y) (if c=θ then X' else Y') Q:=by
 cases c
 ·exact h2 rfl
 ·exact h1 rfl
theorem mK{X Y:Option β}{T:Option τ}{Q:τ->β->Prop}(h:Rf X T Q):Rf (φ (.bool θ) X Y) T Q:=h
theorem mJ{X Y:Option β}{T:Option τ}{Q:τ->β->Prop}(h:Rf Y T Q):Rf (φ (.bool ξ) X Y) T Q:=h
theorem fF{c:Bool}{X Y:Option β}{T:Option τ}{Q:τ->β->Prop}(e:c=θ)(h:Rf X T Q):Rf (bif c then X else Y) T Q:=by rw[e];exact h
theorem nH{c:Bool}{X Y:Option β}{T:Option τ}{Q:τ->β->Prop}(e:c=ξ)(h:Rf Y T Q):Rf (bif c then X else Y) T Q:=by rw[e];exact h
def gv{α:Type}(g:Bool)(e:α->U)(t:α):U:=bif g then e t else .az []
end
inductive Lr (S B R : Type) where
 |go(s:S)
 |kQ(b:B)
 |ret(r:R)
def gz{α S B R:Type}(body:Nat->α->S->Option (Lr S B R))(fin:S->Option B):List α->Nat->S->Option (B ⊕ R)
 |[],_,s=>(fin s).map .inl
 |x::l,i,s=>(body i x s).bind λq=>match q with|.go s'=>gz body fin l (i+1) s'|.kQ b=>δ (.inl b)|.ret r=>δ (.inr r)
def iB{α S B R γ:Type}(l:List α)(body:Nat->α->S->Option (Lr S B R))(fin:S->Option B)(s:S)(K1:B->Option γ)(K2:R->Option γ):Option γ:=
 if l.length<=bu then(gz body fin l 0 s).bind λq=>q.elim K1 K2 else μ
def oX{S B R:Type}(body:S->Option (Lr S B R)):Nat->S->Option (B ⊕ R)
 |0,_=>μ
 |n+1,s=>(body s).bind λq=>match q with|.go s'=>oX body n s'|.kQ b=>δ (.inl b)|.ret r=>δ (.inr r)
def rQ {S B R:Type} (body:S->Option (Lr S B R)) (s:S):Option (B ⊕ R):=open Classical in if h:∃n r,oX body n s=δ r then δ (ak5 (Zt h))else μ
def mh {S B R γ:Type} (body:S->Option (Lr S B R)) (s:S) (K1:B->Option γ) (K2:R->Option γ):Option γ:=(rQ body s).bind λq=>q.elim K1 K2
theorem aeB{S B R:Type}{body:S->Option (Lr S B R)}:∀{n m:Nat}{s:S}{r r':B ⊕ R},oX body n s=δ r->oX body m s=δ r'->r=r':=by
 intro n;induction n with
 |zero=>intro m s r r' h;cases h
 |succ n ih=>
  intro m s r r' h1 h2;cases m with
  |zero=>cases h2
  |succ m=>
   simp only[oX]at h1 h2;cases hf:body s with
   |none=>rw[hf]at h1;cases h1
   |some q=>
    rw[hf]at h1 h2;simp only[aA]at h1 h2;cases q with
    |go s'=>exact ih h1 h2
    |kQ b=>simp only at h1 h2;rw[h1]at h2;injection h2
    |ret b=>simp only at h1 h2;rw[h1]at h2;injection h2
theorem Hu{S B R:Type}{body:S->Option (Lr S B R)}{n:Nat}{s:S}{r:B ⊕ R}(h:oX body n s=δ r):rQ body s=δ r:=by
 have hex:∃n r,oX body n s=δ r:=⟨n,r,h⟩
 unfold rQ;rw[dif_pos hex];exact congrArg δ (aeB (Zt (Zt hex)) h)
theorem MM{S B R:Type}{body:S->Option (Lr S B R)}{s:S}{r:B ⊕ R}(h:rQ body s=δ r):∃n,oX body n s=δ r:=by
 unfold rQ at h;split at h
 ·rename_i hx;injection h with h
  subst h;exact⟨_,Zt (Zt hx)⟩
 ·cases h
theorem LX{S B R:Type}(body:S->Option (Lr S B R))(s:S):rQ body s=(body s).bind λq=>match q with|.go s'=>rQ body s'|.kQ b=>δ (.inl b)|.ret r=>δ (.inr r):=by
 cases hf:body s with
 |none=>
  rw[Option.bind_none];unfold rQ;rw[dif_neg];rintro⟨n,r,h⟩;cases n with
  |zero=>cases h
  |succ n=>simp [oX,hf]at h
 |some q=>
  rw[aA];cases q with
  |kQ b=>exact Hu (n:=1) (by simp [oX,hf])
  |ret b=>exact Hu (n:=1) (by simp [oX,hf])
  |go s'=>
   show rQ body s=rQ body s';cases h:rQ body s' with
   |some r=>obtain⟨n,hn⟩:=MM h;exact Hu (n:=n+1) (by simp [oX,hf,hn])
   |none=>
    cases h2:rQ body s with
    |none=>rfl
    |some r=>
     obtain⟨n,hn⟩:=MM h2;cases n with
     |zero=>cases hn
     |succ n=>simp only[oX,hf,aA]at hn;rw[Hu hn]at h;cases h
section
variable {α S B R β τ : Type}
abbrev LS:=AX×au×Heap
def DY(I:S->au->Heap->Prop)(QB:B->LS->Prop)(QR:R->LS->Prop)(t:Lr S B R)(q:LS):Prop:=match t with
 |.go s=>q.1=.normal/\I s q.2.1 q.2.2
 |.kQ b=>q.1≠.normal/\QB b q
 |.ret r=>q.1≠.normal/\QR r q
theorem ke{I:S->au->Heap->Prop}{QB:B->LS->Prop}{QR:R->LS->Prop}{s:S}{v:au}{σ:Heap}(h:I s v σ):DY I QB QR (.go s) (.normal,v,σ):=⟨rfl,h⟩
theorem C9{I:S->au->Heap->Prop}{QB:B->LS->Prop}{QR:R->LS->Prop}{b:B}{q:LS}(n:q.1≠.normal)(h:QB b q):DY I QB QR (.kQ b) q:=⟨n,h⟩
theorem eM{I:S->au->Heap->Prop}{QB:B->LS->Prop}{QR:R->LS->Prop}{r:R}{q:LS}(n:q.1≠.normal)(h:QR r q):DY I QB QR (.ret r) q:=⟨n,h⟩
theorem mB{f:au->Heap->Option LS}{K:LS->Option β}{Q:τ->β->Prop}{l:List α}{body:Nat->α->S->Option (Lr S B R)}{fin:S->Option B}{s0:S}{K1:B->Option τ}{K2:R->Option τ}{v0:au}{aP:Heap}
  (I:Nat->S->au->Heap->Prop) (QB:B->LS->Prop) (QR:R->LS->Prop)
  (hstep:l.length<=bu->∀i x s v σ,l[i]? =δ x->I i s v σ->Rf (f v σ) (body i x s) (DY (I (i+1)) QB QR))
  (hend:l.length<=bu->∀s v σ,I l.length s v σ->Rf (f v σ) (fin s) (λb q=>q.1≠.normal/\QB b q))
  (h0:I 0 s0 v0 aP) (k1:l.length<=bu->∀b q,QB b q->Rf (K q) (K1 b) Q) (k2:l.length<=bu->∀r q,QR r q->Rf (K q) (K2 r) Q):
  Rf ((WY f v0 aP).bind K) (iB l body fin s0 K1 K2) Q:=by
 unfold iB;refine MZ λhl=>?_
 have hstep:=hstep hl;have hend:=hend hl
 have key:∀(rest pre:List α)(s:S)(v:au)(σ:Heap),l=pre++rest->I pre.length s v σ->∀t,gz body fin rest pre.length s=δ t->∃q,(∃n,XB f n v σ=δ q)/\(match t with|.inl b=>QB b q|.inr r=>QR r q):=by
  intro rest;induction rest with
  |nil=>intro pre s v σ hl hI t ht;rw[WQ]at hl;subst hl;simp only[gz]at ht;obtain⟨b,hb,rfl⟩:=cO.1 ht;obtain⟨q,h1,h2,h3⟩:=hend s v σ hI b hb;exact⟨q,yM h1 h2,h3⟩
  |cons x rest ih=>
   intro pre s v σ hl hI t ht;simp only[gz]at ht;obtain⟨y,hy,h2⟩:=bg.1 ht;obtain⟨q,h3,h4⟩:=hstep pre.length x s v σ (by rw[hl];simp) hI y hy;obtain⟨e,v',σ'⟩:=q;cases y with
   |go s'=>obtain⟨rfl,Eg⟩:=h4;obtain⟨q,h5,h6⟩:=ih (pre++[x]) s' v' σ' (by simpa using hl) (by simpa using Eg) t (by simpa using h2);exact⟨q,Lx h3 h5,h6⟩
   |kQ b=>simp only[χ]at h2;subst h2;exact⟨_,yM h3 h4.1,h4.2⟩
   |ret b=>simp only[χ]at h2;subst h2;exact⟨_,yM h3 h4.1,h4.2⟩
 intro t ht;obtain⟨y,hy,h2⟩:=bg.1 ht;obtain⟨q,⟨n,hn⟩,h3⟩:=key l [] s0 v0 aP rfl h0 y hy;cases y with
 |inl b=>obtain⟨z,h4,h5⟩:=k1 hl b q h3 t h2;exact⟨z,by rw[Cu hn];exact h4,h5⟩
 |inr b=>obtain⟨z,h4,h5⟩:=k2 hl b q h3 t h2;exact⟨z,by rw[Cu hn];exact h4,h5⟩
theorem HF{f:au->Heap->Option LS}{K:LS->Option β}{Q:τ->β->Prop}{body:S->Option (Lr S B R)}{s0:S}{K1:B->Option τ}{K2:R->Option τ}{v0:au}{aP:Heap}
  (I:S->au->Heap->Prop) (QB:B->LS->Prop) (QR:R->LS->Prop)
  (hstep:∀s v σ,I s v σ->Rf (f v σ) (body s) (DY I QB QR))
  (h0:I s0 v0 aP) (k1:∀b q,QB b q->Rf (K q) (K1 b) Q) (k2:∀r q,QR r q->Rf (K q) (K2 r) Q):
  Rf ((WY f v0 aP).bind K) (mh body s0 K1 K2) Q:=by
 have key:∀(n:Nat)(s:S)(v:au)(σ:Heap),I s v σ->∀t,oX body n s=δ t->∃q,(∃n,XB f n v σ=δ q)/\(match t with|.inl b=>QB b q|.inr r=>QR r q):=by
  intro n;induction n with
  |zero=>intro s v σ hI t ht;cases ht
  |succ n ih=>
   intro s v σ hI t ht;simp only[oX]at ht;obtain⟨y,hy,h2⟩:=bg.1 ht;obtain⟨q,h3,h4⟩:=hstep s v σ hI y hy;obtain⟨e,v',σ'⟩:=q;cases y with
   |go s'=>obtain⟨rfl,Eg⟩:=h4;obtain⟨q,h5,h6⟩:=ih s' v' σ' Eg t h2;exact⟨q,Lx h3 h5,h6⟩
   |kQ b=>simp only[χ]at h2;subst h2;exact⟨_,yM h3 h4.1,h4.2⟩
   |ret b=>simp only[χ]at h2;subst h2;exact⟨_,yM h3 h4.1,h4.2⟩
 intro t ht;obtain⟨y,hy,h2⟩:=bg.1 ht;obtain⟨n,hn⟩:=MM hy;obtain⟨q,⟨m,hm⟩,h3⟩:=key n s0 v0 aP h0 y hn;cases y with
 |inl b=>obtain⟨z,h4,h5⟩:=k1 b q h3 t h2;exact⟨z,by rw[Cu hm];exact h4,h5⟩
 |inr b=>obtain⟨z,h4,h5⟩:=k2 b q h3 t h2;exact⟨z,by rw[Cu hm];exact h4,h5⟩
theorem mH{l:List α}{i:Nat}{x:α}(h:l[i]? =δ x):Y3 (.ah (i:Int)) (.ah (l.length:Int))=δ (.bool θ):=by have:=(cL.1 h).1;rw[BF];simp;omega
theorem mw(l:List α):Y3 (.ah (l.length:Int)) (.ah (l.length:Int))=δ (.bool ξ):=by rw[BF];simp
theorem mA{l:List α}{i:Nat}{x:α}(h:l[i]? =δ x)(hl:l.length<=bu):u0 (.ah (i:Int)) (.ah 1)=δ (.ah ((i+1:Nat):Int)):=by have:=(cL.1 h).1;rw[Nb,bp (by unfold aG;unfold bu at hl;omega)];simp
def eL(l:List α)(i:Int):Option α:=if 0<=i then l[i.toNat]? else μ
theorem kq{sz:Nat}{c:α->au}{l:List α}{i:Int}{x:α}(h:eL l i=δ x):XI sz (sl sz c l) (.ah i)=δ (.rp (c x)):=by
 unfold eL at h;split at h
 ·exact ab2 sz c l ‹_› h
 ·cases h
theorem mz{sz:Nat}{c:α->au}{l:List α}{i:Nat}{x:α}(h:l[i]? =δ x):XI sz (sl sz c l) (.ah (i:Int))=δ (.rp (c x)):=mm sz c l h
def kF(s:ByteArray)(i:Int):Option Int:=if h:0<=i/\i<s.size then δ ((s[i.toNat]'(by omega)).toNat:Int)else μ
theorem xD{s:ByteArray}{i x:Int}(h:kF s i=δ x):A.jk (.str s) (.ah i)=δ (.int .u8 x):=by
 unfold kF at h;split at h
 ·rename_i h2;injection h with h
  have h3:i.toNat<s.size:=by omega
  simp [A.jk,A.idx,h2,h3,<-h]
 ·cases h
end
theorem dX{M:aC}{v:U}{σ:Heap}(h:M=δ (v,σ)):p6 M σ=δ v:=by rw[h,Li]
def xU(a b:Int):Option Int:=if b=0 then μ else δ (ε.wrap (a.tdiv b))
def xV(a b:Int):Option Int:=if b=0 then μ else δ (a.tmod b)
theorem TS{a b c:Int}(h:xU a b=δ c):A.quo (.ah a) (.ah b)=δ (.ah c):=by
 unfold xU at h;split at h
 ·cases h
 ·injection h with h;subst h;exact vN a b ‹_›
theorem TU{a b c:Int}(h:xV a b=δ c):A.rem (.ah a) (.ah b)=δ (.ah c):=by
 unfold xV at h;split at h
 ·cases h
 ·injection h with h;subst h;exact vO a b ‹_›
def tq {α:Type} (p:Prop) (x:α):Option α:=open Classical in if p then δ x else μ
theorem cX{α:Type}{p:Prop}{x:α}(h:p):tq p x=δ x:=aE h
theorem eP{α β:Type}{p:Prop}{x r:α}{M:Option β}{e:α->β}(h:p->M=δ (e x))(k:tq p x=δ r):M=δ (e r):=by
 unfold tq at k;split at k
 ·rename_i hp;injection k with k;subst k;exact h hp
 ·cases k
theorem ga(b t:Bool):i6 (.bool b) (bif b then .bool t else .az []) (.bool ξ)=δ (.bool (b&&t)):=by cases b<;>rfl
theorem eF(b t:Bool):i6 (.bool b) (.bool θ) (bif !b then .bool t else .az [])=δ (.bool (b||t)):=by cases b<;>rfl
section
variable {α β ω τ : Type} {G b : Bool} {M0 : Option U} {K : U -> Option β} {T : Option τ} {K' : ω -> Option τ} {o : Option ω} {Q : τ -> β -> Prop}
theorem bl(a:U)(h:b=θ->M0=δ a)(k:Rf (K (bif b then a else .az [])) T Q):Rf ((ι (.bool b) θ M0 (δ (.az []))).bind K) T Q:=by refine aj _ ?_ k;cases b<;>simp_all [ι]
theorem bf(a:U)(h:(!b)=θ->M0=δ a)(k:Rf (K (bif !b then a else .az [])) T Q):Rf ((ι (.bool b) ξ M0 (δ (.az []))).bind K) T Q:=by refine aj _ ?_ k;cases b<;>simp_all [ι]
theorem gM(a:U)(h:(G&&b)=θ->M0=δ a)(k:Rf (K (bif G&&b then a else .az [])) T Q):Rf ((ι (bif G then .bool b else .az []) θ M0 (δ (.az []))).bind K) T Q:=by refine aj _ ?_ k;cases G<;>cases b<;>simp_all [ι]
theorem jJ(a:U)(h:(G&&!b)=θ->M0=δ a)(k:Rf (K (bif G&&!b then a else .az [])) T Q):Rf ((ι (bif G then .bool b else .az []) ξ M0 (δ (.az []))).bind K) T Q:=by refine aj _ ?_ k;cases G<;>cases b<;>simp_all [ι]
theorem HE{g:Bool}{M:Option U}{d:ω}(e:ω->U)(hM:M=bif g then M0 else δ (.az []))(h:g=θ->∀t,o=δ t->M0=δ (e t))(k:∀t,(g=θ->o=δ t)->Rf (K (bif g then e t else .az [])) (K' t) Q):Rf (M.bind K) ((if g=θ then o else δ d).bind K') Q:=by
 subst hM;cases g
 ·exact k d (by simp)
 ·intro t ht;simp only[if_true]at ht;obtain⟨x,h1,h2⟩:=bg.1 ht;obtain⟨y,h3,h4⟩:=k x (λ_=>h1) t h2;refine⟨y,?_,h4⟩;simp only[bG,h rfl x h1,aA];exact h3
theorem mC{d:ω}(e:ω->U)(h:b=θ->∀t,o=δ t->M0=δ (e t))(k:∀t,(b=θ->o=δ t)->Rf (K (bif b then e t else .az [])) (K' t) Q):Rf ((ι (.bool b) θ M0 (δ (.az []))).bind K) ((if b=θ then o else δ d).bind K') Q:=HE e (by cases b<;>rfl) h k
theorem Bq{d:ω}(e:ω->U)(h:(!b)=θ->∀t,o=δ t->M0=δ (e t))(k:∀t,((!b)=θ->o=δ t)->Rf (K (bif !b then e t else .az [])) (K' t) Q):Rf ((ι (.bool b) ξ M0 (δ (.az []))).bind K) ((if(!b)=θ then o else δ d).bind K') Q:=HE e (by cases b<;>rfl) h k
theorem Mi{d:ω}(e:ω->U)(h:(G&&b)=θ->∀t,o=δ t->M0=δ (e t))(k:∀t,((G&&b)=θ->o=δ t)->Rf (K (bif G&&b then e t else .az [])) (K' t) Q):Rf ((ι (bif G then .bool b else .az []) θ M0 (δ (.az []))).bind K) ((if(G&&b)=θ then o else δ d).bind K') Q:=HE e (by cases G<;>cases b<;>rfl) h k
theorem Mh{d:ω}(e:ω->U)(h:(G&&!b)=θ->∀t,o=δ t->M0=δ (e t))(k:∀t,((G&&!b)=θ->o=δ t)->Rf (K (bif G&&!b then e t else .az [])) (K' t) Q):Rf ((ι (bif G then .bool b else .az []) ξ M0 (δ (.az []))).bind K) ((if(G&&!b)=θ then o else δ d).bind K') Q:=HE e (by cases G<;>cases b<;>rfl) h k
theorem Tq(a b:Int):p5 .i (.int .u8 a) (.int .u8 b)=δ (.bool (decide (a=b))):=by simp only[p5,XL,A.jR,if_true,fB];congr 2
theorem afm(a b:Int):XQ .i (.int .u8 a) (.int .u8 b)=δ (.bool (decide (¬(a=b)))):=by simp only[XQ,XL,A.jR,if_true,fB];congr 2;rw[iX];simp
end
theorem Tn{ro:Bool}{dc:List Sh}{dw:Sh}{r:au->Heap->aC}{args args':au}{σ:Heap}(hn:Zs dc args=Zs dc args')(h1:args.any akY=ξ)(h2:args'.any akY=ξ):ir ro dc dw r args σ=ir ro dc dw r args' σ:=by unfold ir;rw[h1,h2,hn,Y4,aZ,aZ]
theorem GZ{τ:Type}{ro:Bool}{dc:List Sh}{dw:Sh}{r:au->Heap->aC}{args args':au}{σ:Heap}{T:Option τ}{enc:τ->U}(hn:Zs dc args=args')(h:args.any akY=ξ)(e:Rf (r args' σ) T (λt b=>Ya dw b.1=enc t/\b.2=σ)):∀t,T=δ t->ir ro dc dw r args σ=δ (enc t,σ):=by intro t ht;obtain⟨⟨v,σ'⟩,h1,h2,h3⟩:=e t ht;simp only at h2 h3;subst h3;exact wrap_eq h (by rw[hn];exact h1) h2
theorem iI{τ:Type}{ro:Bool}{dc:List Sh}{dw:Sh}{f:U->Heap->aC}{x0 y0:U}{σ:Heap}{T:Option τ}{enc:τ->U}(hn:Zs dc [x0]=[y0])(h:([x0]:au).any akY=ξ)(e:Rf (f y0 σ) T (λt b=>Ya dw b.1=enc t/\b.2=σ)):∀t,T=δ t->ir ro dc dw (YF f) [x0] σ=δ (enc t,σ):=GZ hn h e
theorem iJ{τ:Type}{ro:Bool}{dc:List Sh}{dw:Sh}{f:U->U->Heap->aC}{x0 x1 y0 y1:U}{σ:Heap}{T:Option τ}{enc:τ->U}(hn:Zs dc [x0,x1]=[y0,y1])(h:([x0,x1]:au).any akY=ξ)(e:Rf (f y0 y1 σ) T (λt b=>Ya dw b.1=enc t/\b.2=σ)):∀t,T=δ t->ir ro dc dw (Yi f) [x0,x1] σ=δ (enc t,σ):=GZ hn h e
theorem GI{τ:Type}{ro:Bool}{dc:List Sh}{dw:Sh}{f:U->U->U->Heap->aC}{x0 x1 x2 y0 y1 y2:U}{σ:Heap}{T:Option τ}{enc:τ->U}(hn:Zs dc [x0,x1,x2]=[y0,y1,y2])(h:([x0,x1,x2]:au).any akY=ξ)(e:Rf (f y0 y1 y2 σ) T (λt b=>Ya dw b.1=enc t/\b.2=σ)):∀t,T=δ t->ir ro dc dw (A.oS f) [x0,x1,x2] σ=δ (enc t,σ):=GZ hn h e
theorem adI{τ:Type}{ro:Bool}{dc:List Sh}{dw:Sh}{f:U->U->U->U->Heap->aC}{x0 x1 x2 x3 y0 y1 y2 y3:U}{σ:Heap}{T:Option τ}{enc:τ->U}(hn:Zs dc [x0,x1,x2,x3]=[y0,y1,y2,y3])(h:([x0,x1,x2,x3]:au).any akY=ξ)(e:Rf (f y0 y1 y2 y3 σ) T (λt b=>Ya dw b.1=enc t/\b.2=σ)):∀t,T=δ t->ir ro dc dw (A.D0 f) [x0,x1,x2,x3] σ=δ (enc t,σ):=GZ hn h e
end
section
inductive Ct where
 |s(sz:Nat)(es:List au)
 |m(es:List (U×U))
 |b(cs:au)
def uz:U->Option Nat
 |.os id _ _ _ _=>δ id
 |.om id=>δ id
 |.op id _=>δ id
 |_=>μ
def Own(n:Nat)(σ:Heap)(p:U×Ct):Prop:=match p.2 with
 |.s sz es=>(p.1=.bA/\es=[])\/∃id g off a,p.1=.os id g sz off es.length/\n<=id/\σ[id]? =δ (.arr g sz a)/\off<=a.length/\a.drop off=es
 |.m es=>∃id,p.1=.om id/\n<=id/\σ[id]? =δ (.map es)
 |.b cs=>∃id,p.1=.op id 0/\n<=id/\σ[id]? =δ (.box cs)
structure Hp (aP σ : Heap) (L : List (U × Ct)) : Prop where
 pre:∃bs,σ=aP++bs
 own:∀(i:Nat)p,L[i]? =δ p->Own aP.length σ p
 sep:∀(i j:Nat)p q a,L[i]? =δ p->L[j]? =δ q->uz p.1=δ a->uz q.1=δ a->i=j
section
variable {aP σ σ' : Heap} {L : List (U × Ct)} {n : Nat}
theorem Mv(σ:Heap):Hp σ σ []:=⟨⟨[],by simp⟩,by simp,by simp⟩
theorem ME{p:U×Ct}{a:Nat}(h:Own n σ p)(e:uz p.1=δ a):n<=a/\a<σ.length:=by
 obtain⟨v,c⟩:=p;cases c with
 |s sz es=>
  rcases h with⟨h1,_⟩|⟨id,g,off,x,h1,h2,h3,_⟩
  ·simp only at h1;subst h1;cases e
  ·simp only at h1;subst h1;injection e with e;subst e;exact⟨h2,(cL.1 h3).1⟩
 |m es=>obtain⟨id,h1,h2,h3⟩:=h;simp only at h1;subst h1;injection e with e;subst e;exact⟨h2,(cL.1 h3).1⟩
 |b es=>obtain⟨id,h1,h2,h3⟩:=h;simp only at h1;subst h1;injection e with e;subst e;exact⟨h2,(cL.1 h3).1⟩
theorem Sj{p:U×Ct}(h:Own n σ p)(k:∀a,uz p.1=δ a->σ'[a]? =σ[a]?):Own n σ' p:=by
 obtain⟨v,c⟩:=p;cases c with
 |s sz es=>
  rcases h with h|⟨id,g,off,x,h1,h2,h3,h4⟩
  ·exact .inl h
  ·simp only at h1;subst h1;exact .inr ⟨id,g,off,x,rfl,h2,by rw[k id rfl];exact h3,h4⟩
 |m es=>obtain⟨id,h1,h2,h3⟩:=h;simp only at h1;subst h1;exact⟨id,rfl,h2,by rw[k id rfl];exact h3⟩
 |b es=>obtain⟨id,h1,h2,h3⟩:=h;simp only at h1;subst h1;exact⟨id,rfl,h2,by rw[k id rfl];exact h3⟩
theorem aeV(h:∃bs,σ=aP++bs){id:Nat}(hn:aP.length<=id)(b:bH):∃bs,σ.set id b=aP++bs:=by obtain⟨bs,rfl⟩:=h;exact⟨bs.set (id-aP.length) b,by rw[BD _ _ hn]⟩
theorem TE(H:Hp aP σ L){k id:Nat}{h h':U}{c c':Ct}{b:bH}(hk:L[k]? =δ (h,c))(hi:uz h=δ id)(hi':uz h'=δ id)(ho:Own aP.length (σ.set id b) (h',c')):Hp aP (σ.set id b) (L.set k (h',c')):=by
 have hid:=ME (H.own k _ hk) hi;have hkl:=(cL.1 hk).1;refine⟨aeV H.pre hid.1 b,λi p hp=>?_,λi j p q a hp hq e1 e2=>?_⟩
 ·rw[gG]at hp;split at hp
  ·rename_i e;subst e;simp [hkl]at hp;subst hp;exact ho
  ·rename_i e;refine Sj (H.own i p hp) λa ha=>?_
   rw[gG];split
   ·rename_i e';subst e';exact absurd (H.sep k i _ _ id hk hp hi ha) e
   ·rfl
 ·have key:∀(i:Nat)(p:U×Ct),(L.set k (h',c'))[i]? =δ p->uz p.1=δ a->∃p',L[i]? =δ p'/\uz p'.1=δ a:=by
   intro i p hp e;rw[gG]at hp;split at hp
   ·rename_i e';subst e';simp [hkl]at hp;subst hp;exact⟨_,hk,by rw[hi];rw[hi']at e;exact e⟩
   ·exact⟨p,hp,e⟩
  obtain⟨p',hp',e1'⟩:=key i p hp e1;obtain⟨q',wz,Ed⟩:=key j q hq e2;exact H.sep i j p' q' a hp' wz e1' Ed
theorem SU(H:Hp aP σ L){h':U}{c':Ct}{b:bH}(hi':uz h'=δ σ.length)(ho:Own aP.length (σ++[b]) (h',c')):Hp aP (σ++[b]) (L++[(h',c')]):=by
 refine⟨?_,λi p hp=>?_,λi j p q a hp hq e1 e2=>?_⟩
 ·obtain⟨bs,rfl⟩:=H.pre;exact⟨bs++[b],by simp⟩
 ·rw[List.getElem?_append]at hp;split at hp
  ·refine Sj (H.own i p hp) λa ha=>?_
   have:=(ME (H.own i p hp) ha).2;rw[iV this]
  ·have hp':=(cL.1 hp).2;simp at hp';subst hp';exact ho
 ·have key:∀(i:Nat)(p:U×Ct),(L++[(h',c')])[i]? =δ p->uz p.1=δ a->(i=L.length/\a=σ.length)\/(L[i]? =δ p/\a<σ.length):=by
   intro i p hp e;rw[List.getElem?_append]at hp;split at hp
   ·exact .inr ⟨hp,(ME (H.own i p hp) e).2⟩
   ·obtain⟨h1,h2⟩:=cL.1 hp;simp at h1 h2;subst h2;rw[hi']at e;injection e with e;exact .inl ⟨by omega,e.symm⟩
  rcases key i p hp e1 with⟨a1,a2⟩|⟨a1,a2⟩<;>rcases key j q hq e2 with⟨b1,b2⟩|⟨b1,b2⟩
  ·omega
  ·omega
  ·omega
  ·exact H.sep i j p q a a1 b1 e1 e2
theorem Uz(H:Hp aP σ L):Hp aP (σ++[.map []]) (L++[(.om σ.length,.m [])]):=by
 have hl:aP.length<=σ.length:=by obtain⟨bs,rfl⟩:=H.pre;simp
 exact SU H rfl ⟨σ.length,rfl,hl,by simp⟩
theorem agn(H:Hp aP σ L)(cs:au):Hp aP (σ++[.box cs]) (L++[(.op σ.length 0,.b cs)]):=by
 have hl:aP.length<=σ.length:=by obtain⟨bs,rfl⟩:=H.pre;simp
 exact SU H rfl ⟨σ.length,rfl,hl,by simp⟩
theorem aeA(H:Hp aP σ L)(n:Nat):Hp aP σ (L.take n):=by
 have key:∀(i:Nat)(p:U×Ct),(L.take n)[i]? =δ p->L[i]? =δ p:=by
  intro i p h;rw[alg]at h;split at h
  ·exact h
  ·cases h
 exact⟨H.pre,λi p hp=>H.own i p (key i p hp),λi j p q a hp hq=>H.sep i j p q a (key i p hp) (key j q hq)⟩
theorem C4(H:Hp aP σ L):Hp aP σ []:=⟨H.pre,by simp,by simp⟩
theorem aez(H:Hp aP σ L){k:Nat}{h key v:U}{ek:A.EK}{es es':List (U×U)}(hk:L[k]? =δ (h,.m es))(hok:A.ju ek key=θ)(he:alp ek key v es=δ es'):∃σ',A.jy ek h key v σ=δ σ'/\Hp aP σ' (L.set k (h,.m es')):=by obtain⟨id,h1,h2,h3⟩:=H.own k _ hk;simp only at h1 h3;subst h1;have hid:=(cL.1 h3).1;exact⟨σ.set id (.map es'),by simp [A.jy,hok,h3,he],TE H hk rfl rfl ⟨id,rfl,h2,by simp [hid]⟩⟩
theorem aey(H:Hp aP σ L){k:Nat}{h key z:U}{ek:A.EK}{es:List (U×U)}{r:Option U}(hk:L[k]? =δ (h,.m es))(hok:A.ju ek key=θ)(he:YB ek key es=δ r):Yg ek h key z σ=δ (r.getD z):=by obtain⟨id,h1,h2,h3⟩:=H.own k _ hk;simp only at h1 h3;subst h1;rw[xj ek hok h3,he];rfl
theorem Df(H:Hp aP σ L)(k:Nat){id:Nat}{cs:au}(hk:L[k]? =δ (.op id 0,.b cs))(off:Nat):l6 (.op id off) σ=δ (cs.drop off):=by obtain⟨i,h1,h2,h3⟩:=H.own k _ hk;simp only[U.op.injEq]at h1;obtain⟨rfl,_⟩:=h1;simp [l6,h3]
theorem ab1(H:Hp aP σ L)(k:Nat){id:Nat}{cs cs' new:au}(hk:L[k]? =δ (.op id 0,.b cs))(off:Nat)(hs:w8 off new cs=δ cs'):∃σ',akO (.op id off) new σ=δ σ'/\Hp aP σ' (L.set k (.op id 0,.b cs')):=by obtain⟨i,h1,h2,h3⟩:=H.own k _ hk;simp only[U.op.injEq]at h1;obtain⟨rfl,_⟩:=h1;have hid:=(cL.1 h3).1;exact⟨σ.set id (.box cs'),by simp [akO,h3,hs],TE H hk rfl rfl ⟨id,rfl,h2,by simp [hid]⟩⟩
theorem ad6(H:Hp aP σ L)(k:Nat){id:Nat}{cs:au}(hk:L[k]? =δ (.op id 0,.b cs))(hz:iD cs){dc:List Sh}{dw:Sh}{r:au->Heap->aC}{x v:U}(hx:Fz x)(hxo:akY x=ξ)(hs:A.xT v=θ)(e:ir θ dc dw r [x,.rp cs] []=δ (v,[])):ir θ dc dw r [x,.op id 0] σ=δ (v,σ):=by
 obtain⟨i,h1,h2,h3⟩:=H.own k _ hk;simp only[U.op.injEq]at h1;obtain⟨rfl,_⟩:=h1;refine LZ (args':=[x,.rp cs]) (by simp [akY,A.HY]) ?_ (by rw[List.any_cons,hxo];rfl) e hs;have q:A.sC σ 0 7 cs=δ cs:=by rw[GS];exact hz σ 0 7
 simp [Zw,hx σ 0 8,Xz,h3,q]
def NY(aP σ:Heap)(r r':U):Prop:=(∀d,Xz σ aP.length (d+1) r=δ r')/\(σ=aP->r'=r)
theorem Hf{r:U}(h:Fz r):NY aP σ r r:=⟨λd=>h σ _ (d+1),λ_=>rfl⟩
theorem iN{s1:Sh}{v1 w1:U}{ss:List Sh}{vs ws:au}(h1:Ya s1 v1=w1)(h2:Zs ss vs=ws):Zs (s1::ss) (v1::vs)=w1::ws:=by simp only[Zs,h1,h2]
theorem uo:Zs [] []=[]:=by simp [Zs]
theorem NN{ss:List Sh}{vs ws:au}(h:Zs ss vs=ws):Ya (.a ss) (.agg vs)=.agg ws:=by simp only[Ya,h]
theorem BM{ss:List Sh}{vs ws:au}(h:Zs ss vs=ws):Ya (.t ss) (.az vs)=.az ws:=by simp only[Ya,h]
theorem SQ(d:Nat):∀{es:List (U×U)},(∀p∈es,Fz p.1/\Fz p.2)->A.xy σ n d es=δ es
 |[],_=>by simp [A.xy]
 |(k,v)::es,h=>by have h1:=h (k,v) (by simp);simp only[A.xy,h1.1 σ n d,h1.2 σ n d,aA,SQ d (es:=es) (λp hp=>h p (by simp [hp])),fB]
theorem afy(H:Hp aP σ L){k:Nat}{h:U}{es:List (U×U)}(hk:L[k]? =δ (h,.m es))(hc:∀p∈es,Fz p.1/\Fz p.2):NY aP σ h (.fm es):=by
 obtain⟨id,h1,h2,h3⟩:=H.own k _ hk;simp only at h1 h3;subst h1;refine⟨λd=>?_,λe=>?_⟩
 ·simp only[Xz,Nat.not_lt.2 h2,if_false,h3,SQ d hc,fB]
 ·subst e;have:=(cL.1 h3).1;omega
theorem Dg(H:Hp aP σ L){r r':U}(h:NY aP σ r r'):Ξ aP r σ=δ (r',aP):=by
 obtain⟨bs,hb⟩:=H.pre;subst hb;by_cases sX:bs=[]
 ·subst sX;rw[WQ]at h ⊢;rw[aO,h.2 rfl]
 ·unfold Ξ;rw[aD (by simpa using sX),aE (by simp),h.1 7];rfl
end
section
variable {κ ν : Type} [DecidableEq κ]
def jK(k:κ):List (κ×ν)->Option ν
 |[]=>μ
 |(k',v)::r=>if k=k' then δ v else jK k r
def mP(k:κ)(v:ν):List (κ×ν)->List (κ×ν)
 |[]=>[(k,v)]
 |(k',v')::r=>if k=k' then(k,v)::r else(k',v')::mP k v r
variable {ek : A.EK} {eK : κ -> U} {eV : ν -> U} (hq : ∀ a b, XL ek (eK a) (eK b) = δ (decide (a = b)))
include hq
theorem Mt(k:κ):∀l:List (κ×ν),YB ek (eK k) (l.map λp=>(eK p.1,eV p.2))=δ ((jK k l).map eV)
 |[]=>rfl
 |(k',v)::r=>by
  simp only[fH,YB,hq,aA,jK];by_cases h:k=k'
  ·simp [h]
  ·simp [h,Mt k r]
theorem UJ(k:κ)(v:ν):∀l:List (κ×ν),alp ek (eK k) (eV v) (l.map λp=>(eK p.1,eV p.2))=δ ((mP k v l).map λp=>(eK p.1,eV p.2))
 |[]=>rfl
 |(k',v')::r=>by
  simp only[fH,alp,hq,aA,mP];by_cases h:k=k'
  ·simp [h]
  ·simp [h,UJ k v r]
end
theorem getD_map{α:Type}(o:Option α)(f:α->U)(d:α):(o.map f).getD (f d)=f (o.getD d):=by cases o<;>rfl
def Ee{κ ν:Type}(eK:κ->U)(eV:ν->U)(l:List (κ×ν)):U:=.fm (l.map λp=>(eK p.1,eV p.2))
section
variable {κ ν : Type} [DecidableEq κ] {ek : A.EK} {eK : κ -> U} {eV : ν -> U} {aP σ : Heap} {L : List (U × Ct)} {h : U} {l : List (κ × ν)}
theorem SV(H:Hp aP σ L)(k:Nat)(hk:L[k]? =δ (h,.m (l.map λp=>(eK p.1,eV p.2)))) (hq:∀a b,XL ek (eK a) (eK b)=δ (decide (a=b))) (x:κ) (v:ν) (hok:A.ju ek (eK x)=θ):∃σ',A.jy ek h (eK x) (eV v) σ=δ σ'/\Hp aP σ' (L.set k (h,.m ((mP x v l).map λp=>(eK p.1,eV p.2)))):=aez H hk hok (UJ hq x v l)
theorem adn(H:Hp aP σ L)(k:Nat)(hk:L[k]? =δ (h,.m (l.map λp=>(eK p.1,eV p.2)))) (hq:∀a b,XL ek (eK a) (eK b)=δ (decide (a=b))) (x:κ) (z:ν) (hok:A.ju ek (eK x)=θ):Yg ek h (eK x) (eV z) σ=δ (eV ((jK x l).getD z)):=by rw[aey H hk hok (Mt hq x l),getD_map]
theorem ade(hq:∀a b,XL ek (eK a) (eK b)=δ (decide (a=b)))(x:κ)(z:ν)(hok:A.ju ek (eK x)=θ):Yg ek (Ee eK eV l) (eK x) (eV z) σ=δ (eV ((jK x l).getD z)):=by simp only[Yg,Ee,hok,bG,alB,aA,Mt hq,fB,getD_map]
end
section
variable {α : Type} {c : α -> au} {l ys : List α} {aP σ : Heap} {L : List (U × Ct)} {h : U} {sz : Nat}
end
def rM{α:Type}(l:List α)(lo hi:Option Int):Option (List α):=
 let h:=hi.getD l.length
 let k:=lo.getD 0
 if 0<=k/\k<=h/\h<=l.length then δ ((l.take h.toNat).drop k.toNat)else μ
def jV(s:ByteArray)(lo hi:Option Int):Option ByteArray:=
 let h:=hi.getD s.size
 let k:=lo.getD 0
 if 0<=k/\k<=h/\h<=s.size then δ (s.extract k.toNat h.toNat)else μ
theorem TY{α:Type}{sz:Nat}{c:α->au}{l r:List α}{lo hi:Option Int}{σ:Heap}(h:rM l lo hi=δ r):A.yX sz (sl sz c l) (lo.map (.int ε)) (hi.map (.int ε)) σ=δ (sl sz c r):=by
 unfold rM at h;simp only at h;split at h
 ·rename_i hc;injection h with h
  subst h;obtain⟨h1,h2,h3⟩:=hc;simp only[A.yX,sl,if_true,Yo]
  have e1:Xw l.length l.length (hi.map (.int ε))=δ (hi.getD l.length).toNat:=by
   cases hi with
   |none=>simp [Xw]
   |some h=>simp only[y9]at h2 h3;simp [Xw,show 0<=h by omega,h3]
  have e2:Xw (hi.getD l.length).toNat 0 (lo.map (.int ε))=δ (lo.getD 0).toNat:=by
   cases lo with
   |none=>simp [Xw]
   |some k=>
    simp only[y9]at h1 h2;have:k<=((hi.getD l.length).toNat:Int):=by omega
    simp only[fB,Xw,y9];rw[aE ⟨h1,this⟩]
  rw[e1,aA,e2,fB,List.map_drop,List.map_take]
 ·cases h
theorem qW{s r:ByteArray}{lo hi:Option Int}(h:jV s lo hi=δ r):A.mE (.str s) (lo.map (.int ε)) (hi.map (.int ε))=δ (.str r):=by
 unfold jV at h;simp only at h;split at h
 ·rename_i hc;injection h with h
  subst h;obtain⟨h1,h2,h3⟩:=hc;simp only[A.mE]
  have e1:Xw s.size s.size (hi.map (.int ε))=δ (hi.getD s.size).toNat:=by
   cases hi with
   |none=>simp [Xw]
   |some h=>simp only[y9]at h2 h3;simp [Xw,show 0<=h by omega,h3]
  have e2:Xw (hi.getD s.size).toNat 0 (lo.map (.int ε))=δ (lo.getD 0).toNat:=by
   cases lo with
   |none=>simp [Xw]
   |some k=>
    simp only[y9]at h1 h2;have:k<=((hi.getD s.size).toNat:Int):=by omega
    simp only[fB,Xw,y9];rw[aE ⟨h1,this⟩]
  rw[e1,aA,e2,fB]
 ·cases h
def ig(a b:ByteArray):Option ByteArray:=if a.size+b.size<=9223372036854775807 then δ (a++b)else μ
theorem jf{a b r:ByteArray}(h:ig a b=δ r):u0 (.str a) (.str b)=δ (.str r):=by
 unfold ig at h;split at h
 ·injection h with h;subst h;simp [u0, *]
 ·cases h
end
section
def fV{α:Type}(f:Nat->α->Int):List α->Nat->Int
 |[],_=>0
 |x::l,i=>if f i x=0 then fV f l (i+1)else f i x
section
variable {α β γ S B R : Type}
theorem yL{f:Nat->α->Int}:∀(l:List α)(i:Nat),fV f l i=0↔∀j x,l[j]? =δ x->f (i+j) x=0
 |[],i=>by simp [fV]
 |y::l,i=>by
  rw[fV];by_cases h:f i y=0
  ·rw[aE h,yL l (i+1)];constructor
   ·intro k j x hx;cases j with
    |zero=>simp at hx;subst hx;exact h
    |succ j=>have:=k j x (by simpa using hx);rwa[show i+1+j=i+(j+1) by omega]at this
   ·intro k j x hx;have:=k (j+1) x (by simpa using hx);rwa[show i+(j+1)=i+1+j by omega]at this
  ·rw[aD h];exact⟨λe=>absurd e h,λk=>absurd (k 0 y rfl) h⟩
theorem xh{l:List α}{body:Nat->α->S->Option (Lr S B R)}{fin:S->Option B}{s:S}{K1:B->Option γ}{K2:R->Option γ}(hl:l.length<=bu):iB l body fin s K1 K2=(gz body fin l 0 s).bind λq=>q.elim K1 K2:=aE hl
theorem wZ{f:Nat->α->Int}{l:List α}{body:Nat->α->Unit->Option (Lr Unit Unit Int)}{fin:Unit->Option Unit}{s:Unit}{K1:Unit->Option γ}{K2:Int->Option γ}(hl:l.length<=bu)(hb:∀i x,l[i]? =δ x->body i x ()=δ (if f i x=0 then .go ()else .ret (f i x)))(hf:fin ()=δ ():=by rfl):iB l body fin s K1 K2=if fV f l 0=0 then K1 ()else K2 (fV f l 0):=by
 rw[xh hl]
 have key:∀(rest pre:List α),l=pre++rest->gz body fin rest pre.length ()=δ (if fV f rest pre.length=0 then .inl ()else .inr (fV f rest pre.length)):=by
  intro rest;induction rest with
  |nil=>intro pre _;simp [gz,hf,fV]
  |cons x rest ih=>
   intro pre hp;rw[gz,hb pre.length x (by rw[hp];simp),aA,fV];by_cases h:f pre.length x=0
   ·simp only[h,if_true];have:=ih (pre++[x]) (by simpa using hp);simpa using this
   ·simp only[h,if_false]
 have k:=key l [] rfl;rw[AV]at k;rw[show s=()from rfl,k,aA];split<;>rfl
theorem Bh{p:Prop}[Decidable p]{k f:Int}{Y:Option (Lr Unit Unit Int)}(hk:k≠0)(h:Y=δ (if f=0 then .go ()else .ret f)):(if p then δ (.ret k)else Y)=δ (if(if p then k else f)=0 then .go ()else .ret (if p then k else f)):=by
 by_cases hp:p
 ·simp [hp,hk]
 ·simp [hp,h]
theorem go_ret:(δ (.go ()):Option (Lr Unit Unit Int))=δ (if(0:Int)=0 then .go ()else .ret 0):=rfl
theorem RV(k:Int):(if k=0 then δ (.go ())else δ (.ret k):Option (Lr Unit Unit Int))=δ (if k=0 then .go ()else .ret k):=by split<;>rfl
theorem Q7{p:α->Bool}{l:List α}{body:Nat->α->Unit->Option (Lr Unit Unit R)}{r:α->R}{fin:Unit->Option Unit}{s:Unit}{K1:Unit->Option γ}{K2:R->Option γ}(hl:l.length<=bu)(hb:∀i x,l[i]? =δ x->body i x ()=δ (if p x=θ then .ret (r x)else .go ()))(hf:fin ()=δ ():=by rfl):iB l body fin s K1 K2=match l.find? p with|some x=>K2 (r x)|none=>K1 ():=by
 rw[xh hl]
 have key:∀(rest pre:List α),l=pre++rest->gz body fin rest pre.length ()=δ (match rest.find? p with|some x=>.inr (r x)|none=>.inl ()):=by
  intro rest;induction rest with
  |nil=>intro pre _;simp [gz,hf]
  |cons x rest ih=>
   intro pre hp;rw[gz,hb pre.length x (by rw[hp];simp),aA,al7];cases h:p x
   ·simp only[Φ,if_false];have:=ih (pre++[x]) (by simpa using hp);simpa using this
   ·simp only[if_true]
 have k:=key l [] rfl;rw[AV]at k;rw[show s=()from rfl,k,aA];cases l.find? p<;>rfl
theorem Q8{l:List α}{body:Nat->α->S->Option (Lr S B R)}{fin:S->Option B}{s:S}{K1:B->Option γ}{K2:R->Option γ}(g:S->α->S)(P:Nat->S->Prop)(hl:l.length<=bu)(h0:P 0 s)(hP:∀i x s,l[i]? =δ x->P i s->P (i+1) (g s x))(hb:∀i x s,l[i]? =δ x->P i s->body i x s=δ (.go (g s x))):iB l body fin s K1 K2=(fin (l.foldl g s)).bind K1:=by
 rw[xh hl]
 have key:∀(rest pre:List α)(s:S),l=pre++rest->P pre.length s->gz body fin rest pre.length s=(fin (rest.foldl g s)).map .inl:=by
  intro rest;induction rest with
  |nil=>intro pre s _ _;simp [gz]
  |cons x rest ih=>
   intro pre s hp hq;have hx:l[pre.length]? =δ x:=by rw[hp];simp
   rw[gz,hb pre.length x s hx hq,aA,List.foldl_cons];have:=ih (pre++[x]) (g s x) (by simpa using hp) (by simpa using hP _ _ _ hx hq);simpa using this
 have k:=key l [] s rfl h0;rw[AV]at k;rw[k];cases fin (l.foldl g s)<;>rfl
def pv [Inhabited α](l:List α)(i:Nat):α:=if 0<i then l.getD (i-1) default else default
theorem Mm{l:List α}{i:Int}{x:α}(h0:0<=i)(h:l[i.toNat]? =δ x):eL l i=δ x:=by rw[eL,aE h0,h]
theorem yS [Inhabited α]{l:List α}{i:Nat}{x:α}(h:l[i]? =δ x)(hl:l.length<=bu):(if decide (0<(i:Int))=θ then eL l (ε.wrap ((i:Int) -1))else δ default)=δ (pv l i):=by
 have hi:=(cL.1 h).1;unfold pv;by_cases h0:0<i
 ·rw[aE (by simpa using h0),aE h0,bp (by unfold aG;unfold bu at hl;omega)];refine Mm (by omega) ?_;have:((i:Int) -1).toNat=i-1:=by omega
  rw[this,ZC,bT (by omega)];rfl
 ·rw[aD (by simpa using h0),aD h0]
theorem Hw{a b:Int}:(([a,b]:List Int).find? λn=>decide (¬n=0)).getD 0=if ¬(a=0)then a else b:=by
 by_cases ha:a=0
 ·by_cases hb:b=0<;>simp [ha,hb,WX]
 ·simp [ha,WX]
theorem Uq{a b c:Int}:(([a,b,c]:List Int).find? λn=>decide (¬n=0)).getD 0=if ¬(a=0)then a else if ¬(b=0)then b else c:=by
 by_cases ha:a=0
 ·by_cases hb:b=0
  ·by_cases hc:c=0<;>simp [ha,hb,hc,WX]
  ·simp [ha,hb,WX]
 ·simp [ha,WX]
end
theorem Sw(s:ByteArray):s.toList=s.data.toList:=alb s
theorem L7:∀(a b:List UInt8),ZM a b<0↔Y5 a b=θ
 |[],[]=>by simp [ZM,Y5]
 |[],_::_=>by simp [ZM,Y5]
 |_::_,[]=>by simp [ZM,Y5]
 |a::x,b::y=>by
  rw[ZM,Y5];by_cases h1:a<b
  ·simp [h1]
  ·by_cases h2:b<a
   ·have:a≠b:=by rintro rfl;exact h1 h2
    simp [h1,h2,this]
   ·have:a=b:=UInt8.le_antisymm (UInt8.not_lt.1 h2) (UInt8.not_lt.1 h1);subst this;simp [UInt8.lt_irrefl,L7 x y]
def rE(a b:bP):Bool:=decide (a.unit<b.unit)||(decide (a.unit=b.unit)&&Y5 a.param.toList b.param.toList)
def BH(a b:bP):Int:=if ¬(a.unit=b.unit)then(if a.unit<b.unit then -1 else 1)else ZM a.param.data.toList b.param.data.toList
theorem aed(a b:bP):BH a b<0↔rE a b=θ:=by
 unfold BH rE;by_cases h:a.unit=b.unit
 ·simp [h,Sw,L7]
 ·by_cases h2:a.unit<b.unit<;>simp [h,h2]
theorem aec(a b:bP):decide (0<=BH a b)=!rE a b:=by
 have:=aed a b;cases h:rE a b
 ·rw[h]at this;simp at this;simp [this]
 ·rw[h]at this;simp at this;simp [this]
end
def aI(n lo hi:Int):Bool:=decide (lo<=n/\n<=hi)
def B3(c:UInt8):Bool:=decide (97<=c.toNat/\c.toNat<=122)||decide (48<=c.toNat/\c.toNat<=57)||decide (c.toNat=45)
def zq(s:ByteArray):Bool:=s.data.toList.all B3&&decide (0<s.size)
def oM(s:ByteArray):Bool:=zq s&&decide (s.size<=20)&&decide (97<=(s.data.toList.getD 0 0).toNat)&&decide ((s.data.toList.getD 0 0).toNat<=122)
def pc(c:UInt8):Bool:=decide (32<=c.toNat/\c.toNat<=126)
def Dk(s:ByteArray):Bool:=decide (0<s.size)&&decide (s.size<=60)&&(decide ((s.data.toList.getD 0 0).toNat≠32)&&decide ((s.data.toList.getD (s.size-1) 0).toNat≠32))
def Bv(s:ByteArray):Bool:=s.data.toList.all pc&&Dk s
theorem abX(s:ByteArray)(i:Nat)(h:i<s.size):s.data.toList.getD i 0=s[i]:=by rw[Zc,bT (by simpa using h)];rfl
def HN(pre:List mu):List mu->Int
 |[]=>0
 |r::rest=>
  if aI r.low 0 65535=ξ\/aI r.high 0 65535=ξ\/r.high<r.low then 1
  else if 0<pre.length/\r.low<=(pre.getLast?.map (·.high)).getD 0 then 7
  else if oM r.name=ξ then 5
  else if ia r.name (pre.map (·.name))=θ then 6
  else HN (pre++[r]) rest
def Bj(l:List mu):Int:=if 30<l.length then 2 else HN [] l
def slotsOf(l:List iL):List Int:=l.flatMap λx=>if 0<x.lR then[x.bz,x.lR]else[x.bz]
theorem P5(l:List iL)(x:iL):slotsOf (l++[x])=slotsOf l++(if 0<x.lR then[x.bz,x.lR]else[x.bz]):=by simp [slotsOf]
def HM(size:Int)(pre:List iL):List iL->Int
 |[]=>0
 |x::rest=>
  if oM x.name=ξ then 5
  else if ia x.name (pre.map (·.name))=θ then 6
  else if aI x.group 1 4=ξ then 4
  else if aI x.bz 1 size=ξ\/aI x.lR 0 size=ξ\/aI x.default 0 65535=ξ then 1
  else if x.bz=x.lR\/ia x.bz (slotsOf pre)=θ\/(0<x.lR/\ia x.lR (slotsOf pre)=θ)then 12
  else if Bj x.ranges=0 then HM size (pre++[x]) rest else Bj x.ranges
def pg(p:dI):Int:=
 if oM p.name=ξ then 5 else if aI p.size 1 512=ξ then 1 else if p.params.length=0 then 8 else if 40<p.params.length then 2 else HM p.size [] p.params
def xK(pre:List dI):List dI->Int
 |[]=>0
 |p::rest=>if pg p=0 then(if ia p.name (pre.map (·.name))=θ then 6 else xK (pre++[p]) rest)else pg p
def uA(l:List dI):Int:=if 60<l.length then 2 else xK [] l
def gW(nm:ByteArray):List dI->dI×Bool
 |[]=>(⟨⟨#[]⟩,0,[]⟩,ξ)
 |p::rest=>if p.name=nm then(p,θ)else gW nm rest
def qX(f:Nat->Bool):Nat->Nat->Bool
 |0,_=>θ
 |n+1,a=>if 512<a\/f a=θ then ξ else qX f n (a+1)
def kX(f:Int->Nat->Bool)(u:Int)(a s:Nat):Int->Nat->Bool:=λv k=>if v=u/\a<=k/\k<a+s then θ else f v k
def zn(pre:List Int)(n:Int):Bool:=match pre.getLast? with|some m=>decide (n<=m)|none=>ξ
def mI(fM:List dI)(u:fT):Int:=u.address+(gW u.iK fM).1.size-1
def Bl(fM:List dI)(u:fT)(pre:List fT):Bool:=pre.any λx=>decide (x.univ=u.univ/\x.address<=mI fM u/\u.address<=mI fM x)
def BG(fM:List dI)(pre:List fT):List fT->Int
 |[]=>0
 |u::rest=>
  if aI u.aH 1 9999=ξ then 1
  else if zn (pre.map (·.aH)) u.aH=θ then 7
  else if(gW u.iK fM).2=ξ then 5
  else if aI u.univ 1 64=ξ\/aI u.address 1 512=ξ\/512<mI fM u then 1
  else if Bl fM u pre=θ then 12
  else BG fM (pre++[u]) rest
def iQ(r:fA):Int:=if uA r.cY=0 then(if 400<r.iU.length then 2 else BG r.cY [] r.iU)else uA r.cY
def CY(fM:List dI)(pre:List fT):Prop:=∀x∈pre,1<=x.address/\x.address<=mI fM x/\mI fM x<=512
def xp(fM:List dI)(pre:List fT)(f:Int->Nat->Bool):Prop:=∀v k,f v k=θ↔∃x∈pre,x.univ=v/\x.address<=(k:Int)/\(k:Int)<=mI fM x
theorem xp.nil(fM:List dI):xp fM [] (λ_ _=>ξ):=λv k=>by simp
theorem xp.snoc{fM:List dI}{pre:List fT}{f:Int->Nat->Bool}(h:xp fM pre f)(u:fT)(a s:Nat)(ha:u.address=a)(hs:mI fM u=(a:Int)+s-1):xp fM (pre++[u]) (kX f u.univ a s):=by
 intro v k;unfold kX;by_cases e:v=u.univ/\a<=k/\k<a+s
 ·rw[aE e];refine⟨λ_=>⟨u,by simp,e.1.symm,by omega,by omega⟩,λ_=>rfl⟩
 ·rw[aD e,h v k];constructor
  ·rintro⟨x,hx,h1⟩;exact⟨x,by simp [hx],h1⟩
  ·rintro⟨x,hx,h1,h2,h3⟩;simp only[gV,alT]at hx;rcases hx with hx|rfl
   ·exact⟨x,hx,h1,h2,h3⟩
   ·exact absurd ⟨h1.symm,by omega,by omega⟩ e
theorem Lu(f:Nat->Bool):∀(s a:Nat),qX f s a=θ↔∀k,a<=k->k<a+s->k<=512/\f k=ξ
 |0,a=>by simp [qX];intro k h1 h2;omega
 |s+1,a=>by
  rw[qX];by_cases e:512<a\/f a=θ
  ·rw[aE e];simp only[Φ,false_iff];intro h;have:=h a (bL _) (by omega);rcases e with e|e
   ·omega
   ·rw[e]at this;simp at this
  ·rw[aD e,Lu f s (a+1)];constructor
   ·intro h k h1 h2;by_cases hk:k=a
    ·subst hk;refine⟨by omega,?_⟩;cases hf:f k
     ·rfl
     ·exact absurd (.inr hf) e
    ·exact h k (by omega) (by omega)
   ·intro h k h1 h2;exact h k (by omega) (by omega)
theorem aaT{fM:List dI}{pre:List fT}{f:Int->Nat->Bool}(h:xp fM pre f)(hok:CY fM pre)(u:fT)(a s:Nat)(ha:u.address=a)(h1:1<=s)(hs:mI fM u=(a:Int)+s-1)(h2:mI fM u<=512):qX (f u.univ) s a=!Bl fM u pre:=by
 rw[iX,Lu];simp only[p9,Bl,List.any_eq_false,decide_eq_true_eq,not_and];constructor
 ·intro hf x hx e1 e2 e3;have hx':=hok x hx;obtain⟨k,hk⟩:∃k:Nat,(k:Int)=max x.address a:=⟨(max x.address (a:Int)).toNat,by omega⟩
  have hf':=(hf k (by omega) (by omega)).2;have:f u.univ k=θ:=(h u.univ k).2 ⟨x,hx,e1,by omega,by omega⟩;rw[this]at hf';simp at hf'
 ·intro hf k h3 h4;refine⟨by omega,?_⟩;cases hfk:f u.univ k
  ·rfl
  ·obtain⟨x,hx,e1,e2,e3⟩:=(h u.univ k).1 hfk;exact absurd (show u.address<=mI fM x by omega) (hf x hx e1 (by omega))
theorem aiY{p:dI}(h:pg p=0):1<=p.size/\p.size<=512:=by
 unfold pg at h;by_cases h1:oM p.name=ξ
 ·rw[aE h1]at h;simp at h
 ·rw[aD h1]at h;by_cases h2:aI p.size 1 512=ξ
  ·rw[aE h2]at h;simp at h
  ·simpa [aI]using h2
theorem Qw:∀(l pre:List dI),xK pre l=0->∀p∈l,1<=p.size/\p.size<=512
 |[],pre,h,p,hp=>by simp at hp
 |q::rest,pre,h,p,hp=>by
  rw[xK]at h;by_cases e:pg q=0
  ·rw[aE e]at h;by_cases e2:ia q.name (pre.map (·.name))=θ
   ·rw[aE e2]at h;simp at h
   ·rw[aD e2]at h;simp only[eG]at hp;rcases hp with rfl|hp
    ·exact aiY e
    ·exact Qw rest _ h p hp
  ·rw[aD e]at h;exact absurd h e
theorem aa0{l:List dI}(h:uA l=0):∀p∈l,1<=p.size/\p.size<=512:=by
 unfold uA at h;by_cases e:60<l.length
 ·rw[aE e]at h;simp at h
 ·rw[aD e]at h;exact Qw l [] h
theorem Lh(nm:ByteArray):∀(l:List dI),(gW nm l).2=θ->(gW nm l).1∈l
 |[],h=>by simp [gW]at h
 |p::r,h=>by
  rw[gW]at h ⊢;by_cases e:p.name=nm
  ·rw[aE e];simp
  ·rw[aD e]at h ⊢;exact nL _ (Lh nm r h)
theorem CY.snoc{fM:List dI}{pre:List fT}(h:CY fM pre){u:fT}(h1:1<=u.address/\u.address<=mI fM u/\mI fM u<=512):CY fM (pre++[u]):=λx hx=>by
 simp only[gV,alT]at hx;rcases hx with hx|rfl
 ·exact h x hx
 ·exact h1
theorem gr(n lo hi:Int)(σ:Heap):fQ [.ah n,.ah lo,.ah hi] σ=δ (.bool (aI n lo hi),σ):=by refine wrap_eq rfl ?_ rfl;show Kc _ _ _ σ=_;unfold Kc aI;by_cases h:lo<=n<;>simp only[aK,reduceCtorEq,h,true_and,false_and]
theorem qc(b:Bool)(n:Int)(σ:Heap):nh [.bool b,.ah n] σ=δ (.ah (if b=θ then n else 0),σ):=by refine wrap_eq rfl ?_ rfl;show K3 _ _ σ=_;unfold K3;cases b<;>simp [aK,reduceCtorEq]
theorem Mk(s:ByteArray){i:Nat}(h:i<s.size):A.jk (.str s) (.ah (i:Int))=δ (.int .u8 (s.data.toList.getD i 0).toNat):=by
 have h1:s[i]? =δ s[i]:=by simp [h]
 simp [A.jk,A.idx,h,abX s i h];rfl
theorem QE(s:ByteArray):(decide (¬s=⟨#[]⟩))=decide (0<s.size):=by
 rw[decide_eq_decide];constructor
 ·intro h;rcases Nat.eq_zero_or_pos s.size with e|e
  ·exact absurd (Xo (Array.eq_empty_of_size_eq_zero e)) h
  ·exact e
 ·rintro h rfl;exact absurd h (by decide)
theorem afk(s:ByteArray)(hs:fN s)(σ:Heap):Le [.str s] σ=δ (.bool (zq s),σ):=by
 refine wrap_eq rfl ?_ rfl;show Ll _ σ=_;unfold Ll;simp only[aK,reduceCtorEq];refine(RO (p:=B3) s (δ (.bool ξ,σ)) ?_ ?_ ?_).trans ?_
 ·intro i c hi hc;have h1:aG ((i:Int)+1):=by unfold fN bu at hs;unfold aG;omega
  have h2:(i:Int)<s.size:=by omega
  simp only[aK,reduceCtorEq,h2,hc,bp h1,B3];clear hc h1
  repeat' ((first|rw[wo]|rw[wm]|rw[wj]|rw[vQ]|rw[wg]|rw[we]);split<;>try simp only[aK,reduceCtorEq, *])
  all_goals first|rfl|(refine(aE ?_).symm;simp;omega)|(refine(aD ?_).symm;simp;omega)|(refine congrArg δ (congrArg (λb=>(ψ b,σ)) ?_);rw[iX];simp;omega)
 ·simp only[aK,reduceCtorEq,Yx]
 ·intro i;simp only[aK,reduceCtorEq]
 ·simp only[aK,reduceCtorEq,QE,zq];cases s.data.toList.all B3<;>simp
theorem adK{s:ByteArray}(h:zq s=θ):0<s.size:=by simp only[zq,dr,decide_eq_true_eq]at h;exact h.2
theorem GM(s:ByteArray)(hs:fN s)(σ:Heap):AO [.str s] σ=δ (.bool (oM s),σ):=by
 refine wrap_eq rfl ?_ rfl;show K0 _ σ=_;unfold K0;simp only[aK,reduceCtorEq,afk s hs];cases h:zq s
 ·simp [aK,reduceCtorEq,oM,h]
 ·have h0:=adK h;have:=Mk s h0;simp only[al0]at this;simp only[aK,reduceCtorEq,this];simp only[oM,h,Zr];generalize s.data.toList.getD 0 0=c0 at *
  repeat' ((first|rw[wo]|rw[wm]|rw[wj]|rw[vQ]|rw[wg]|rw[we]);split<;>try simp only[aK,reduceCtorEq, *])
  all_goals first|rfl|(refine(aE ?_).symm;simp;omega)|(refine(aD ?_).symm;simp;omega)|(refine congrArg δ (congrArg (λb=>(ψ b,σ)) ?_);rw[iX];simp;omega)
theorem RM(s:ByteArray)(hs:fN s)(σ:Heap):FR [.str s] σ=δ (.bool (Bv s),σ):=by
 refine wrap_eq rfl ?_ rfl;show KE _ σ=_;unfold KE;simp only[aK,reduceCtorEq];refine(RO (p:=pc) s (δ (.bool ξ,σ)) ?_ ?_ ?_).trans ?_
 ·intro i c hi hc;have h1:aG ((i:Int)+1):=by unfold fN bu at hs;unfold aG;omega
  have h2:(i:Int)<s.size:=by omega
  simp only[aK,reduceCtorEq,h2,hc,bp h1,pc];clear h1
  repeat' ((first|rw[wo]|rw[wm]|rw[wj]|rw[vQ]|rw[wg]|rw[we]);split<;>try simp only[aK,reduceCtorEq, *])
  all_goals first|rfl|(refine(aE ?_).symm;simp;omega)|(refine(aD ?_).symm;simp;omega)|(refine congrArg δ (congrArg (λb=>(ψ b,σ)) ?_);rw[iX];simp;omega)
 ·simp only[aK,reduceCtorEq,Yx]
 ·intro i;simp only[aK,reduceCtorEq]
 ·simp only[aK,reduceCtorEq,QE,Bv];cases s.data.toList.all pc
  ·simp
  ·simp only[if_true,Zr];by_cases h0:0<s.size
   ·by_cases BS:s.size<=60
    ·have e0:=Mk s h0;have e1:=Mk s (i:=s.size-1) (by omega);simp only[al0]at e0;rw[show((s.size-1:Nat):Int)=(s.size:Int) -1 by omega]at e1;have h1:aG ((s.size:Int) -1):=by unfold fN bu at hs;unfold aG;omega
     have xL:(s.size:Int)<=60:=by omega
     have hw:=bp h1;simp only[Dk,h0,BS];generalize s.data.toList.getD 0 0=c0 at *
     generalize s.data.toList.getD (s.size-1) 0=c1 at *
     simp only[aK,reduceCtorEq,h0,xL,e0,e1,hw]
     repeat' ((first|rw[wo]|rw[wm]|rw[wj]|rw[vQ]|rw[wg]|rw[we]);split<;>try simp only[aK,reduceCtorEq, *])
     all_goals first|rfl|(refine(aE ?_).symm;simp;omega)|(refine(aD ?_).symm;simp;omega)|(refine congrArg δ (congrArg (λb=>(ψ b,σ)) ?_);rw[iX];simp;omega)
    ·have xL:¬(s.size:Int)<=60:=by omega
     simp [aK,reduceCtorEq,h0,xL,Dk,BS]
   ·simp [aK,reduceCtorEq,h0,Dk]
theorem Qk(n:Int)(σ:Heap):FE [.ah n] σ=δ (.bool (aI n 0 65535),σ):=by refine wrap_eq rfl ?_ rfl;show JL (.ah n) σ=_;unfold JL;simp only[aK,reduceCtorEq,gr]
theorem ab8{γ:Type}{f:au->Heap->Option (AX×au×Heap)}(a n:Nat)(p:Nat->Bool)(vs:Nat->au)(σ:Heap)(fin:AX×au×Heap)(ret:Nat->AX×au×Heap){k:AX×au×Heap->Option γ}(K1 K2:Option γ)
  (hstep:∀(i:Nat),a<=i->i<a+n->f (vs i) σ=if p i=θ then δ (ret i)else δ (.normal,vs (i+1),σ)) (hend:f (vs (a+n)) σ=δ fin) (hk1:k fin=K1) (hk2:∀i,k (ret i)=K2)
  (zk:fin.1≠.normal:=by simp) (DK:∀i,(ret i).1≠.normal:=by intros;simp) {v:au} {σ':Heap} (hv:v=vs a:=by rfl) (eA:σ'=σ:=by rfl):
  (WY f v σ').bind k=if(YT a n).any p=θ then K2 else K1:=by
 refine Sf (YT a n) p (λi=>vs (a+i)) σ fin (λi=>ret (a+i)) K1 K2 ?_ (by rw[Zf];exact hend) hk1 (λi=>hk2 _) zk (λi=>DK _) hv eA;intro i x hx;obtain⟨h1,h2⟩:=cL.1 hx;rw[Zf]at h1;obtain rfl:a+i=x:=by simpa [alc]using h2
 exact hstep (a+i) (by omega) (by omega)
def kg:lF:=⟨0,0⟩
def HL(p:lF):Bool:=!(aI p.time 0 1000)||!(aI p.way 0 1000)
def DU(l:List lF)(i:Nat):Bool:=decide ((l.getD i kg).time<=(l.getD (i-1) kg).time\/(l.getD i kg).way<(l.getD (i-1) kg).way)
def Vz(l:List lF):Int:=
 if l.any HL=θ then 1
 else if ¬((l.getD 0 kg).time=0/\(l.getD 0 kg).way=0)then 3
 else if ¬((l.getD (l.length-1) kg).time=1000/\(l.getD (l.length-1) kg).way=1000)then 3
 else if(YT 1 (l.length-1)).any (DU l)=θ then 7 else 0
def vq(c:pE):Int:=
 if aI c.kind 1 6=ξ then 4
 else if c.kind=6 then(if c.cv.length<2 then 8 else if 20<c.cv.length then 2 else Vz c.cv)
 else if 0<c.cv.length then 3 else 0
theorem LR(x:lF)(a b:Int):XQ (.s [0,0]) (.agg (jI x)) (.agg [.ah a,.ah b])=δ (.bool (decide (¬(x.time=a/\x.way=b)))):=by simp only[XQ,XL,jI,XC,A.jQ,A.jR,if_true,aA,fB];congr 2;rw[iX];simp
theorem UG(a b c:U):w8 0 [a] [b,c]=δ [a,c]:=rfl
theorem UH(a b c:U):w8 1 [a] [b,c]=δ [b,a]:=rfl
theorem getD_at{l:List lF}{i:Nat}(h:i<l.length):l[i]? =δ (l.getD i kg):=by simp [h]
theorem YN(c:pE)(σ:Heap):Ji [.agg (qU c)] σ=δ (.ah (vq c),σ):=by
 refine wrap_eq rfl ?_ rfl;show Jm (.agg (qU c)) σ=_;unfold Jm vq;simp only[aK,reduceCtorEq,rX,rY,sj,rZ,sn,gr];cases hk:aI c.kind 1 6
 ·simp only[aK,reduceCtorEq]
 by_cases h6:c.kind=6
 case neg=>
  by_cases h0:0<c.cv.length
  ·simp only[aK,reduceCtorEq,rX,rY,sj,rZ,sn,h6,h0,qc,show(0:Int)<c.cv.length by omega]
  ·simp only[aK,reduceCtorEq,rX,rY,sj,rZ,sn,h6,h0,qc,show ¬(0:Int)<c.cv.length by omega]
 by_cases h2:c.cv.length<2
 ·simp only[aK,reduceCtorEq,rX,rY,sj,rZ,sn,h6,h2,show(c.cv.length:Int)<2 by omega]
 by_cases V5:20<c.cv.length
 ·simp only[aK,reduceCtorEq,rX,rY,sj,rZ,sn,h6,h2,V5,show ¬(c.cv.length:Int)<2 by omega,show(20:Int)<c.cv.length by omega]
 simp only[aK,reduceCtorEq,rX,rY,sj,rZ,sn,h6,h2,V5,show ¬(c.cv.length:Int)<2 by omega,show ¬(20:Int)<c.cv.length by omega];have Es:c.cv.length<=bu:=by unfold bu;omega
 refine(Sf c.cv HL (λi=>[.ah 0,.ah (i:Int)]) σ (.exit 0,[.ah 0,.ah (c.cv.length:Int)],σ) (λi=>(.ret,[.ah 1,.ah (i:Int)],σ))
  (δ (.ah (if ¬((c.cv.getD 0 kg).time=0/\(c.cv.getD 0 kg).way=0)then 3
 else if ¬((c.cv.getD (c.cv.length-1) kg).time=1000/\(c.cv.getD (c.cv.length-1) kg).way=1000)then 3
 else if(YT 1 (c.cv.length-1)).any (DU c.cv)=θ then 7 else 0),σ)) (δ (.ah 1,σ)) ?_ ?_ ?_ ?_).trans ?_
 ·intro i x hx;obtain⟨g1,g2,g3⟩:=R9 2 jI hx;have g3:=g3 Es;simp only[aK,reduceCtorEq,Cy,Cz,CJ,CG,CL,g1,g2,g3,gr,HL];rcases ame (aI x.time 0 1000)with e|e
  ·rcases ame (aI x.way 0 1000)with e'|e'<;>simp only[aK,reduceCtorEq,gr,e,e',WS,Xm]
  ·simp only[aK,reduceCtorEq,e,Bool.true_or]
 ·exact A7 _ _ _
 ·have g0:=mm 2 jI c.cv (getD_at (l:=c.cv) (i:=0) (by omega));have gl:=F3 2 jI c.cv (k:=c.cv.length) (by omega) (getD_at (by omega));have hw:ε.wrap ((c.cv.length:Int) -1)=(c.cv.length:Int) -1:=bp (by unfold aG;omega);simp only[al0,Int.natCast_zero]at g0;simp only[aK,reduceCtorEq,rX,rY,sj,rZ,sn,Cy,Cz,CJ,CG,CL,g0,LR];by_cases e1:(c.cv.getD 0 kg).time=0/\(c.cv.getD 0 kg).way=0;case neg=>simp only[aK,reduceCtorEq,e1]
  simp only[aK,reduceCtorEq,rX,rY,sj,rZ,sn,e1,hw,gl,Cy,Cz,CJ,CG,CL];by_cases e2:(c.cv.getD (c.cv.length-1) kg).time=1000/\(c.cv.getD (c.cv.length-1) kg).way=1000
  case neg=>
   simp only[UG,UH,aK,reduceCtorEq,LR,e2]
  simp only[UG,UH,aK,reduceCtorEq,LR,e2];refine(ab8 1 (c.cv.length-1) (DU c.cv) (λi=>[.ah 0,.ah (i:Int)]) σ (.exit 2,[.ah 0,.ah (c.cv.length:Int)],σ) (λi=>(.ret,[.ah 7,.ah (i:Int)],σ)) (δ (η 0,σ)) (δ (η 7,σ)) ?_ ?_ ?_ ?_).trans ?_
  ·intro i hi1 hi2;have k1:=mm 2 jI c.cv (getD_at (l:=c.cv) (i:=i) (by omega));have k2:=F3 2 jI c.cv (k:=i) (by omega) (getD_at (by omega));have k3:ε.wrap ((i:Int) -1)=(i:Int) -1:=bp (by unfold aG;omega);have k4:ε.wrap ((i:Int)+1)=((i+1:Nat):Int):=by rw[bp (by unfold aG;omega)];omega
   have k5:(i:Int)<c.cv.length:=by omega
   simp only[aK,reduceCtorEq,rX,rY,sj,rZ,sn,Cy,Cz,CJ,CG,CL,k1,k2,k3,k5,DU];by_cases q1:(c.cv.getD i kg).time<=(c.cv.getD (i-1) kg).time
   ·simp only[aK,reduceCtorEq,q1]
   ·by_cases q2:(c.cv.getD i kg).way<(c.cv.getD (i-1) kg).way<;>simp only[aK,reduceCtorEq,rX,rY,sj,rZ,sn,Cy,Cz,CJ,CG,CL,k1,k2,k3,k4,q1,q2]
  ·rw[show 1+(c.cv.length-1)=c.cv.length by omega];simp only[aK,reduceCtorEq,rX,rY,sj,rZ,sn,Yx]
  ·simp only[aK,reduceCtorEq]
  ·intro i;simp only[aK,reduceCtorEq]
  ·cases(YT 1 (c.cv.length-1)).any (DU c.cv)<;>rfl
 ·intro i;simp only[aK,reduceCtorEq]
 ·unfold Vz;cases c.cv.any HL<;>rfl
theorem yQ(l:List Int)(hl:l.length<=bu)(σ:Heap):tK [sl 1 sJ l] σ=δ (.ah ((l.find? λn=>decide (¬n=0)).getD 0),σ):=by
 refine wrap_eq rfl ?_ rfl;show KA (sl 1 sJ l) σ=_;unfold KA;simp only[aK,reduceCtorEq];refine(ab9 l (λn=>decide (¬n=0)) (λi=>[.ah 0,.ah (i:Int)]) σ (.exit 0,[.ah 0,.ah (l.length:Int)],σ) (λi n=>(.ret,[.ah n,.ah (i:Int)],σ)) (δ (η 0,σ)) (λn=>δ (η n,σ)) ?_ ?_ ?_ ?_).trans ?_
 ·intro i x hx;obtain⟨g1,g2,g3⟩:=R9 1 sJ hx;have g3:=g3 hl;simp only[aK,reduceCtorEq,g1,g2,g3]
  repeat' ((first|rw[wo]|rw[wm]|rw[wj]|rw[vQ]|rw[wg]|rw[we]);split<;>try simp only[aK,reduceCtorEq, *])
  all_goals first|with_reducible rfl|(simp [*];done)|(simp_all;done)|(simp_all;omega)|rfl
 ·exact A7 _ _ _
 ·simp only[aK,reduceCtorEq]
 ·intro i n;simp only[aK,reduceCtorEq]
 ·cases l.find? (λn=>decide (¬n=0))<;>rfl
theorem AM(n:Int)(σ:Heap):Ch [.ah n] σ=δ (.bool (aI n 0 65535),σ):=by refine wrap_eq rfl ?_ rfl;show Js _ σ=_;unfold Js;simp only[aK,reduceCtorEq,gr]
theorem ads(l:List mu)(hok:eB Me l)(σ:Heap):I5 [sl 3 lH l] σ=δ (.ah (Bj l),σ):=by
 refine wrap_eq rfl ?_ rfl;show I6 (sl 3 lH l) σ=_;unfold I6 Bj;simp only[aK,reduceCtorEq];by_cases BR:30<l.length
 ·have DF:(30:Int)<l.length:=by omega
  simp only[aK,reduceCtorEq,BR,DF]
 ·have DF:¬(30:Int)<l.length:=by omega
  simp only[aK,reduceCtorEq,BR,DF]
  refine(oG (S:=Unit) (R:=Int) l (λpre x _=>
    if aI x.low 0 65535=ξ\/aI x.high 0 65535=ξ\/x.high<x.low then .out 1
    else if 0<pre.length/\x.low<=(pre.getLast?.map (·.high)).getD 0 then .out 7
    else if oM x.name=ξ then .out 5
    else if ia x.name (pre.map (·.name))=θ then .out 6 else .go ())
   (λpre _=>[.ah 0,.ah (pre.length:Int)]) (λpre _=>σ++[Z7 (jN (·.name) pre)])
   (λ_=>(.exit 0,[.ah 0,.ah (l.length:Int)],σ++[Z7 (jN (·.name) l)])) (λpre _ r=>(.ret,[.ah r,.ah (pre.length:Int)],σ++[Z7 (jN (·.name) pre)]))
   (λ_ _=>True) () (λ_=>δ (η 0,σ)) (λr=>δ (η r,σ)) ?_ ?_ trivial (λ_ _ _ _ _ _ _ _=>trivial) ?_ ?_).trans ?_
  ·intro pre x rest u hl _;have hx:=oK hl;have hlt:=qh hl;have hi1:ε.wrap ((pre.length:Int)+1)=(pre.length:Int)+1:=bp (by unfold aG;omega);have hi2:ε.wrap ((pre.length:Int) -1)=(pre.length:Int) -1:=bp (by unfold aG;omega);have hlt':(pre.length:Int)<(l.length:Int):=by omega
   have hnm:=(hok.2 x (by rw[hl];simp)).2.2;have lV:=mm 3 lH l hx;have hN:=GM _ hnm;by_cases h0:0<pre.length
   ·obtain⟨y,hy,hy2⟩:=Sk hl h0;have Nu:=F3 3 lH l h0 hy2;have h0':(0:Int)<pre.length:=by omega
    clear hl hx hlt hok BR DF hy2 hnm;simp only[aK,reduceCtorEq,FY,FZ,F0,Gj,Gd,Gm,hlt',lV,AM,hi1,hi2,hN,h0',hy,h0]
    repeat' ((first|rw[wo]|rw[wm]|rw[wj]|rw[vQ]|rw[wg]|rw[we]);split<;>try simp only[aK,reduceCtorEq,FY,FZ,F0,Gj,Gd,Gm,AM, *])
    all_goals first|with_reducible rfl|(simp [*];done)|(simp_all;done)|(simp_all;omega)|rfl
   ·have h0':¬(0:Int)<pre.length:=by omega
    clear hl hx hlt hok BR DF hnm;simp only[aK,reduceCtorEq,FY,FZ,F0,Gj,Gd,Gm,hlt',lV,AM,hi1,hi2,hN,h0',h0]
    repeat' ((first|rw[wo]|rw[wm]|rw[wj]|rw[vQ]|rw[wg]|rw[we]);split<;>try simp only[aK,reduceCtorEq,FY,FZ,F0,Gj,Gd,Gm,AM, *])
    all_goals first|with_reducible rfl|(simp [*];done)|(simp_all;done)|(simp_all;omega)|rfl
  ·intro u _;simp only[aK,reduceCtorEq,Yx]
  ·intro u _;simp only[aK,reduceCtorEq]
  ·intros;simp only[aK,reduceCtorEq]
  ·refine(F8 (qx:=HN) ?_ ?_ (λn=>δ (η n,σ)) l []).trans ?_
   ·intro pre;rfl
   ·intro pre x rest;rw[HN];simp only[Bn,xu,xx]
   ·rfl
theorem akB(p:dI)(hok:Gh p)(σ:Heap):I0 [.agg (fD p)] σ=δ (.ah (pg p),σ):=by
 refine wrap_eq rfl ?_ rfl;show I2 (.agg (fD p)) σ=_;obtain⟨pn,ps,l⟩:=p;obtain⟨hnm,hps,Nx⟩:=hok;simp only at hnm hps Nx;have hN:=GM _ hnm;unfold I2 pg;simp only[aK,reduceCtorEq,oz,oA,oB,oD,oC,oF,hN,gr];cases hn:oM pn
 ·simp only[aK,reduceCtorEq]
 cases hz:aI ps 1 512
 ·simp only[aK,reduceCtorEq]
 by_cases h0:l.length=0
 ·obtain rfl:l=[]:=ze h0;simp [aK,reduceCtorEq]
 have h0':¬(l.length:Int)=0:=by omega
 by_cases Oh:40<l.length
 ·have HS:(40:Int)<l.length:=by omega
  simp only[aK,reduceCtorEq,h0,h0',Oh,HS]
 have HS:¬(40:Int)<l.length:=by omega
 simp only[aK,reduceCtorEq,h0,h0',Oh,HS]
 refine(oG (S:=Unit) (R:=Int) l (λpre x _=>
   if oM x.name=ξ then .out 5
   else if ia x.name (pre.map (·.name))=θ then .out 6
   else if aI x.group 1 4=ξ then .out 4
   else if aI x.bz 1 ps=ξ\/aI x.lR 0 ps=ξ\/aI x.default 0 65535=ξ then .out 1
   else if x.bz=x.lR\/ia x.bz (slotsOf pre)=θ\/(0<x.lR/\ia x.lR (slotsOf pre)=θ)then .out 12
   else if Bj x.ranges=0 then .go ()else .out (Bj x.ranges))
  (λpre _=>[.lbx (fD ⟨pn,ps,l⟩),.ah 0,.ah (pre.length:Int)]) (λpre _=>σ++[Z7 (jN (·.name) pre),Z7 (nR id (slotsOf pre))])
  (λ_=>(.exit 1,[.lbx (fD ⟨pn,ps,l⟩),.ah 0,.ah (l.length:Int)],σ++[Z7 (jN (·.name) l),Z7 (nR id (slotsOf l))]))
  (λpre _ r=>(.ret,[.lbx (fD ⟨pn,ps,l⟩),.ah r,.ah (pre.length:Int)],σ++[Z7 (jN (·.name) pre),Z7 (nR id (slotsOf pre))]))
  (λ_ _=>True) () (λ_=>δ (η 0,σ)) (λr=>δ (η r,σ)) ?_ ?_ trivial (λ_ _ _ _ _ _ _ _=>trivial) ?_ ?_).trans ?_
 ·intro pre x rest u hl _;have hx:=oK hl;have hlt:=qh hl;have hi1:ε.wrap ((pre.length:Int)+1)=(pre.length:Int)+1:=bp (by unfold aG;omega);have hi2:ε.wrap ((pre.length:Int) -1)=(pre.length:Int) -1:=bp (by unfold aG;omega);have hlt':(pre.length:Int)<(l.length:Int):=by omega
  obtain⟨k1,k2,k3,k4,k5,k6⟩:=Nx.2 x (by rw[hl];simp);have hNx:=GM _ k1;have hRx:=ads _ k6;have lV:=mm 7 jr l hx;clear hl hx hlt Nx Oh HS h0 h0' k1 k2 k3 k4 k5 k6 hnm hps hN hn hz;simp only[aK,reduceCtorEq,KP,KQ,KR,KS,KT,KU,KV,Lz,Lo,LC,oz,oA,oB,oD,oC,oF,hlt',lV,gr,AM,hi1,hi2,hNx,hRx,List.map_id]
  repeat' ((first|rw[wo]|rw[wm]|rw[wj]|rw[vQ]|rw[wg]|rw[we]);split<;>try simp only[aK,reduceCtorEq,KP,KQ,KR,KS,KT,KU,KV,Lz,Lo,LC,oz,oA,oB,oD,oC,oF,gr,AM,List.map_id,Rs,acg,Xm, *])
  all_goals first|rfl|(simp_all;done)|(simp_all [P5,Rs];done)|(simp only[P5,ite_false,ite_true,if_false,if_true, *]<;>simp_all)
 ·intro u _;simp only[aK,reduceCtorEq,Yx]
 ·intro u _;simp only[aK,reduceCtorEq]
 ·intros;simp only[aK,reduceCtorEq]
 ·refine(F8 (qx:=HM ps) ?_ ?_ (λn=>δ (η n,σ)) l []).trans ?_
  ·intro pre;rfl
  ·intro pre x rest;rw[HM];simp only[Bn,xu,xx]
  ·rfl
theorem aj5(l:List dI)(hok:eB Gh l)(σ:Heap):IZ [sl 3 fD l] σ=δ (.ah (uA l),σ):=by
 refine wrap_eq rfl ?_ rfl;show I1 (sl 3 fD l) σ=_;unfold I1 uA;simp only[aK,reduceCtorEq];by_cases BS:60<l.length
 ·have xL:(60:Int)<l.length:=by omega
  simp only[aK,reduceCtorEq,BS,xL]
 have xL:¬(60:Int)<l.length:=by omega
 simp only[aK,reduceCtorEq,BS,xL]
 refine(oG (S:=Unit) (R:=Int) l (λpre x _=>if pg x=0 then(if ia x.name (pre.map (·.name))=θ then .out 6 else .go ())else .out (pg x))
  (λpre _=>[.ah 0,.ah (pre.length:Int)]) (λpre _=>σ++[Z7 (jN (·.name) pre)])
  (λ_=>(.exit 0,[.ah 0,.ah (l.length:Int)],σ++[Z7 (jN (·.name) l)])) (λpre _ r=>(.ret,[.ah r,.ah (pre.length:Int)],σ++[Z7 (jN (·.name) pre)]))
  (λ_ _=>True) () (λ_=>δ (η 0,σ)) (λr=>δ (η r,σ)) ?_ ?_ trivial (λ_ _ _ _ _ _ _ _=>trivial) ?_ ?_).trans ?_
 ·intro pre x rest u hl _;have hx:=oK hl;have hlt:=qh hl;have hi1:ε.wrap ((pre.length:Int)+1)=(pre.length:Int)+1:=bp (by unfold aG;omega);have hi2:ε.wrap ((pre.length:Int) -1)=(pre.length:Int) -1:=bp (by unfold aG;omega);have hlt':(pre.length:Int)<(l.length:Int):=by omega
  have hP:=akB x (hok.2 x (by rw[hl];simp));have lV:=mm 3 fD l hx;clear hl hx hlt hok BS xL;simp only[aK,reduceCtorEq,oz,oA,oB,oD,oC,oF,hlt',lV,hi1,hP]
  repeat' ((first|rw[wo]|rw[wm]|rw[wj]|rw[vQ]|rw[wg]|rw[we]);split<;>try simp only[aK,reduceCtorEq,oz,oA,oB,oD,oC,oF, *])
  all_goals first|with_reducible rfl|(simp [*];done)|(simp_all;done)|(simp_all;omega)|rfl
 ·intro u _;simp only[aK,reduceCtorEq,Yx]
 ·intro u _;simp only[aK,reduceCtorEq]
 ·intros;simp only[aK,reduceCtorEq]
 ·refine(F8 (qx:=xK) ?_ ?_ (λn=>δ (η n,σ)) l []).trans ?_
  ·intro pre;rfl
  ·intro pre x rest;rw[xK];simp only[Bn,xu,xx]
  ·rfl
theorem Sa{α:Type}(p:α->Bool)(l:List α):decide (0<=oP p l)=l.any p:=by
 rcases CD p l with⟨h1,h2,_⟩|⟨k,x,h1,h2,h3,_⟩
 ·rw[h1,iX];simp only[decide_eq_true_eq,WJ];exact⟨λh=>by omega,λ⟨x,hx,hp⟩=>by rw[h2 x hx]at hp;cases hp⟩
 ·rw[h3,iX];simp only[decide_eq_true_eq,WJ];exact⟨λ_=>⟨x,cZ h1,h2⟩,λ_=>by omega⟩
theorem WN(dyn:Nat->au->Heap->aC)(l:List dI)(hl:l.length<=bu)(n:Nat)(caps:au)(p:dI->Bool)(σ:Heap)(hd:∀x∈l,dyn n ((.agg (fD x):U)::caps) σ=δ (.bool (p x),σ)):Ff dyn [sl 3 fD l,.fn n caps] σ=δ (.ah (oP p l),σ):=by
 refine wrap_eq rfl ?_ rfl;show Fg dyn (sl 3 fD l) (.fn n caps) σ=_;unfold Fg;simp only[aK,reduceCtorEq]
 refine(oG (S:=Unit) (R:=Int) l (λpre x _=>if p x=θ then .out (pre.length:Int)else .go ())
  (λpre _=>[.ah 0,.ah (pre.length:Int)]) (λ_ _=>σ) (λ_=>(.exit 0,[.ah 0,.ah (l.length:Int)],σ)) (λpre _ r=>(.ret,[.ah (pre.length:Int),.ah (pre.length:Int)],σ))
  (λ_ _=>True) () (λ_=>δ (η (-1),σ)) (λr=>δ (η r,σ)) ?_ ?_ trivial (λ_ _ _ _ _ _ _ _=>trivial) ?_ ?_).trans ?_
 ·intro pre x rest u hl' _;have hx:=oK hl';have hlt:=qh hl';have hi1:ε.wrap ((pre.length:Int)+1)=(pre.length:Int)+1:=bp (by unfold aG;unfold bu at hl;omega);have hlt':(pre.length:Int)<(l.length:Int):=by omega
  have lV:=mm 3 fD l hx;have zR:=hd x (by rw[hl'];simp);simp only[aK,reduceCtorEq,oz,oA,oB,oD,oC,oF,hlt',lV,A.pH,kN,Yd,zR,hi1];cases p x<;>simp [aK,reduceCtorEq]
 ·intro u _;simp only[aK,reduceCtorEq,Yx]
 ·intro u _;simp only[aK,reduceCtorEq]
 ·intro pre x rest s q hl' _ hb
  have:q=(pre.length:Int):=by
   cases hpx:p x
   ·rw[hpx]at hb;cases hb
   ·rw[hpx]at hb;simp at hb;exact hb.symm
  simp only[aK,reduceCtorEq,this]
 ·rw[CR p _ _ l [] (by simp)];simp only[Yd];split
  ·rename_i h;rw[h]
  ·rfl
theorem ajj(dyn:Nat->au->Heap->aC)(l:List cr)(hl:l.length<=bu)(n:Nat)(caps:au)(p:cr->Bool)(σ:Heap)(hd:∀x∈l,dyn n ((.agg (dY x):U)::caps) σ=δ (.bool (p x),σ)):Fl dyn [sl 11 dY l,.fn n caps] σ=δ (.ah (oP p l),σ):=by
 refine wrap_eq rfl ?_ rfl;show Fm dyn (sl 11 dY l) (.fn n caps) σ=_;unfold Fm;simp only[aK,reduceCtorEq]
 refine(oG (S:=Unit) (R:=Int) l (λpre x _=>if p x=θ then .out (pre.length:Int)else .go ())
  (λpre _=>[.ah 0,.ah (pre.length:Int)]) (λ_ _=>σ) (λ_=>(.exit 0,[.ah 0,.ah (l.length:Int)],σ)) (λpre _ r=>(.ret,[.ah (pre.length:Int),.ah (pre.length:Int)],σ))
  (λ_ _=>True) () (λ_=>δ (η (-1),σ)) (λr=>δ (η r,σ)) ?_ ?_ trivial (λ_ _ _ _ _ _ _ _=>trivial) ?_ ?_).trans ?_
 ·intro pre x rest u hl' _;have hx:=oK hl';have hlt:=qh hl';have hi1:ε.wrap ((pre.length:Int)+1)=(pre.length:Int)+1:=bp (by unfold aG;unfold bu at hl;omega);have hlt':(pre.length:Int)<(l.length:Int):=by omega
  have lV:=mm 11 dY l hx;have zR:=hd x (by rw[hl'];simp);simp only[aK,reduceCtorEq,acm,acn,aco,acp,acq,acr,acs,acu,acv,acw,aa8,YZ,aeT,ad7,Ml,hlt',lV,A.pH,kN,Yd,zR,hi1];cases p x<;>simp [aK,reduceCtorEq]
 ·intro u _;simp only[aK,reduceCtorEq,Yx]
 ·intro u _;simp only[aK,reduceCtorEq]
 ·intro pre x rest s q hl' _ hb
  have:q=(pre.length:Int):=by
   cases hpx:p x
   ·rw[hpx]at hb;cases hb
   ·rw[hpx]at hb;simp at hb;exact hb.symm
  simp only[aK,reduceCtorEq,this]
 ·rw[CR p _ _ l [] (by simp)];simp only[Yd];split
  ·rename_i h;rw[h]
  ·rfl
theorem WT(dyn:Nat->au->Heap->aC)(l:List cr)(hl:l.length<=bu)(n:Nat)(caps:au)(p:cr->Bool)(σ:Heap)(hd:∀x∈l,dyn n ((.agg (dY x):U)::caps) σ=δ (.bool (p x),σ)):Fh dyn [sl 11 dY l,.fn n caps] σ=δ (.bool (l.any p),σ):=by refine wrap_eq rfl ?_ rfl;show Fi dyn (sl 11 dY l) (.fn n caps) σ=_;unfold Fi;simp only[aK,reduceCtorEq,ajj dyn l hl n caps p σ hd];refine congrArg δ (congrArg (λb=>(ψ b,σ)) ?_);exact Sa p l
theorem acW(dyn:Nat->au->Heap->aC)(l:List gX)(hl:l.length<=bu)(n:Nat)(caps:au)(p:gX->Bool)(σ:Heap)(hd:∀x∈l,dyn n ((.agg (gO x):U)::caps) σ=δ (.bool (p x),σ)):Fj dyn [sl 2 gO l,.fn n caps] σ=δ (.ah (oP p l),σ):=by
 refine wrap_eq rfl ?_ rfl;show Fk dyn (sl 2 gO l) (.fn n caps) σ=_;unfold Fk;simp only[aK,reduceCtorEq]
 refine(oG (S:=Unit) (R:=Int) l (λpre x _=>if p x=θ then .out (pre.length:Int)else .go ())
  (λpre _=>[.ah 0,.ah (pre.length:Int)]) (λ_ _=>σ) (λ_=>(.exit 0,[.ah 0,.ah (l.length:Int)],σ)) (λpre _ r=>(.ret,[.ah (pre.length:Int),.ah (pre.length:Int)],σ))
  (λ_ _=>True) () (λ_=>δ (η (-1),σ)) (λr=>δ (η r,σ)) ?_ ?_ trivial (λ_ _ _ _ _ _ _ _=>trivial) ?_ ?_).trans ?_
 ·intro pre x rest u hl' _;have hx:=oK hl';have hlt:=qh hl';have hi1:ε.wrap ((pre.length:Int)+1)=(pre.length:Int)+1:=bp (by unfold aG;unfold bu at hl;omega);have hlt':(pre.length:Int)<(l.length:Int):=by omega
  have lV:=mm 2 gO l hx;have zR:=hd x (by rw[hl'];simp);simp only[aK,reduceCtorEq,aa9,aba,adC,ac3,CX,hlt',lV,A.pH,kN,Yd,zR,hi1];cases p x<;>simp [aK,reduceCtorEq]
 ·intro u _;simp only[aK,reduceCtorEq,Yx]
 ·intro u _;simp only[aK,reduceCtorEq]
 ·intro pre x rest s q hl' _ hb
  have:q=(pre.length:Int):=by
   cases hpx:p x
   ·rw[hpx]at hb;cases hb
   ·rw[hpx]at hb;simp at hb;exact hb.symm
  simp only[aK,reduceCtorEq,this]
 ·rw[CR p _ _ l [] (by simp)];simp only[Yd];split
  ·rename_i h;rw[h]
  ·rfl
theorem WI(dyn:Nat->au->Heap->aC)(l:List jq)(hl:l.length<=bu)(n:Nat)(caps:au)(p:jq->Bool)(σ:Heap)(hd:∀x∈l,dyn n ((.agg (gL x):U)::caps) σ=δ (.bool (p x),σ)):Fc dyn [sl 3 gL l,.fn n caps] σ=δ (.ah (oP p l),σ):=by
 refine wrap_eq rfl ?_ rfl;show Fe dyn (sl 3 gL l) (.fn n caps) σ=_;unfold Fe;simp only[aK,reduceCtorEq]
 refine(oG (S:=Unit) (R:=Int) l (λpre x _=>if p x=θ then .out (pre.length:Int)else .go ())
  (λpre _=>[.ah 0,.ah (pre.length:Int)]) (λ_ _=>σ) (λ_=>(.exit 0,[.ah 0,.ah (l.length:Int)],σ)) (λpre _ r=>(.ret,[.ah (pre.length:Int),.ah (pre.length:Int)],σ))
  (λ_ _=>True) () (λ_=>δ (η (-1),σ)) (λr=>δ (η r,σ)) ?_ ?_ trivial (λ_ _ _ _ _ _ _ _=>trivial) ?_ ?_).trans ?_
 ·intro pre x rest u hl' _;have hx:=oK hl';have hlt:=qh hl';have hi1:ε.wrap ((pre.length:Int)+1)=(pre.length:Int)+1:=bp (by unfold aG;unfold bu at hl;omega);have hlt':(pre.length:Int)<(l.length:Int):=by omega
  have lV:=mm 3 gL l hx;have zR:=hd x (by rw[hl'];simp);simp only[aK,reduceCtorEq,Yv,Yw,ai4,ajB,ajK,KG,hlt',lV,A.pH,kN,Yd,zR,hi1];cases p x<;>simp [aK,reduceCtorEq]
 ·intro u _;simp only[aK,reduceCtorEq,Yx]
 ·intro u _;simp only[aK,reduceCtorEq]
 ·intro pre x rest s q hl' _ hb
  have:q=(pre.length:Int):=by
   cases hpx:p x
   ·rw[hpx]at hb;cases hb
   ·rw[hpx]at hb;simp at hb;exact hb.symm
  simp only[aK,reduceCtorEq,this]
 ·rw[CR p _ _ l [] (by simp)];simp only[Yd];split
  ·rename_i h;rw[h]
  ·rfl
theorem ajn(dyn:Nat->au->Heap->aC)(l:List jq)(hl:l.length<=bu)(n:Nat)(caps:au)(p:jq->Bool)(σ:Heap)(hd:∀x∈l,dyn n ((.agg (gL x):U)::caps) σ=δ (.bool (p x),σ)):E9 dyn [sl 3 gL l,.fn n caps] σ=δ (.bool (l.any p),σ):=by refine wrap_eq rfl ?_ rfl;show Fa dyn (sl 3 gL l) (.fn n caps) σ=_;unfold Fa;simp only[aK,reduceCtorEq,WI dyn l hl n caps p σ hd];refine congrArg δ (congrArg (λb=>(ψ b,σ)) ?_);exact Sa p l
theorem KW(nm:ByteArray):∀(l:List dI),gW nm l=match l.find? (λx:dI=>decide (x.name=nm))with|some p=>(p,θ)|none=>(⟨⟨#[]⟩,0,[]⟩,ξ)
 |[]=>rfl
 |p::l=>by
  rw[gW];by_cases h:p.name=nm
  ·simp [h]
  ·simp [h,KW nm l]
theorem ajb(x:dI)(nm:ByteArray)(σ:Heap):Ce [.agg (fD x),.rp [.str nm]] σ=δ (.bool (decide (x.name=nm)),σ):=by refine wrap_eq rfl ?_ rfl;show I7 (.agg (fD x)) (.rp [.str nm]) σ=_;unfold I7;simp only[aK,reduceCtorEq,oz,oA,oB,oD,oC,oF];show(δ (Γ nm)).bind _=_;simp only[aK,reduceCtorEq]
theorem nnP(x:iL):Zs [.k,.k,.k,.k,.k,.k,(.s 3)] (jr x)=jr x:=rfl
theorem afK(p:dI)(b:Bool):Ya Ia (.az [.agg (fD p),.bool b])=.az [.agg (fD p),.bool b]:=by show p7 [.agg [.str p.name,.ah p.size,Ya (.e 7 [.k,.k,.k,.k,.k,.k,(.s 3)]) (sl 7 jr p.params)],.bool b]=_;rw[xS nnP];rfl
theorem QI(l:List dI)(hl:l.length<=bu)(nm:ByteArray)(σ:Heap):FA [sl 3 fD l,.str nm] σ=δ (.az [.agg (fD (gW nm l).1),.bool (gW nm l).2],σ):=by
 have key:∃w,FC (sl 3 fD l) (.str nm) σ=δ (w,σ)/\Ya Ia w=.az [.agg (fD (gW nm l).1),.bool (gW nm l).2]:=by
  unfold FC;simp only[aK,reduceCtorEq];rw[WN _ l hl 64 [.rp [.str nm]] (λx=>decide (x.name=nm)) σ (λx _=>ajb x nm σ)];simp only[aK,reduceCtorEq];rw[KW];rcases CD (λx:dI=>decide (x.name=nm)) l with⟨h1,_,h3⟩|⟨k,x,h1,h2,h3,h4,_⟩
  ·refine⟨.az [.agg [.str ⟨#[]⟩,.ah 0,.bA],.bool ξ],?_,?_⟩
   ·rw[h1];simp only[aK,reduceCtorEq,show((-1:Int)<0)from by decide];rfl
   ·rw[h3];rfl
  ·refine⟨.az [.agg (fD x),.bool θ],?_,?_⟩
   ·rw[h3];simp only[aK,reduceCtorEq,oz,oA,oB,oD,oC,oF,show ¬((k:Int)<0)from by omega,mm 3 fD l h1]
   ·rw[h4];exact afK x θ
 obtain⟨w,h1,h2⟩:=key;exact wrap_eq rfl h1 h2
def marks(f:Nat->Bool):au:=(List.range 513).map λk=>.bool (f k)
theorem AZ(f:Nat->Bool){k:Nat}(h:k<513):(marks f)[k]? =δ (.bool (f k)):=by simp [marks,h]
theorem yN(f:Nat->Bool):(marks f).length=513:=by simp [marks]
theorem Ra(f:Nat->Bool){γ:Type}(K1 K2:γ):∀(s a:Nat)(pre:List Nat),(iC (λ_ k(_:Unit)=>if 512<k\/f k=θ then(Rd.out ():Rd Unit Unit)else .go ()) pre (YT a s) ()).el (λ_=>K1) (λ_=>K2)=if qX f s a=θ then K1 else K2
 |0,a,pre=>by simp [iC,qX,alD]
 |s+1,a,pre=>by
  rw[alK,iC,qX];by_cases h:512<a\/f a=θ
  ·simp only[aE h,alD];simp
  ·simp only[aD h];exact Ra f K1 K2 s (a+1) _
theorem aer(a s:Int)(h:aG (a+s))(h':aG (a+s-1))(σ:Heap):Ar [.np,.ah a,.ah s] σ=δ (.bool (decide (a+s-1<=512)),σ):=by refine wrap_eq rfl ?_ rfl;show Cf .np (.ah a) (.ah s) σ=_;unfold Cf;simp only[aK,reduceCtorEq,show p5 .p U.np U.np=δ (.bool θ)from rfl,bp h,bp h']
theorem acU(cs:au){k:Nat}(h:k<513):A.uj 513 1 (.rp cs) (.ah (k:Int))=δ (.rp (cs.drop k)):=by
 have h1:A.idx 513 (.ah (k:Int))=δ k:=by show(if(0:Int)<=(k:Int)/\(k:Int)<((513:Nat):Int)then δ (k:Int).toNat else μ)=δ k;rw[aE ⟨by omega,by omega⟩];rfl
 unfold A.uj;rw[h1];simp only[aA,Nat.mul_one]
theorem aet(f:Nat->Bool)(a s:Nat)(hs:a<=1024/\s<=1024)(σ:Heap):Ar [.rp (marks f),.ah (a:Int),.ah (s:Int)] σ=δ (.bool (qX f s a),σ):=by
 refine wrap_eq rfl ?_ rfl;show Cf (.rp (marks f)) (.ah (a:Int)) (.ah (s:Int)) σ=_;unfold Cf;have hw:ε.wrap ((a:Int)+s)=(a:Int)+s:=bp (by unfold aG;omega);simp only[aK,reduceCtorEq,show p5 .p (YH (marks f)) U.np=δ (.bool ξ)from rfl,hw]
 refine(oG (S:=Unit) (R:=Unit) (YT a s) (λ_ k(_:Unit)=>if 512<k\/f k=θ then(Rd.out ():Rd Unit Unit)else .go ())
  (λpre _=>[.bool ξ,.ah ((a:Int)+(pre.length:Int))]) (λ_ _=>σ) (λ_=>(.exit 0,[.bool ξ,.ah ((a:Int)+s)],σ)) (λpre _ _=>(.ret,[.bool ξ,.ah ((a:Int)+(pre.length:Int))],σ))
  (λ_ _=>True) () (λ_=>δ (ψ θ,σ)) (λ_=>δ (ψ ξ,σ)) ?_ ?_ trivial (λ_ _ _ _ _ _ _ _=>trivial) ?_ ?_ (hv:=by simp)).trans ?_
 ·intro pre k rest u hl _;have hx:=oK hl;have hlt:=qh hl;rw[Zf]at hlt
  obtain rfl:a+pre.length=k:=by have:=(cL.1 hx).2;simpa [alc]using this
  have hlt':(a:Int)+(pre.length:Int)<(a:Int)+s:=by omega
  have hi1:ε.wrap ((a:Int)+(pre.length:Int)+1)=(a:Int)+((pre.length:Int)+1):=by rw[bp (by unfold aG;omega)];omega
  have Bx:(a:Int)+(pre.length:Int)=((a+pre.length:Nat):Int):=by omega
  clear hl hx;by_cases h5:512<a+pre.length
  ·have Oi:(512:Int)<(a:Int)+(pre.length:Int):=by omega
   simp only[aK,reduceCtorEq,hlt',h5,Oi]
  have Oi:¬(512:Int)<(a:Int)+(pre.length:Int):=by omega
  have hp:Ψ 0 ((marks f).drop (a+pre.length))=δ (.bool (f (a+pre.length))):=by rw[OK];simp only[Ψ,Nat.add_zero,AZ f (show a+pre.length<513 by omega)];rfl
  simp only[aK,reduceCtorEq,hlt',h5,Oi,show A.um (YH (marks f))=δ (.rp (marks f))from rfl];rw[Bx,acU _ (by omega)];simp only[aK,reduceCtorEq,hp];cases hf:f (a+pre.length)
  ·simp only[aK,reduceCtorEq,<-Bx,hi1]
  ·simp only[aK,reduceCtorEq,<-Bx]
 ·intro u _;rw[Zf];exact A7 _ _ _
 ·intro u _;simp only[aK,reduceCtorEq]
 ·intros;simp only[aK,reduceCtorEq]
 ·rw[Ra];cases qX f s a<;>rfl
theorem aes(f:Nat->Bool)(a s:Nat)(hs:a<=1024/\s<=1024){σ:Heap}{id:Nat}(h:σ[id]? =δ (.box (marks f))):Ar [.op id 0,.ah (a:Int),.ah (s:Int)] σ=δ (.bool (qX f s a),σ):=by
 refine LZ (args':=[.rp (marks f),.ah (a:Int),.ah (s:Int)]) rfl ?_ rfl (aet f a s hs []) rfl
 have e:A.sC σ 0 7 (marks f)=δ (marks f):=by
  have key:∀(l:List Nat),A.sC σ 0 7 (l.map λk=>ψ (f k))=δ (l.map λk=>ψ (f k)):=by
   intro l;induction l with
   |nil=>simp [A.sC]
   |cons x l ih=>simp [A.sC,Xz,ih]
  exact key _
 simp [Zw,Xz,h,e]
def pV(b:Nat):List Int->List (U×U)
 |[]=>[]
 |v::r=>(.int ε v,.op b 0)::pV (b+1) r
def fO(σ:Heap)(vs:List Int)(f:Int->Nat->Bool):Heap:=σ++(Z7 (pV (σ.length+1) vs)::vs.map λv=>bH.box (marks (f v)))
theorem Sz(v:Int):∀(vs:List Int)(b:Nat),pV b (vs++[v])=pV b vs++[(.ah v,.op (b+vs.length) 0)]
 |[],b=>rfl
 |w::r,b=>by simp only[kN,pV,Sz v r (b+1),l8];rw[show b+1+r.length=b+(r.length+1) by omega]
theorem GL(v:Int):∀(vs:List Int)(b:Nat),YB .i (.ah v) (pV b vs)=δ (if v∈vs then δ (.op (b+vs.idxOf v) 0)else μ)
 |[],b=>rfl
 |w::r,b=>by
  simp only[pV,YB,XL,A.jR,if_true,aA];by_cases h:v=w
  ·subst h;simp
  ·have h1:(v==w)=ξ:=by simpa using h
   have h2:(w==v)=ξ:=by simpa using λe:w=v=>h e.symm
   simp only[h1,aZ,GL v r (b+1),eG,h,false_or,List.idxOf_cons,h2];rw[show b+1+r.idxOf v=b+(r.idxOf v+1) by omega]
theorem Tk(v:Int)(w:U):∀(vs:List Int)(b:Nat),v∉vs->alp .i (.ah v) w (pV b vs)=δ (pV b vs++[(.ah v,w)])
 |[],b,_=>rfl
 |x::r,b,h=>by
  simp only[eG,not_or]at h;have h1:(v==x)=ξ:=by simpa using h.1
  simp only[pV,alp,XL,A.jR,if_true,aA,h1,aZ,Tk v w r (b+1) h.2,fB,kN]
theorem Tm(σ:Heap)(vs:List Int)(f:Int->Nat->Bool):(fO σ vs f).length=σ.length+1+vs.length:=by simp [fO];omega
theorem G2(σ:Heap)(vs:List Int)(f:Int->Nat->Bool):(fO σ vs f)[σ.length]? =δ (.map (pV (σ.length+1) vs)):=by simp [fO]
theorem Tl(σ:Heap){vs:List Int}(f:Int->Nat->Bool){v:Int}(h:v∈vs):(fO σ vs f)[σ.length+1+vs.idxOf v]? =δ (.box (marks (f v))):=by
 unfold fO;rw[jL (by omega),show σ.length+1+vs.idxOf v-σ.length=vs.idxOf v+1 by omega,amk,List.getElem?_map]
 have:vs[vs.idxOf v]? =δ v:=by have hl:=List.idxOf_lt_length_of_mem h;rw[bT hl,List.getElem_idxOf hl]
 rw[this];rfl
theorem aff(σ:Heap){vs:List Int}(hn:vs.Nodup){f f':Int->Nat->Bool}{v:Int}(h:v∈vs)(ho:∀w,w≠v->f' w=f w):(fO σ vs f).set (σ.length+1+vs.idxOf v) (.box (marks (f' v)))=fO σ vs f':=by
 unfold fO;rw[BD _ _ (by omega),show σ.length+1+vs.idxOf v-σ.length=vs.idxOf v+1 by omega,List.set_cons_succ];refine congrArg (λz=>σ++(Z7 (pV (σ.length+1) vs)::z)) ?_;clear σ;induction vs with
 |nil=>cases h
 |cons w r ih=>
  rw[alo]at hn;rw[List.idxOf_cons];by_cases e:w=v
  ·subst e;simp only[beq_self_eq_true,bG,fH,List.set_cons_zero];exact congrArg (bH.box (marks (f' w))::·) (Zh λx hx=>by rw[ho x (λe=>hn.1 (e▸hx))])
  ·have e2:(w==v)=ξ:=by simpa using e
   simp only[e2,aZ,fH,List.set_cons_succ];rw[ih hn.2 ((eG.1 h).resolve_left λq=>e q.symm),ho w e]
theorem afe(σ:Heap)(vs:List Int){f:Int->Nat->Bool}{v:Int}(h:∀k,f v k=ξ):((fO σ vs f)++[bH.box (w4 513 bw)]).set σ.length (.map (pV (σ.length+1) (vs++[v])))=fO σ (vs++[v]) f:=by
 have e:marks (f v)=w4 513 bw:=by rw[show f v=λ_=>ξ from funext h];refine List.eq_replicate_iff.2 ⟨yN _,λb hb=>?_⟩;obtain⟨k,_,rfl⟩:=kZ.1 hb;rfl
 unfold fO;simp only[sH,kN];rw[BD _ _ (bL _),alV,List.set_cons_zero,List.map_append,fH,e];rfl
theorem ace(g g':Nat->Bool){k:Nat}(hk:k<513)(h1:g' k=θ)(h2:∀j,j≠k->g' j=g j):w8 k [ψ θ] (marks g)=δ (marks g'):=by
 unfold w8;rw[aE (by rw[yN];simp;omega)];refine congrArg δ (List.ext_getElem? λj=>?_);simp only[sH,kN,Yd,l8,AV];by_cases hj:j<k
 ·rw[iV (by rw[mL,yN];omega),ZU hj,AZ _ (by omega),AZ _ (by omega),h2 j (by omega)]
 ·rw[jL (by rw[mL,yN];omega),mL,yN,Nat.min_eq_left (by omega)];by_cases e:j=k
  ·subst e;rw[alV,Z3,AZ _ hk,h1]
  ·rw[show j-k=(j-k-1)+1 by omega,amk,W5,show k+(0+1)+(j-k-1)=j by omega];by_cases hj2:j<513
   ·rw[AZ _ hj2,AZ _ hj2,h2 j e]
   ·rw[lP (by rw[yN];omega),lP (by rw[yN];omega)]
theorem Hl{α γ:Type}(K1:Unit->γ)(K2:Unit->γ):∀(l pre:List α),(iC (λ_(x:α)(_:Unit)=>(Rd.go ():Rd Unit Unit)) pre l ()).el K1 K2=K1 ()
 |[],pre=>rfl
 |x::l,pre=>by rw[iC];exact Hl K1 K2 l _
theorem QL{α S:Type}{body:List α->α->S->Rd S Int}{qx:List α->List α->Int}(h0:∀pre,qx pre []=0)(h:∀pre x rest s,qx pre (x::rest)=(body pre x s).el (λ_=>qx (pre++[x]) rest) (λr=>r)) {γ:Type} (K:Int->γ):
  ∀(l pre:List α)(s:S),(iC body pre l s).el (λ_=>K 0) K=K (qx pre l)
 |[],pre,s=>by rw[iC,h0];rfl
 |x::l,pre,s=>by
  rw[iC,h pre x l s];cases body pre x s with
  |go s'=>exact QL h0 h K l (pre++[x]) s'
  |out r=>rfl
theorem aa3(f:Int->Nat->Bool)(v:Int)(a:Nat):kX f v a 0=f:=by funext w k;unfold kX;rw[aD (by omega)]
theorem RH{γ:Type}(σ:Heap){vs:List Int}(hn:vs.Nodup)(f:Int->Nat->Bool)(u:fT)(a s:Nat)(ha:u.address=a)(hs:a+s<=513)(hm:u.univ∈vs)(K:au->Heap->Option γ):
  (WY (λv11 Aa=>
   ((W9 (ak v11 0)).bind λ_=>δ (3)).bind λOJ=>
   ((W9 (ak v11 0)).bind λoU=>Ψ OJ oU).bind λbS=>
   (u0 bS (.ah (s:Int))).bind λbW=>
   (Y3 (ak v11 1) bW).bind λcH=>
   φ cH (
    ((W9 (ak v11 0)).bind λ_=>δ (2)).bind λp18=>
    ((W9 (ak v11 0)).bind λoV=>Ψ p18 oV).bind λcJ=>
    (Yg .i (.om σ.length) cJ U.np Aa).bind λcK=>
    (A.um cK).bind λcQ=>
    (A.uj 513 1 cQ (ak v11 1)).bind λdU=>
    (akO dU [ψ θ] Aa).bind λiE=>
    (u0 (ak v11 1) (η 1)).bind λeY=>
    δ (wh,[(ak v11 0),eY],iE)) (
    δ (eN 0,[(ak v11 0),(ak v11 1)],Aa))) [.lbx (gT u),.ah (a:Int)] (fO σ vs f)).bind (λlX=>
 bif decide (lX.1=eN 0)then K lX.2.1 lX.2.2 else μ)=K [.lbx (gT u),.ah ((a:Int)+s)] (fO σ vs (kX f u.univ a s)):=by
 have hw:ε.wrap ((a:Int)+s)=(a:Int)+s:=bp (by unfold aG;omega)
 refine(oG (S:=Unit) (R:=Unit) (YT a s) (λ_ k(_:Unit)=>(Rd.go ():Rd Unit Unit))
  (λpre _=>[.lbx (gT u),.ah ((a:Int)+(pre.length:Int))]) (λpre _=>fO σ vs (kX f u.univ a pre.length)) (λ_=>(.exit 0,[.lbx (gT u),.ah ((a:Int)+s)],fO σ vs (kX f u.univ a s))) (λpre _ _=>(.ret,[],σ))
  (λ_ _=>True) () (λ_=>K [.lbx (gT u),.ah ((a:Int)+s)] (fO σ vs (kX f u.univ a s))) (λ_=>μ) ?_ ?_ trivial (λ_ _ _ _ _ _ _ _=>trivial) ?_ ?_ (hv:=by simp) (eA:=by rw[AV,aa3])).trans (Hl _ _ _ _)
 ·intro pre k rest t hl _;have hx:=oK hl;have hlt:=qh hl;rw[Zf]at hlt
  obtain rfl:a+pre.length=k:=by have:=(cL.1 hx).2;simpa [alc]using this
  have hlt':(a:Int)+(pre.length:Int)<(a:Int)+s:=by omega
  have hi1:ε.wrap ((a:Int)+(pre.length:Int)+1)=(a:Int)+((pre.length:Int)+1):=by rw[bp (by unfold aG;omega)];omega
  have Bx:(a:Int)+(pre.length:Int)=((a+pre.length:Nat):Int):=by omega
  clear hl hx
  have MS:Yg .i (.om σ.length) (.ah u.univ) U.np (fO σ vs (kX f u.univ a pre.length))=δ (.op (σ.length+1+vs.idxOf u.univ) 0):=by rw[xj .i rfl (G2 σ vs _),GL,aE hm];rfl
  have ag4:A.uj 513 1 (.op (σ.length+1+vs.idxOf u.univ) 0) (.ah ((a+pre.length:Nat):Int))=δ (.op (σ.length+1+vs.idxOf u.univ) (a+pre.length)):=by
   have h1:A.idx 513 (.ah ((a+pre.length:Nat):Int))=δ (a+pre.length):=by show(if(0:Int)<=((a+pre.length:Nat):Int)/\((a+pre.length:Nat):Int)<((513:Nat):Int)then δ ((a+pre.length:Nat):Int).toNat else μ)=_;rw[aE ⟨by omega,by omega⟩];rfl
   unfold A.uj;rw[h1];simp only[aA,Nat.mul_one,Zm]
  have hst:akO (.op (σ.length+1+vs.idxOf u.univ) (a+pre.length)) [.bool θ] (fO σ vs (kX f u.univ a pre.length))=δ (fO σ vs (kX f u.univ a (pre.length+1))):=by
   simp only[akO,Tl σ _ hm]
   rw[ace _ (kX f u.univ a (pre.length+1) u.univ) (by omega) (by unfold kX;rw[aE ⟨rfl,by omega,by omega⟩]) (λj hj=>by
    unfold kX;by_cases q:a<=j/\j<a+pre.length
    ·rw[aE ⟨rfl,by omega,by omega⟩,aE ⟨rfl,q.1,q.2⟩]
    ·rw[aD (by omega),aD (by omega)])]
   simp only[fB];rw[aff σ hn hm (λw hw=>by funext j;unfold kX;rw[aD (λq=>hw q.1),aD (λq=>hw q.1)])]
  simp only[aK,reduceCtorEq,nj,nr,nu,nv,nA,nw,nB,ha,hw,hlt',MS,show A.um (.op (σ.length+1+vs.idxOf u.univ) 0)=δ (.op (σ.length+1+vs.idxOf u.univ) 0)from rfl];rw[Bx,ag4];simp only[aK,reduceCtorEq,hst,<-Bx,hi1]
 ·intro t _;rw[Zf];simp only[aK,reduceCtorEq,nj,nr,nu,nv,nA,nw,nB,ha,hw,Yx]
 ·intro t _;simp only[aK,reduceCtorEq]
 ·intro pre x rest t r _ _ hb;cases hb
theorem afc(σ:Heap){vs:List Int}(hn:vs.Nodup)(f:Int->Nat->Bool)(u:fT)(a s:Nat)(ha:u.address=a)(hs:a+s<=513)(hf:u.univ∉vs->∀k,f u.univ k=ξ):
  FG [.om σ.length,.agg (gT u),.ah (s:Int)] (fO σ vs f)=δ (.az [],fO σ (if u.univ∈vs then vs else vs++[u.univ]) (kX f u.univ a s)):=by
 have e:Cp (.om σ.length) (.agg (gT u)) (.ah (s:Int)) (fO σ vs f)=δ (.az [],fO σ (if u.univ∈vs then vs else vs++[u.univ]) (kX f u.univ a s)):=by
  unfold Cp
  have MS:Yg .i (.om σ.length) (.ah u.univ) U.np (fO σ vs f)=δ (if u.univ∈vs then .op (σ.length+1+vs.idxOf u.univ) 0 else .np):=by rw[xj .i rfl (G2 σ vs _),GL];by_cases hm:u.univ∈vs<;>simp [hm]
  simp only[aK,reduceCtorEq,nj,nr,nu,nv,nA,nw,nB,MS];by_cases hm:u.univ∈vs
  ·simp only[aE hm,show p5 .p (.op (σ.length+1+vs.idxOf u.univ) 0) U.np=δ (.bool ξ)from rfl,aK,reduceCtorEq,nj,nr,nu,nv,nA,nw,nB,ha];exact RH σ hn f u a s ha hs hm λ_ h=>δ (p7 [],h)
  ·have hup:A.jy .i (.om σ.length) (.ah u.univ) (.op (fO σ vs f).length 0) (fO σ vs f++[bH.box (w4 513 bw)])=δ (fO σ (vs++[u.univ]) f):=by rw[C7 .i rfl (es:=pV (σ.length+1) vs) (by rw[iV (by rw[Tm];omega)];exact G2 σ vs f),Tk _ _ _ _ hm];rw[fB,Tm,<-Sz,afe σ vs (hf hm)]
   simp only[aD hm,show p5 .p U.np U.np=δ (.bool θ)from rfl,aK,reduceCtorEq,nj,nr,nu,nv,nA,nw,nB,hup,ha];exact RH σ (by rw[List.nodup_append];exact⟨hn,by simp,λx hx y hy e=>hm (by simp at hy;rw[<-hy,<-e];exact hx)⟩) f u a s ha hs (by simp) λ_ h=>δ (p7 [],h)
 unfold FG ir;rw[YU,aZ];show(Cp (.om σ.length) (.agg (gT u)) (.ah (s:Int)) (fO σ vs f)).map _=_;rw[e];rfl
theorem aa6{α:Type}(f:α->Int){l pre rest:List α}{x:α}(h:l=pre++x::rest)(n:Int):(∃y,0<pre.length/\l[pre.length-1]? =δ y/\zn (pre.map f) n=decide (n<=f y))\/(¬0<pre.length/\zn (pre.map f) n=ξ):=by
 by_cases h0:0<pre.length
 ·obtain⟨y,hy,hy2⟩:=Sk h h0;exact .inl ⟨y,h0,hy2,by simp [zn,List.getLast?_map,hy]⟩
 ·obtain rfl:pre=[]:=ze (by omega);exact .inr ⟨h0,rfl⟩
theorem adV(σ:Heap)(vs:List Int)(f:Int->Nat->Bool)(v:Int):Yg .i (.om σ.length) (.ah v) U.np (fO σ vs f)=δ (if v∈vs then .op (σ.length+1+vs.idxOf v) 0 else .np):=by rw[xj .i rfl (G2 σ vs _),GL];by_cases hm:v∈vs<;>simp [hm]
theorem SM(σ:Heap)(vs:List Int)(f:Int->Nat->Bool)(n:Int):Ξ σ (.ah n) (fO σ vs f)=δ (.ah n,σ):=Mb _ _ _ _
theorem KJ(r:fA)(hok:xC r)(σ:Heap):Fq [.agg (hJ r)] σ=δ (.ah (iQ r),σ):=by
 refine wrap_eq rfl ?_ rfl;show Jl (.agg (hJ r)) σ=_;obtain⟨Nw,hus⟩:=hok;have Es:=Nw.1;unfold Jl iQ;simp only[aK,reduceCtorEq,tO,tP,tY,tV,tZ,aj5 _ Nw];by_cases hf:uA r.cY=0;case neg=>simp only[aK,reduceCtorEq,hf]
 by_cases h4:400<r.iU.length
 ·have h4':(400:Int)<r.iU.length:=by omega
  simp only[aK,reduceCtorEq,tO,tP,tY,tV,tZ,hf,h4,h4']
 have h4':¬(400:Int)<r.iU.length:=by omega
 simp only[aK,reduceCtorEq,tO,tP,tY,tV,tZ,hf,h4,h4'];have TG:=aa0 hf;generalize hlq:r.iU=l at *
 refine(oG (S:=List Int×(Int->Nat->Bool)) (R:=Int) l (λpre u s=>if aI u.aH 1 9999=ξ then .out 1
    else if zn (pre.map (·.aH)) u.aH=θ then .out 7
    else if(gW u.iK r.cY).2=ξ then .out 5
    else if aI u.univ 1 64=ξ\/aI u.address 1 512=ξ\/512<mI r.cY u then .out 1
    else if Bl r.cY u pre=θ then .out 12 else .go (if u.univ∈s.1 then s.1 else s.1++[u.univ],kX s.2 u.univ u.address.toNat (gW u.iK r.cY).1.size.toNat))
  (λpre _=>[.lbx (hJ r),.ah 0,.ah (pre.length:Int)]) (λpre s=>fO σ s.1 s.2)
  (λs=>(.exit 0,[.lbx (hJ r),.ah 0,.ah (l.length:Int)],fO σ s.1 s.2)) (λpre s n=>(.ret,[.lbx (hJ r),.ah n,.ah (pre.length:Int)],fO σ s.1 s.2))
  (λpre s=>CY r.cY pre/\xp r.cY pre s.2/\s.1.Nodup/\∀v,v∉s.1->∀k,s.2 v k=ξ) ([],λ_ _=>ξ) (λ_=>δ (η 0,σ)) (λn=>δ (η n,σ)) ?_ ?_ ⟨(by intro x hx;simp at hx),xp.nil _,List.nodup_nil,λ_ _ _=>rfl⟩ ?_ ?_ ?_).trans ?_
 ·intro pre u rest s hl hP;have hx:=oK hl;have hlt:=qh hl;have hi1:ε.wrap ((pre.length:Int)+1)=(pre.length:Int)+1:=bp (by unfold aG;omega);have hi2:ε.wrap ((pre.length:Int) -1)=(pre.length:Int) -1:=bp (by unfold aG;omega);have hlt':(pre.length:Int)<(l.length:Int):=by omega
  have hmp:pre.length<=bu:=by unfold bu;omega
  have lV:=mm 4 gT l hx;have Il:=QI r.cY Es u.iK;have ho:=aa6 (·.aH) hl u.aH;obtain⟨vs,f⟩:=s;obtain⟨Ei,Ej,BU,BV⟩:=hP;dsimp only at Ei Ej BU BV ⊢;clear hus h4 h4' hl hx;simp only[aK,reduceCtorEq,nj,nr,nu,nv,nA,nw,nB,tO,tP,tY,tV,tZ,hlq,hlt',lV,Il,oz,oA,oB,oD,oC,oF,gr];cases h1:aI u.aH 1 9999
  ·simp only[aK,reduceCtorEq]
  simp only[aK,reduceCtorEq];rcases ho with⟨y,h0,hy,ho⟩|⟨h0,ho⟩
  case' inl=>
   have h0':(0:Int)<pre.length:=by omega
   have Nu:=F3 4 gT l h0 hy;by_cases hq:u.aH<=y.aH
   ·simp only[aK,reduceCtorEq,nj,nr,nu,nv,nA,nw,nB,tO,tP,tY,tV,tZ,hlq,h0',hi2,Nu,ho,hq]
   simp only[aK,reduceCtorEq,nj,nr,nu,nv,nA,nw,nB,tO,tP,tY,tV,tZ,hlq,h0',hi2,Nu,ho,hq]
  case' inr=>
   have h0':¬(0:Int)<pre.length:=by omega
   simp only[aK,reduceCtorEq,h0',ho]
  all_goals
   try simp only[aK,reduceCtorEq,nj,nr,nu,nv,nA,nw,nB,tO,tP,tY,tV,tZ,hlq,Il]
   cases hp:(gW u.iK r.cY).2
   ·simp only[aK,reduceCtorEq,oz,oA,oB,oD,oC,oF]
   have hsz:=TG _ (Lh _ _ hp);try simp only[aK,reduceCtorEq,nj,nr,nu,nv,nA,nw,nB,oz,oA,oB,oD,oC,oF,gr]
   cases hu:aI u.univ 1 64
   ·simp only[aK,reduceCtorEq]
   cases ha:aI u.address 1 512
   ·simp only[aK,reduceCtorEq,nj,nr,nu,nv,nA,nw,nB,gr,ha]
   have ha':1<=u.address/\u.address<=512:=by simpa [aI]using ha
   have hw1:ε.wrap (u.address+(gW u.iK r.cY).1.size)=u.address+(gW u.iK r.cY).1.size:=bp (by unfold aG;omega);have Wr:ε.wrap (u.address+(gW u.iK r.cY).1.size-1)=mI r.cY u:=bp (by unfold aG;omega);have hlu:mI r.cY u=u.address+(gW u.iK r.cY).1.size-1:=rfl;by_cases h5:512<mI r.cY u
   ·simp only[aK,reduceCtorEq,nj,nr,nu,nv,nA,nw,nB,oz,oA,oB,oD,oC,oF,gr,ha,hw1,Wr,h5]
   obtain⟨a,Ol⟩:∃a:Nat,u.address=a:=⟨u.address.toNat,by omega⟩
   obtain⟨n,hne⟩:∃n:Nat,(gW u.iK r.cY).1.size=n:=⟨(gW u.iK r.cY).1.size.toNat,by omega⟩
   have Iq:=aaT Ej Ei u a n Ol (by omega) (by omega) (by omega)
   have hfree:Ar [if u.univ∈vs then .op (σ.length+1+vs.idxOf u.univ) 0 else .np,.ah (a:Int),.ah (n:Int)] (fO σ vs f)=δ (.bool (!Bl r.cY u pre),fO σ vs f):=by
    by_cases hm:u.univ∈vs
    ·rw[aE hm,aes (f u.univ) a n (by omega) (Tl σ f hm),Iq]
    ·rw[aD hm,aer a n (by unfold aG;omega) (by unfold aG;omega),<-Iq];have e:qX (f u.univ) n a=θ:=(Lu _ _ _).2 λk h1 h2=>⟨by omega,BV _ hm k⟩
     rw[e,show decide ((a:Int)+n-1<=512)=θ from qo (by omega)]
   have wC:=afc σ BU f u a n Ol (by omega) (BV u.univ);simp only[aK,reduceCtorEq,nj,nr,nu,nv,nA,nw,nB,oz,oA,oB,oD,oC,oF,gr,ha,hw1,Wr,h5,adV];rw[Ol,hne];simp only[aK,reduceCtorEq,hfree];cases hc:Bl r.cY u pre
   ·simp only[aK,reduceCtorEq,nj,nr,nu,nv,nA,nw,nB,oz,oA,oB,oD,oC,oF,hne,wC,hi1,Xk]
   ·simp only[aK,reduceCtorEq]
 ·intro s _;exact A7 _ _ _
 ·intro pre u rest s s' hl hP hb;obtain⟨vs,f⟩:=s;obtain⟨Ei,Ej,BU,BV⟩:=hP;dsimp only at Ei Ej BU BV hb;split at hb
  ·cases hb
  split at hb
  ·cases hb
  split at hb
  ·cases hb
  rename_i hp;split at hb
  ·cases hb
  rename_i hw;split at hb
  ·cases hb
  injection hb with hb
  subst hb;simp only[not_or,YX,aI,dr,decide_eq_true_eq]at hw hp;have hsz:=TG _ (Lh _ _ (by simpa using hp));have hlu:mI r.cY u=u.address+(gW u.iK r.cY).1.size-1:=rfl;refine⟨Ei.snoc ⟨hw.2.1.1,by omega,by omega⟩,Ej.snoc u u.address.toNat _ (by omega) (by omega),?_,?_⟩
  ·dsimp only;split
   ·exact BU
   ·rename_i hm;rw[List.nodup_append];exact⟨BU,by simp,λx hx y hy e=>hm (by simp at hy;rw[<-hy,<-e];exact hx)⟩
  ·intro v hv k;dsimp only at hv ⊢
   have h1:v≠u.univ/\v∉vs:=by
    split at hv
    ·rename_i hm;exact⟨λe=>hv (e▸hm),hv⟩
    ·simp only[gV,alT,not_or]at hv;exact⟨hv.2,hv.1⟩
   unfold kX;rw[aD (λq=>h1.1 q.1)];exact BV v h1.2 k
 ·intro s _;simp only[aK,reduceCtorEq,SM]
 ·intros;simp only[aK,reduceCtorEq,SM]
 ·refine(QL (qx:=BG r.cY) ?_ ?_ (λn=>δ (η n,σ)) l [] _).trans ?_
  ·intro pre;rfl
  ·intro pre x rest s;rw[BG];simp only[Bn,xu,xx]
  ·rfl
def oH(fM:List dI)(u:fT):List bP:=(gW u.iK fM).1.params.map λx=>⟨u.aH,x.name⟩
def oL(r:fA):List bP:=r.iU.flatMap (oH r.cY)
theorem ai8{p:dI}(h:pg p=0):p.params.length<=40:=by
 unfold pg at h
 repeat' split at h
 all_goals first|(simp at h;done)|omega
theorem Qv:∀(l pre:List dI),xK pre l=0->∀p∈l,pg p=0
 |[],pre,h,p,hp=>by simp at hp
 |q::rest,pre,h,p,hp=>by
  rw[xK]at h;by_cases e:pg q=0
  ·rw[aE e]at h;by_cases e2:ia q.name (pre.map (·.name))=θ
   ·rw[aE e2]at h;simp at h
   ·rw[aD e2]at h;simp only[eG]at hp;rcases hp with rfl|hp
    ·exact e
    ·exact Qv rest _ h p hp
  ·rw[aD e]at h;exact absurd h e
theorem adJ{r:fA}(h:iQ r=0):uA r.cY=0:=by
 unfold iQ at h;split at h
 ·assumption
 ·rename_i h2;exact absurd h h2
theorem aaZ{l:List dI}(h:uA l=0):∀p∈l,pg p=0:=by
 unfold uA at h;by_cases e:60<l.length
 ·rw[aE e]at h;simp at h
 ·rw[aD e]at h;exact Qv l [] h
theorem QH{r:fA}(h:iQ r=0)(nm:ByteArray):(gW nm r.cY).1.params.length<=40:=by
 rw[KW];cases hf:r.cY.find? (λx:dI=>decide (x.name=nm))with
 |none=>exact ur _
 |some p=>exact ai8 (aaZ (adJ h) p (BE hf))
theorem KI{r:fA}(h:iQ r=0):∀(l:List fT),(l.flatMap (oH r.cY)).length<=l.length*40
 |[]=>by simp
 |u::l=>by
  have h1:=QH h u.iK;have h2:=KI h l;rw[List.flatMap_cons,W0,l8,Nat.succ_mul];have h3:(oH r.cY u).length=(gW u.iK r.cY).1.params.length:=by simp [oH]
  omega
theorem afJ(l:List bP)(n:Int):Ya (.t [(.s 2),.k]) (.az [if l=[]then .bA else sl 2 ct l,.ah n])=.az [sl 2 ct l,.ah n]:=by show p7 [Ya (.s 2) (if l=[]then .bA else sl 2 ct l),.ah n]=_;rw[afL]
theorem QK{r:fA}(h:iQ r=0):r.iU.length<=400:=by
 unfold iQ at h;split at h
 ·split at h
  ·cases h
  ·omega
 ·rename_i h2;exact absurd h h2
theorem SB(r:fA)(hok:xC r)(σ:Heap):FF [.agg (hJ r)] σ=δ (.az [sl 2 ct (if iQ r=0 then oL r else[]),.ah (iQ r)],σ):=by
 by_cases hf:iQ r=0
 ·refine wrap_eq rfl (v:=.az [if oL r=[]then .bA else sl 2 ct (oL r),.ah 0]) ?_ (by rw[aE hf,hf];exact afJ _ _);show Co (.agg (hJ r)) σ=_;unfold Co;have hu:=QK hf;have Nw:=hok.1.2;simp only[aK,reduceCtorEq,tO,tP,tY,tV,tZ,KJ r hok,hf]
  refine(oG (S:=Unit) (R:=Unit) r.iU (λpre u _=>(Rd.go ():Rd Unit Unit))
   (λpre _=>[.lbx (hJ r),rq σ.length 2 (pre.flatMap (oH r.cY)),.ah (pre.length:Int)]) (λpre _=>σ++oR 2 ct (pre.flatMap (oH r.cY)))
   (λ_=>(.exit 0,[.lbx (hJ r),rq σ.length 2 (oL r),.ah (r.iU.length:Int)],σ++oR 2 ct (oL r))) (λpre _ _=>(.ret,[],σ))
   (λ_ _=>True) () (λ_=>δ (p7 [if oL r=[]then .bA else sl 2 ct (oL r),.ah 0],σ)) (λ_=>μ) ?_ ?_ trivial (λ_ _ _ _ _ _ _ _=>trivial) ?_ ?_ (eA:=by simp [adB])).trans (Hl _ _ _ _)
  ·intro pre u rest s hl _;have hx:=oK hl;have hlt:=qh hl;have hi1:ε.wrap ((pre.length:Int)+1)=(pre.length:Int)+1:=bp (by unfold aG;omega);have hlt':(pre.length:Int)<(r.iU.length:Int):=by omega
   have lV:=mm 4 gT r.iU hx;have Il:=QI r.cY hok.1.1 u.iK;have hps:=QH hf u.iK;have hkl:=KI hf pre;have hsn:(pre++[u]).flatMap (oH r.cY)=pre.flatMap (oH r.cY)++oH r.cY u:=by simp
   have aiq:pre.length<=399:=by omega
   generalize hK:pre.flatMap (oH r.cY)=K at *
   generalize hq:(gW u.iK r.cY).1=p at *
   simp only[aK,reduceCtorEq,nj,nr,nu,nv,nA,nw,nB,tO,tP,tY,tV,tZ,hlt',lV,Il,hq,oz,oA,oB,oD,oC,oF]
   refine(oG (S:=Unit) (R:=Unit) p.params (λpre u _=>(Rd.go ():Rd Unit Unit))
    (λtv _=>[.lbx (hJ r),rq σ.length 2 (K++tv.map λx=>(⟨u.aH,x.name⟩:bP)),.lbx (gT u),.ah (tv.length:Int)]) (λtv _=>σ++oR 2 ct (K++tv.map λx=>(⟨u.aH,x.name⟩:bP)))
    (λ_=>(.exit 2,[.lbx (hJ r),rq σ.length 2 (K++oH r.cY u),.lbx (gT u),.ah (p.params.length:Int)],σ++oR 2 ct (K++oH r.cY u))) (λpre _ _=>(.ret,[],σ))
    (λ_ _=>True) () (λ_=>δ (.normal,[.lbx (hJ r),rq σ.length 2 (K++oH r.cY u),.ah ((pre.length:Int)+1)],σ++oR 2 ct (K++oH r.cY u))) (λ_=>μ) ?_ ?_ trivial (λ_ _ _ _ _ _ _ _=>trivial) ?_ ?_ (hv:=by simp) (eA:=by simp)).trans ((Hl _ _ _ _).trans ?_)
   ·intro tv x rest' s hl' _;have gx:=oK hl';have glt:=qh hl';have V4:ε.wrap ((tv.length:Int)+1)=(tv.length:Int)+1:=bp (by unfold aG;omega);have ag2:(tv.length:Int)<(p.params.length:Int):=by omega
    have gia:=mm 7 jr p.params gx
    have hap:=aa7 (most:=140737488355328 / 24) (sz:=2) ct (K++tv.map λx=>(⟨u.aH,x.name⟩:bP)) ⟨u.aH,x.name⟩ σ (by
     rw[W0,Yo]
     omega)
    have ahm:(K++(tv++[x]).map λx=>(⟨u.aH,x.name⟩:bP))=(K++tv.map λx=>(⟨u.aH,x.name⟩:bP))++[⟨u.aH,x.name⟩]:=by simp
    clear hl gx glt hx hlt hkl hl';rw[ahm];have hch:U.sl 2 (lI 2 1 [η u.aH,Γ x.name])=.sl 2 [ct ⟨u.aH,x.name⟩]:=rfl;simp only[aK,reduceCtorEq,KP,KQ,KR,KS,KT,KU,KV,Lz,Lo,LC,nj,nr,nu,nv,nA,nw,nB,ag2,gia,V4];show(Z9 2 _ _ (U.sl 2 [ct ⟨u.aH,x.name⟩]) _).bind _=_;rw[hap];simp only[aK,reduceCtorEq,V4]
   ·intro s _;refine(A7 _ _ _).trans ?_;subst hq;rfl
   ·intro s _;simp only[aK,reduceCtorEq,hi1]
   ·intros;rename_i hb;cases hb
   ·rw[hsn]
  ·intro s _;exact A7 _ _ _
  ·intro s _;simp only[aK,reduceCtorEq,adb SS]
  ·intros;rename_i hb;cases hb
 ·refine wrap_eq rfl (v:=.az [.bA,.ah (iQ r)]) ?_ (by rw[aD hf];rfl);show Co (.agg (hJ r)) σ=_;unfold Co;simp only[aK,reduceCtorEq,tO,tP,tY,tV,tZ,KJ r hok,hf]
theorem Ql(n:Int)(σ:Heap):FH [.ah n] σ=δ (.bool (aI n 0 65535),σ):=by refine wrap_eq rfl ?_ rfl;show JV (.ah n) σ=_;unfold JV;simp only[aK,reduceCtorEq,gr]
def ud(s:ByteArray):Bool:=if s=⟨#[]⟩then θ else Bv s
theorem acV(s:ByteArray)(hs:fN s)(σ:Heap):Kl [.str s] σ=δ (.bool (ud s),σ):=by
 refine wrap_eq rfl ?_ rfl;show Kv (.str s) σ=_;unfold Kv ud;by_cases h:s=⟨#[]⟩
 ·simp only[aK,reduceCtorEq,h]
 ·simp only[aK,reduceCtorEq,h,RM s hs]
def T5:iL:=⟨⟨#[]⟩,0,0,0,0,ξ,[]⟩
def MF(p:dI)(nm:ByteArray):iL×Bool:=(p.params.find? λx=>decide (x.name=nm)).elim (T5,ξ) λx=>(x,θ)
def Te(r:fA)(k:bP):iL×Bool:=(r.iU.find? λu=>decide (u.aH=k.unit)).elim (T5,ξ) λu=>MF (gW u.iK r.cY).1 k.param
end
end Go.Proofs.YtpcafbmnjchmcaaGreatDoor
