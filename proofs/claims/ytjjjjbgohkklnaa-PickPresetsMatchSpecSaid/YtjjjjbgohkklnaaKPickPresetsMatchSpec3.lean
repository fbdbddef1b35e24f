/- Parts of the proof of PickPresetsMatchSpec, in order. -/
import Derived.Orders
import Derived.Below
import Derived.WalkKit
import Derived.Laws.StructEq
import Derived.Laws.Append
import Derived.Laws.AppendOwn
import Derived.Test.YtjjjjbgohkklnaaRows
import Derived.KernelRfl
import Derived.Lib.Bytealg
import Derived.Sort.Defs
import Derived.Lib.BitFns
import Derived.Test.YtjjjjbgohkklnaaShelf
import Derived.Lib.Overlaps
import Derived.IntWalk
import Derived.Lib.Strings
import Derived.Sort.Statements
import Derived.Test.YtjjjjbgohkklnaaKPickPresetsMatchSpec2
namespace Go.Proofs.Ytjjjjbgohkklnaa
set_option linter.unusedVariables false
set_option linter.unusedSimpArgs false
set_option linter.unusedSectionVars false
section
set_option maxRecDepth 100000
noncomputable def Hh (a0:AV) (σ:Heap):aB:=(A.cells 7 a0).bind λc1=>(A.ay 3 c1).bind λx2=>(A.eql .i x2 (AV.aj 0)).bind λx3=>A.cond x3 ((A.ay 2 c1).bind λx4=>((((A.cell x4).bind λv=>some [v]).bind λc5=>(A.aH 0 c5 [(AV.aj 0)]).bind λc6=>some c6).bind λcs=>some (AV.sl 1 (dK 1 1 cs))).bind λx7=>A.fin σ x7 σ) ((A.ay 2 c1).bind λx8=>(A.ay 3 c1).bind λx9=>((((A.cell x8).bind λv=>some [v]).bind λi6=>(A.aH 0 i6 [(AV.aj 0),(AV.aj 0)]).bind λgd=>((A.cell x9).bind λv=>some [v]).bind λdD=>(A.aH 1 dD gd).bind λkU=>some kU).bind λcs=>some (AV.sl 1 (dK 1 2 cs))).bind λbG=>A.fin σ bG σ)
noncomputable def DX:aq→Heap→aB:=A.wrap true [(.a pG)] (.s 1) (A.eP Hh)
noncomputable def Gg (a0 a1 a2:AV) (σ:Heap):aB:=(A.cells 7 a0).bind λc1=>(A.ay 0 c1).bind λx2=>(Bf [x2] σ).bind λr3=>(A.not r3.1).bind λx4=>A.cond x4 (A.fin σ (AV.aj 5) r3.2) ((A.aY a1).bind λx5=>(A.loop (λv6 s7=>(A.lss (ah v6 2) x5).bind λx9=>A.cond x9 ((A.aK 7 a1 (ah v6 2)).bind λaS=>((A.deref aS s7).bind λgd=>A.aA 0 7 gd).bind λbD=>(A.cells 7 bD).bind λkU=>(A.aH 0 kU [aR,(AV.aj 0),(AV.aj 0),(AV.aj 0),(AV.aj 0),aU,AV.au]).bind λgf=>(A.ay 0 gf).bind λaW=>((A.lb (ah v6 0)).bind λ_=>some (0)).bind λKe=>((A.lb (ah v6 0)).bind λiz=>A.ay Ke iz).bind λbz=>(A.eql .z aW bz).bind λbY=>A.cond bY (some (AX.ret,[(ah v6 0),(AV.aj 6),(ah v6 2)],s7)) ((A.add (ah v6 2) (AV.aj 1)).bind λbZ=>some (AX.normal,[(ah v6 0),(ah v6 1),bZ],s7))) (some (AX.exit 0,[(ah v6 0),(ah v6 1),(ah v6 2)],s7))) [(AV.lbx c1),(AV.aj 0),(AV.aj 0)] r3.2).bind λdR=>bif dR.1==AX.exit 0 then(((A.lb (ah dR.2.1 0)).bind λ_=>some (1)).bind λvk=>((A.lb (ah dR.2.1 0)).bind λeW=>A.ay vk eW).bind λcr=>(qd [cr,(AV.aj 1),(AV.aj 4)] dR.2.2).bind λpW=>(A.not pW.1).bind λcH=>A.cond cH (A.fin σ (AV.aj 4) pW.2) (((A.lb (ah dR.2.1 0)).bind λ_=>some (2)).bind λp27=>((A.lb (ah dR.2.1 0)).bind λjF=>A.ay p27 jF).bind λcZ=>(qd [cZ,(AV.aj 1),a2] pW.2).bind λlT=>(A.not lT.1).bind λeo=>((A.lb (ah dR.2.1 0)).bind λ_=>some (3)).bind λp32=>(A.guard eo false ((A.lb (ah dR.2.1 0)).bind λyt=>A.ay p32 yt) an).bind λgn=>(A.guard eo false (some a2) an).bind λiD=>(A.guard eo false (A.quiet (qd [gn,(AV.aj 0),iD] lT.2) lT.2) an).bind λfV=>(A.guard eo false (A.not fV) an).bind λkY=>(A.pick eo cY kY).bind λdU=>((A.lb (ah dR.2.1 0)).bind λ_=>some (4)).bind λp39=>(A.guard dU false ((A.lb (ah dR.2.1 0)).bind λrI=>A.ay p39 rI) an).bind λfK=>(A.guard dU false (A.quiet (tY [fK] lT.2) lT.2) an).bind λnT=>(A.guard dU false (A.not nT) an).bind λnU=>(A.pick dU cY nU).bind λkZ=>A.cond kZ (A.fin σ (AV.aj 1) lT.2) (((A.lb (ah dR.2.1 0)).bind λ_=>some (2)).bind λp45=>((A.lb (ah dR.2.1 0)).bind λrJ=>A.ay p45 rJ).bind λiE=>((A.lb (ah dR.2.1 0)).bind λ_=>some (3)).bind λp48=>((A.lb (ah dR.2.1 0)).bind λyw=>A.ay p48 yw).bind λdJ=>(A.eql .i iE dJ).bind λdV=>A.cond dV (A.fin σ (AV.aj 12) lT.2) ((A.aY a1).bind λfE=>(A.loop (λv53 Kq=>(A.lss (ah v53 2) fE).bind λiG=>A.cond iG ((A.aK 7 a1 (ah v53 2)).bind λnV=>((A.deref nV Kq).bind λQA=>A.aA 0 7 QA).bind λiV=>(A.cells 7 iV).bind λyy=>(A.aH 0 yy [aR,(AV.aj 0),(AV.aj 0),(AV.aj 0),(AV.aj 0),aU,AV.au]).bind λyz=>((A.lb (ah v53 0)).bind λyA=>A.aA 0 7 yA).bind λdG=>(DX [dG] Kq).bind λr64=>(A.aY r64.1).bind λvA=>(A.loop (λoR Kr=>(A.lss (ah oR 3) vA).bind λnZ=>A.cond nZ ((A.aK 1 r64.1 (ah oR 3)).bind λrY=>((A.deref rY Kr).bind λmu=>A.ay 0 mu).bind λn4=>((A.lb (ah oR 2)).bind λyB=>A.aA 0 7 yB).bind λsj=>(DX [sj] Kr).bind λRx=>(DB [Rx.1,n4] Rx.2).bind λvo=>A.cond vo.1 (some (AX.ret,[(ah oR 0),(AV.aj 12),(ah oR 2),(ah oR 3)],vo.2)) ((A.add (ah oR 3) (AV.aj 1)).bind λgQ=>some (AX.normal,[(ah oR 0),(ah oR 1),(ah oR 2),gQ],vo.2))) (some (AX.exit 5,[(ah oR 0),(ah oR 1),(ah oR 2),(ah oR 3)],Kr))) [(ah v53 0),(ah v53 1),(AV.lbx yz),(AV.aj 0)] r64.2).bind λfX=>bif fX.1==AX.exit 5 then((A.add (ah v53 2) (AV.aj 1)).bind λmI=>some (AX.normal,[(ah fX.2.1 0),(ah fX.2.1 1),mI],fX.2.2))else bif fX.1==AX.ret then(some (AX.ret,[(ah fX.2.1 0),(ah fX.2.1 1),(ah v53 2)],fX.2.2))else none) (some (AX.exit 3,[(ah v53 0),(ah v53 1),(ah v53 2)],Kq))) [(ah dR.2.1 0),(ah dR.2.1 1),(AV.aj 0)] lT.2).bind λgH=>bif gH.1==AX.exit 3 then(((A.lb (ah gH.2.1 0)).bind λ_=>some (6)).bind λp81=>((A.lb (ah gH.2.1 0)).bind λyE=>A.ay p81 yE).bind λmJ=>(A.aY mJ).bind λku=>(A.gtr ku (AV.aj 30)).bind λso=>A.cond so (A.fin σ (AV.aj 2) gH.2.2) (((A.lb (ah gH.2.1 0)).bind λ_=>some (6)).bind λp86=>((A.lb (ah gH.2.1 0)).bind λCG=>A.ay p86 CG).bind λqN=>(A.aY qN).bind λlf=>(A.loop (λjo Ks=>(A.lss (ah jo 2) lf).bind λvC=>A.cond vC ((A.aK 3 qN (ah jo 2)).bind λyY=>((A.deref yY Ks).bind λrK=>A.aA 0 3 rK).bind λpZ=>(A.cells 3 pZ).bind λc97=>(A.aH 0 c97 [(AV.aj 0),(AV.aj 0),aR]).bind λyF=>(A.ay 0 yF).bind λvD=>(tY [vD] Ks).bind λxW=>(A.not xW.1).bind λgP=>(A.guard gP false (A.ay 1 yF) an).bind λrC=>(A.guard gP false (A.quiet (tY [rC] xW.2) xW.2) an).bind λtE=>(A.guard gP false (A.not tE) an).bind λyh=>(A.pick gP cY yh).bind λtF=>(A.guard tF false (A.ay 0 yF) an).bind λuO=>(A.guard tF false (A.ay 1 yF) an).bind λuP=>(A.guard tF false (A.gtr uO uP) an).bind λpE=>(A.pick tF cY pE).bind λuQ=>A.cond uQ (some (AX.ret,[(ah jo 0),(AV.aj 1),(ah jo 2)],xW.2)) ((A.gtr (ah jo 2) (AV.aj 0)).bind λmj=>(A.guard mj true (A.ay 0 yF) an).bind λqA=>((A.lb (ah jo 0)).bind λ_=>some (6)).bind λZR=>(A.guard mj true ((A.lb (ah jo 0)).bind λxM=>A.ay ZR xM) an).bind λCm=>(A.guard mj true (some (ah jo 2)) an).bind λmm=>(A.guard mj true (A.sub mm (AV.aj 1)) an).bind λAs=>(A.guard mj true (A.aK 3 Cm As) an).bind λJx=>(A.guard mj true (A.eG 1 Jx) an).bind λuS=>(A.guard mj true ((A.deref uS xW.2).bind λZj=>A.ay 0 Zj) an).bind λuT=>(A.guard mj true (A.leq qA uT) an).bind λZ4=>(A.pick mj Z4 aU).bind λCn=>A.cond Cn (some (AX.ret,[(ah jo 0),(AV.aj 7),(ah jo 2)],xW.2)) ((A.ay 2 yF).bind λAu=>(Bf [Au] xW.2).bind λwC=>(A.not wC.1).bind λyj=>A.cond yj (some (AX.ret,[(ah jo 0),(AV.aj 5),(ah jo 2)],wC.2)) (((A.lb (ah jo 0)).bind λ_=>some (6)).bind λZS=>((A.lb (ah jo 0)).bind λB9=>A.ay ZS B9).bind λCo=>(A.bl 3 Co none (some (ah jo 2)) wC.2).bind λQq=>(A.aY Qq).bind λAv=>(A.loop (λv131 Fm=>(A.lss (ah v131 3) Av).bind λwE=>A.cond wE ((A.aK 3 Qq (ah v131 3)).bind λCp=>((A.deref Cp Fm).bind λZk=>A.aA 0 3 Zk).bind λCq=>(A.cells 3 Cq).bind λZl=>(A.aH 0 Zl [(AV.aj 0),(AV.aj 0),aR]).bind λZm=>(A.ay 2 Zm).bind λZ9=>((A.lb (ah v131 2)).bind λ_=>some (2)).bind λZU=>((A.lb (ah v131 2)).bind λZn=>A.ay ZU Zn).bind λaaa=>(A.eql .z Z9 aaa).bind λaab=>A.cond aab (some (AX.ret,[(ah v131 0),(AV.aj 6),(ah v131 2),(ah v131 3)],Fm)) ((A.add (ah v131 3) (AV.aj 1)).bind λaac=>some (AX.normal,[(ah v131 0),(ah v131 1),(ah v131 2),aac],Fm))) (some (AX.exit 10,[(ah v131 0),(ah v131 1),(ah v131 2),(ah v131 3)],Fm))) [(ah jo 0),(ah jo 1),(AV.lbx yF),(AV.aj 0)] wC.2).bind λwD=>bif wD.1==AX.exit 10 then((A.add (ah jo 2) (AV.aj 1)).bind λaad=>some (AX.normal,[(ah wD.2.1 0),(ah wD.2.1 1),aad],wD.2.2))else bif wD.1==AX.ret then(some (AX.ret,[(ah wD.2.1 0),(ah wD.2.1 1),(ah jo 2)],wD.2.2))else none)))) (some (AX.exit 7,[(ah jo 0),(ah jo 1),(ah jo 2)],Ks))) [(ah gH.2.1 0),(ah gH.2.1 1),(AV.aj 0)] gH.2.2).bind λCj=>bif Cj.1==AX.exit 7 then(A.fin σ (AV.aj 0) Cj.2.2)else bif Cj.1==AX.ret then(A.fin σ (ah Cj.2.1 1) Cj.2.2)else none))else bif gH.1==AX.ret then(A.fin σ (ah gH.2.1 1) gH.2.2)else none))))else bif dR.1==AX.ret then(A.fin σ (ah dR.2.1 1) dR.2.2)else none)
noncomputable def Gf:aq→Heap→aB:=A.wrap true [(.a pG),(.s 7)] .k (A.ke Gg)
noncomputable def Gb (a0:AV) (σ:Heap):aB:=(A.cells 3 a0).bind λc1=>(A.ay 0 c1).bind λx2=>(Bf [x2] σ).bind λr3=>(A.not r3.1).bind λx4=>A.cond x4 (A.fin σ (AV.aj 5) r3.2) ((A.ay 1 c1).bind λx5=>(qd [x5,(AV.aj 1),(AV.aj 512)] r3.2).bind λr6=>(A.not r6.1).bind λx7=>A.cond x7 (A.fin σ (AV.aj 1) r6.2) ((A.ay 2 c1).bind λx8=>(A.aY x8).bind λx9=>(A.eql .i x9 (AV.aj 0)).bind λaS=>A.cond aS (A.fin σ (AV.aj 8) r6.2) ((A.ay 2 c1).bind λbI=>(A.aY bI).bind λbD=>(A.gtr bD (AV.aj 40)).bind λbw=>A.cond bw (A.fin σ (AV.aj 2) r6.2) ((A.ay 2 c1).bind λbG=>(A.aY bG).bind λaW=>(A.loop (λdZ rX=>(A.lss (ah dZ 2) aW).bind λbY=>A.cond bY ((A.aK 7 bG (ah dZ 2)).bind λbZ=>((A.deref bZ rX).bind λmo=>A.aA 0 7 mo).bind λbO=>(A.cells 7 bO).bind λeW=>(A.aH 0 eW [aR,(AV.aj 0),(AV.aj 0),(AV.aj 0),(AV.aj 0),aU,AV.au]).bind λeI=>(A.aA 0 7 eI).bind λck=>((A.lb (ah dZ 0)).bind λ_=>some (2)).bind λp26=>((A.lb (ah dZ 0)).bind λtH=>A.ay p26 tH).bind λef=>(A.bl 7 ef none (some (ah dZ 2)) rX).bind λcZ=>((A.lb (ah dZ 0)).bind λ_=>some (1)).bind λp30=>((A.lb (ah dZ 0)).bind λlP=>A.ay p30 lP).bind λcK=>(A.quiet (Gf [ck,cZ,cK] rX) rX).bind λeJ=>(A.neq .i eJ (AV.aj 0)).bind λgn=>A.cond gn (some (AX.ret,[(ah dZ 0),eJ,(ah dZ 2)],rX)) ((A.add (ah dZ 2) (AV.aj 1)).bind λiD=>some (AX.normal,[(ah dZ 0),(ah dZ 1),iD],rX))) (some (AX.exit 1,[(ah dZ 0),(ah dZ 1),(ah dZ 2)],rX))) [(AV.lbx c1),(AV.aj 0),(AV.aj 0)] r6.2).bind λnQ=>bif nQ.1==AX.exit 1 then(A.fin σ (AV.aj 0) nQ.2.2)else bif nQ.1==AX.ret then(A.fin σ (ah nQ.2.1 1) nQ.2.2)else none))))
noncomputable def F9:aq→Heap→aB:=A.wrap true [(.a [.k,.k,(.s 7)])] .k (A.eP Gb)
noncomputable def Ga (a0:AV) (σ:Heap):aB:=(A.aY a0).bind λx1=>(A.gtr x1 (AV.aj 60)).bind λx2=>A.cond x2 (A.fin σ (AV.aj 2) σ) ((A.aY a0).bind λx3=>(A.loop (λv4 s5=>(A.lss (ah v4 1) x3).bind λx7=>A.cond x7 ((A.aK 3 a0 (ah v4 1)).bind λx8=>((A.deref x8 s5).bind λc9=>A.aA 0 3 c9).bind λaS=>(A.cells 3 aS).bind λgd=>(A.aH 0 gd [aR,(AV.aj 0),AV.au]).bind λdD=>(A.aA 0 3 dD).bind λbw=>(F9 [bw] s5).bind λia=>(A.neq .i ia.1 (AV.aj 0)).bind λaW=>A.cond aW (some (AX.ret,[ia.1,(ah v4 1)],ia.2)) ((A.bl 3 a0 none (some (ah v4 1)) ia.2).bind λbE=>(A.aY bE).bind λbJ=>(A.loop (λgI qJ=>(A.lss (ah gI 2) bJ).bind λaT=>A.cond aT ((A.aK 3 bE (ah gI 2)).bind λbO=>((A.deref bO qJ).bind λeW=>A.aA 0 3 eW).bind λcr=>(A.cells 3 cr).bind λlO=>(A.aH 0 lO [aR,(AV.aj 0),AV.au]).bind λpK=>(A.ay 0 pK).bind λcQ=>((A.lb (ah gI 1)).bind λ_=>some (0)).bind λp28=>((A.lb (ah gI 1)).bind λpL=>A.ay p28 pL).bind λcA=>(A.eql .z cQ cA).bind λeo=>A.cond eo (some (AX.ret,[(AV.aj 6),(ah gI 1),(ah gI 2)],qJ)) ((A.add (ah gI 2) (AV.aj 1)).bind λcK=>some (AX.normal,[(ah gI 0),(ah gI 1),cK],qJ))) (some (AX.exit 2,[(ah gI 0),(ah gI 1),(ah gI 2)],qJ))) [(ah v4 0),(AV.lbx dD),(AV.aj 0)] ia.2).bind λkX=>bif kX.1==AX.exit 2 then((A.add (ah v4 1) (AV.aj 1)).bind λgn=>some (AX.normal,[(ah kX.2.1 0),gn],kX.2.2))else bif kX.1==AX.ret then(some (AX.ret,[(ah kX.2.1 0),(ah v4 1)],kX.2.2))else none)) (some (AX.exit 0,[(ah v4 0),(ah v4 1)],s5))) [(AV.aj 0),(AV.aj 0)] σ).bind λrS=>bif rS.1==AX.exit 0 then(A.fin σ (AV.aj 0) rS.2.2)else bif rS.1==AX.ret then(A.fin σ (ah rS.2.1 0) rS.2.2)else none)
noncomputable def F8:aq→Heap→aB:=A.wrap true [(.s 3)] .k (A.eP Ga)
noncomputable def GF (a0 a1:AV) (σ:Heap):aB:=(A.aY a0).bind λx1=>(A.loop (λv2 s3=>(A.lss (ah v2 2) x1).bind λx5=>A.cond x5 ((A.aK 3 a0 (ah v2 2)).bind λx6=>((A.deref x6 s3).bind λc7=>A.aA 0 3 c7).bind λx8=>(A.cells 3 x8).bind λc9=>(A.aH 0 c9 [aR,(AV.aj 0),AV.au]).bind λi6=>(A.ay 0 i6).bind λbI=>(A.eql .z bI a1).bind λbD=>A.cond bD ((A.aA 0 3 i6).bind λbw=>(A.lb (ah v2 0)).bind λjE=>(A.cells 3 bw).bind λgf=>(A.aH 0 gf jE).bind λeU=>some (AX.ret,[(AV.lbx eU),cY,(ah v2 2)],s3)) ((A.add (ah v2 2) (AV.aj 1)).bind λbJ=>some (AX.normal,[(ah v2 0),(ah v2 1),bJ],s3))) (some (AX.exit 0,[(ah v2 0),(ah v2 1),(ah v2 2)],s3))) [(AV.lbx [aR,(AV.aj 0),AV.au]),aU,(AV.aj 0)] σ).bind λgl=>bif gl.1==AX.exit 0 then((A.lb (ah gl.2.1 0)).bind λmo=>(A.cells 3 (AV.agg [aR,(AV.aj 0),AV.au])).bind λnJ=>(A.aH 0 nJ mo).bind λdN=>(A.aA 0 3 dN).bind λbO=>A.fin σ (AV.aD [bO,aU]) gl.2.2)else bif gl.1==AX.ret then(((A.lb (ah gl.2.1 0)).bind λeI=>A.aA 0 3 eI).bind λcg=>A.fin σ (AV.aD [cg,(ah gl.2.1 1)]) gl.2.2)else none
noncomputable def Bb:aq→Heap→aB:=A.wrap true [(.s 3)] (.t [(.a [.k,.k,(.e 7 pG)]),.k]) (A.dA GF)
noncomputable def Hv (a0 a1:AV) (σ:Heap):aB:=(A.cells 2 a0).bind λc1=>(A.cells 4 a1).bind λc2=>(A.ay 0 c1).bind λx3=>(A.ay 1 c2).bind λx4=>(Bb [x3,x4] σ).bind λr5=>(A.ext 0 r5.1).bind λx6=>(A.ext 1 r5.1).bind λx7=>(A.cells 3 x6).bind λc8=>(A.aH 0 c8 [aR,(AV.aj 0),AV.au]).bind λc9=>(A.ay 3 c2).bind λaS=>(A.ay 1 c9).bind λbI=>(A.add aS bI).bind λbD=>(A.sub bD (AV.aj 1)).bind λbw=>A.fin σ bw r5.2
noncomputable def Bn:aq→Heap→aB:=A.wrap true [lI] .k (A.dA Hv)
noncomputable def Gt (a0:AV) (σ:Heap):aB:=(A.cells 2 a0).bind λc1=>(A.ay 0 c1).bind λx2=>(F8 [x2] σ).bind λr3=>(A.neq .i r3.1 (AV.aj 0)).bind λx4=>A.cond x4 (A.fin σ r3.1 r3.2) ((A.ay 1 c1).bind λx5=>(A.aY x5).bind λx6=>(A.gtr x6 (AV.aj 400)).bind λx7=>A.cond x7 (A.fin σ (AV.aj 2) r3.2) ((A.ay 1 c1).bind λx8=>(A.aY x8).bind λx9=>(A.loop (λv10 yW=>(A.lss (ah v10 2) x9).bind λbw=>A.cond bw ((A.aK 4 x8 (ah v10 2)).bind λbG=>((A.deref bG yW).bind λeU=>A.aA 0 4 eU).bind λbE=>(A.cells 4 bE).bind λiz=>(A.aH 0 iz [(AV.aj 0),aR,(AV.aj 0),(AV.aj 0)]).bind λfQ=>((A.lb (ah v10 0)).bind λ_=>some (0)).bind λKf=>((A.lb (ah v10 0)).bind λdN=>A.ay Kf dN).bind λaT=>(A.ay 1 fQ).bind λbO=>(Bb [aT,bO] yW).bind λjJ=>(A.ext 0 jJ.1).bind λcr=>(A.ext 1 jJ.1).bind λck=>(A.cells 3 cr).bind λpK=>(A.aH 0 pK [aR,(AV.aj 0),AV.au]).bind λtH=>(A.ay 0 fQ).bind λef=>(qd [ef,(AV.aj 1),(AV.aj 9999)] jJ.2).bind λnP=>(A.not nP.1).bind λcA=>A.cond cA (some (AX.ret,[(ah v10 0),(AV.aj 1),(ah v10 2)],nP.2)) ((A.gtr (ah v10 2) (AV.aj 0)).bind λeo=>(A.guard eo true (A.ay 0 fQ) an).bind λcK=>((A.lb (ah v10 0)).bind λ_ => some (1)).bind λp33 =>(A.guard eo true ((A.lb (ah v10 0)).bind λmq=>A.ay p33 mq) an).bind λiD=>(A.guard eo true (some (ah v10 2)) an).bind λfV=>(A.guard eo true (A.sub fV (AV.aj 1)) an).bind λkY=>(A.guard eo true (A.aK 4 iD kY) an).bind λdU=>(A.guard eo true (A.eG 0 dU) an).bind λeR=>(A.guard eo true ((A.deref eR nP.2).bind λrI=>A.ay 0 rI) an).bind λfK=>(A.guard eo true (A.leq cK fK) an).bind λnT=>(A.pick eo nT aU).bind λnU=>A.cond nU (some (AX.ret,[(ah v10 0),(AV.aj 7),(ah v10 2)],nP.2)) ((A.not ck).bind λkZ=>A.cond kZ (some (AX.ret,[(ah v10 0),(AV.aj 5),(ah v10 2)],nP.2)) ((A.ay 2 fQ).bind λjq=>(qd [jq,(AV.aj 1),(AV.aj 64)] nP.2).bind λnR=>(A.not nR.1).bind λiE=>(A.guard iE false (A.ay 3 fQ) an).bind λk9=>(A.guard iE false (A.quiet (qd [k9,(AV.aj 1),(AV.aj 512)] nR.2) nR.2) an).bind λgp=>(A.guard iE false (A.not gp) an).bind λdJ=>(A.pick iE cY dJ).bind λdV=>(A.guard dV false ((A.lb (ah v10 0)).bind λyx=>A.aA 0 2 yx) an).bind λmG=>(A.guard dV false (A.aA 0 4 fQ) an).bind λje=>(A.guard dV false (A.quiet (Bn [mG,je] nR.2) nR.2) an).bind λiF=>(A.guard dV false (A.gtr iF (AV.aj 512)) an).bind λiG=>(A.pick dV cY iG).bind λnV=>A.cond nV (some (AX.ret,[(ah v10 0),(AV.aj 1),(ah v10 2)],nR.2)) (((A.lb (ah v10 0)).bind λ_=>some (1)).bind λC3=>((A.lb (ah v10 0)).bind λpO=>A.ay C3 pO).bind λld=>(A.bl 4 ld none (some (ah v10 2)) nR.2).bind λiW=>(A.aY iW).bind λyX=>(A.loop (λkq wW=>(A.lss (ah kq 3) yX).bind λwZ=>A.cond wZ ((A.aK 4 iW (ah kq 3)).bind λqM=>((A.deref qM wW).bind λc68=>A.aA 0 4 c68).bind λnZ=>(A.cells 4 nZ).bind λuW=>(A.aH 0 uW [(AV.aj 0),aR,(AV.aj 0),(AV.aj 0)]).bind λmu=>(A.ay 2 mu).bind λn4=>((A.lb (ah kq 2)).bind λ_=>some (2)).bind λp73=>((A.lb (ah kq 2)).bind λyC=>A.ay p73 yC).bind λsk=>(A.eql .i n4 sk).bind λjr=>(A.guard jr true (A.ay 3 mu) an).bind λgQ=>(A.guard jr true ((A.lb (ah kq 0)).bind λpP=>A.aA 0 2 pP) an).bind λmI=>(A.guard jr true ((A.lb (ah kq 2)).bind λyD=>A.aA 0 4 yD) an).bind λDk=>(A.guard jr true (A.quiet (Bn [mI,Dk] wW) wW) an).bind λkr=>(A.guard jr true (A.leq gQ kr) an).bind λmJ=>(A.pick jr mJ aU).bind λku=>((A.lb (ah kq 2)).bind λ_=>some (3)).bind λp85=>(A.guard ku true ((A.lb (ah kq 2)).bind λCF=>A.ay p85 CF) an).bind λKB=>(A.guard ku true ((A.lb (ah kq 0)).bind λnN=>A.aA 0 2 nN) an).bind λlf=>(A.guard ku true (A.aA 0 4 mu) an).bind λKC=>(A.guard ku true (A.quiet (Bn [lf,KC] wW) wW) an).bind λDl=>(A.guard ku true (A.leq KB Dl) an).bind λsu=>(A.pick ku su aU).bind λvC=>A.cond vC (some (AX.ret,[(ah kq 0),(AV.aj 12),(ah kq 2),(ah kq 3)],wW)) ((A.add (ah kq 3) (AV.aj 1)).bind λyY=>some (AX.normal,[(ah kq 0),(ah kq 1),(ah kq 2),yY],wW))) (some (AX.exit 3,[(ah kq 0),(ah kq 1),(ah kq 2),(ah kq 3)],wW))) [(ah v10 0),(ah v10 1),(AV.lbx fQ),(AV.aj 0)] nR.2).bind λwU=>bif wU.1==AX.exit 3 then((A.add (ah v10 2) (AV.aj 1)).bind λpZ=>some (AX.normal,[(ah wU.2.1 0),(ah wU.2.1 1),pZ],wU.2.2))else bif wU.1==AX.ret then(some (AX.ret,[(ah wU.2.1 0),(ah wU.2.1 1),(ah v10 2)],wU.2.2))else none))))) (some (AX.exit 0,[(ah v10 0),(ah v10 1),(ah v10 2)],yW))) [(AV.lbx c1),(AV.aj 0),(AV.aj 0)] r3.2).bind λwV=>bif wV.1==AX.exit 0 then(A.fin σ (AV.aj 0) wV.2.2)else bif wV.1==AX.ret then(A.fin σ (ah wV.2.1 1) wV.2.2)else none))
noncomputable def Gp:aq→Heap→aB:=A.wrap true [lI] .k (A.eP Gt)
noncomputable def Hw (a0 a1:AV) (σ:Heap):aB:=(A.cells 2 a0).bind λc1=>(A.ay 1 c1).bind λx2=>(A.aY x2).bind λx3=>(A.loop (λv4 s5=>(A.lss (ah v4 1) x3).bind λx7=>A.cond x7 ((A.aK 4 x2 (ah v4 1)).bind λx8=>((A.deref x8 s5).bind λc9=>A.aA 0 4 c9).bind λaS=>(A.cells 4 aS).bind λgd=>(A.aH 0 gd [(AV.aj 0),aR,(AV.aj 0),(AV.aj 0)]).bind λdD=>(A.ay 0 dD).bind λbw=>(A.eql .i bw a1).bind λbG=>A.cond bG (some (AX.ret,[(ah v4 1),(ah v4 1)],s5)) ((A.add (ah v4 1) (AV.aj 1)).bind λaW=>some (AX.normal,[(ah v4 0),aW],s5))) (some (AX.exit 0,[(ah v4 0),(ah v4 1)],s5))) [(AV.aj 0),(AV.aj 0)] σ).bind λwQ=>bif wQ.1==AX.exit 0 then(A.fin σ (AV.aj (-1)) wQ.2.2)else bif wQ.1==AX.ret then(A.fin σ (ah wQ.2.1 0) wQ.2.2)else none
noncomputable def Hr:aq→Heap→aB:=A.wrap true [lI] .k (A.dA Hw)
noncomputable def Hg (a0 a1:AV) (σ:Heap):aB:=(A.cells 3 a0).bind λc1=>(A.ay 2 c1).bind λx2=>(A.aY x2).bind λx3=>(A.loop (λv4 s5=>(A.lss (ah v4 2) x3).bind λx7=>A.cond x7 ((A.aK 7 x2 (ah v4 2)).bind λx8=>((A.deref x8 s5).bind λc9=>A.aA 0 7 c9).bind λaS=>(A.cells 7 aS).bind λgd=>(A.aH 0 gd [aR,(AV.aj 0),(AV.aj 0),(AV.aj 0),(AV.aj 0),aU,AV.au]).bind λdD=>(A.ay 0 dD).bind λbw=>(A.eql .z bw a1).bind λbG=>A.cond bG ((A.aA 0 7 dD).bind λaW=>(A.lb (ah v4 0)).bind λfQ=>(A.cells 7 aW).bind λjE=>(A.aH 0 jE fQ).bind λiz=>some (AX.ret,[(AV.lbx iz),cY,(ah v4 2)],s5)) ((A.add (ah v4 2) (AV.aj 1)).bind λbY=>some (AX.normal,[(ah v4 0),(ah v4 1),bY],s5))) (some (AX.exit 0,[(ah v4 0),(ah v4 1),(ah v4 2)],s5))) [(AV.lbx [aR,(AV.aj 0),(AV.aj 0),(AV.aj 0),(AV.aj 0),aU,AV.au]),aU,(AV.aj 0)] σ).bind λiB=>bif iB.1==AX.exit 0 then((A.lb (ah iB.2.1 0)).bind λeW=>(A.cells 7 (AV.agg [aR,(AV.aj 0),(AV.aj 0),(AV.aj 0),(AV.aj 0),aU,AV.au])).bind λmo=>(A.aH 0 mo eW).bind λpJ=>(A.aA 0 7 pJ).bind λcr=>A.fin σ (AV.aD [cr,aU]) iB.2.2)else bif iB.1==AX.ret then(((A.lb (ah iB.2.1 0)).bind λpK=>A.aA 0 7 pK).bind λck=>A.fin σ (AV.aD [ck,(ah iB.2.1 1)]) iB.2.2)else none
noncomputable def G9:aq→Heap→aB:=A.wrap true [(.a [.k,.k,(.s 7)])] (.t [(.a pG),.k]) (A.dA Hg)
noncomputable def GD (a0 a1:AV) (σ:Heap):aB:=(A.cells 2 a0).bind λc1=>(A.cells 2 a1).bind λc2=>(A.aA 0 2 c1).bind λx3=>(A.ay 0 c2).bind λx4=>(Hr [x3,x4] σ).bind λr5=>(A.lss r5.1 (AV.aj 0)).bind λx6=>A.cond x6 ((A.cells 7 (AV.agg [aR,(AV.aj 0),(AV.aj 0),(AV.aj 0),(AV.aj 0),aU,AV.au])).bind λc7=>(A.aH 0 c7 [aR,(AV.aj 0),(AV.aj 0),(AV.aj 0),(AV.aj 0),aU,AV.au]).bind λc8=>(A.aA 0 7 c8).bind λx9=>A.fin σ (AV.aD [x9,aU]) r5.2) ((A.ay 0 c1).bind λaS=>(A.ay 1 c1).bind λbI=>(A.aK 4 bI r5.1).bind λbD=>(A.eG 1 bD).bind λbw=>((A.deref bw r5.2).bind λgf=>A.ay 0 gf).bind λaW=>(A.quiet (Bb [aS,aW] r5.2) r5.2).bind λbE=>(A.ext 0 bE).bind λbJ=>(A.ext 1 bE).bind λbz=>(A.cells 3 bJ).bind λnJ=>(A.aH 0 nJ [aR,(AV.aj 0),AV.au]).bind λdN=>(A.aA 0 3 dN).bind λaT=>(A.ay 1 c2).bind λbO=>(G9 [aT,bO] r5.2).bind λjJ=>(A.ext 0 jJ.1).bind λcr=>(A.ext 1 jJ.1).bind λck=>(A.cells 7 cr).bind λpK=>(A.aH 0 pK [aR,(AV.aj 0),(AV.aj 0),(AV.aj 0),(AV.aj 0),aU,AV.au]).bind λtH=>(A.aA 0 7 tH).bind λef=>A.fin σ (AV.aD [ef,ck]) jJ.2)
noncomputable def zw:aq→Heap→aB:=A.wrap true [lI] (.t [(.a pG),.k]) (A.dA GD)
end
section
set_option maxRecDepth 100000
noncomputable def GV (a0 a1:AV) (σ:Heap):aB:=(A.cells 2 a0).bind λc1=>(A.cells 2 a1).bind λc2=>(A.ay 0 c1).bind λx3=>(A.ay 0 c2).bind λx4=>(A.lss x3 x4).bind λx5=>(A.guard x5 false (A.ay 0 c1) an).bind λx6=>(A.guard x5 false (A.ay 0 c2) an).bind λx7=>(A.guard x5 false (A.eql .i x6 x7) an).bind λx8=>(A.guard x5 false (some x8) an).bind λx9=>(A.guard x9 true (A.ay 1 c1) an).bind λaS=>(A.guard x9 true (A.ay 1 c2) an).bind λbI=>(A.guard x9 true (A.lss aS bI) an).bind λbD=>(A.guard x5 false (A.pick x9 bD aU) an).bind λbw=>(A.pick x5 cY bw).bind λbG=>A.fin σ bG σ
noncomputable def vG:aq→Heap→aB:=A.wrap true [] .k (A.dA GV)
noncomputable def Gc (a0 a1:AV) (σ:Heap):aB:=(A.cells 2 a0).bind λc1=>(A.aA 0 2 c1).bind λx2=>(Gp [x2] σ).bind λr3=>(A.neq .i r3.1 (AV.aj 0)).bind λx4=>A.cond x4 (A.fin σ r3.1 r3.2) ((A.aY a1).bind λx5=>(A.gtr x5 (AV.aj 200)).bind λx6=>A.cond x6 (A.fin σ (AV.aj 2) r3.2) ((A.aY a1).bind λx7=>(A.loop (λv8 s9=>(A.lss (ah v8 2) x7).bind λbI=>A.cond bI ((A.aK 3 a1 (ah v8 2)).bind λbD=>((A.deref bD s9).bind λkU=>A.aA 0 3 kU).bind λbG=>(A.cells 3 bG).bind λeU=>(A.aH 0 eU [(AV.aj 0),aR,AV.au]).bind λjE=>(A.ay 0 jE).bind λbJ=>(qd [bJ,(AV.aj 1),(AV.aj 999)] s9).bind λgl=>(A.not gl.1).bind λbY=>A.cond bY (some (AX.ret,[(ah v8 0),(AV.aj 1),(ah v8 2)],gl.2)) ((A.gtr (ah v8 2) (AV.aj 0)).bind λbZ=>(A.guard bZ true (A.ay 0 jE) an).bind λaT=>(A.guard bZ true (some a1) an).bind λbO=>(A.guard bZ true (some (ah v8 2)) an).bind λcg=>(A.guard bZ true (A.sub cg (AV.aj 1)) an).bind λcr=>(A.guard bZ true (A.aK 3 bO cr) an).bind λck=>(A.guard bZ true (A.eG 0 ck) an).bind λcH=>(A.guard bZ true ((A.deref cH gl.2).bind λtH=>A.ay 0 tH) an).bind λef=>(A.guard bZ true (A.leq aT ef) an).bind λcZ=>(A.pick bZ cZ aU).bind λcA=>A.cond cA (some (AX.ret,[(ah v8 0),(AV.aj 7),(ah v8 2)],gl.2)) ((A.ay 1 jE).bind λeo=>(A.neq .z eo aR).bind λcK=>(A.guard cK true (A.ay 1 jE) an).bind λeJ=>(A.guard cK true (A.quiet (Ba [eJ] gl.2) gl.2) an).bind λgn=>(A.guard cK true (A.not gn) an).bind λiD=>(A.pick cK iD aU).bind λfV=>A.cond fV (some (AX.ret,[(ah v8 0),(AV.aj 3),(ah v8 2)],gl.2)) ((A.ay 2 jE).bind λkY=>(A.aY kY).bind λdU=>(A.gtr dU (AV.aj 2000)).bind λeR=>A.cond eR (some (AX.ret,[(ah v8 0),(AV.aj 2),(ah v8 2)],gl.2)) ((A.ay 2 jE).bind λjL=>(A.aY jL).bind λfK=>(A.loop (λiU Kp=>(A.lss (ah iU 3) fK).bind λjq=>A.cond jq ((A.aK 3 jL (ah iU 3)).bind λqL=>((A.deref qL Kp).bind λCw=>A.aA 0 3 Cw).bind λk9=>(A.cells 3 k9).bind λyw=>(A.aH 0 yw [(AV.aj 0),aR,(AV.aj 0)]).bind λpN=>((A.lb (ah iU 0)).bind λCy=>A.aA 0 2 Cy).bind λfE=>(A.aA 0 2 pN).bind λmG=>(zw [fE,mG] Kp).bind λoL=>(A.ext 0 oL.1).bind λiF=>(A.ext 1 oL.1).bind λiG=>(A.cells 7 iF).bind λkV=>(A.aH 0 kV [aR,(AV.aj 0),(AV.aj 0),(AV.aj 0),(AV.aj 0),aU,AV.au]).bind λQA=>(A.not iG).bind λiV=>A.cond iV (some (AX.ret,[(ah iU 0),(AV.aj 8),(ah iU 2),(ah iU 3)],oL.2)) ((A.ay 2 pN).bind λld=>(tY [ld] oL.2).bind λnS=>(A.not nS.1).bind λyX=>A.cond yX (some (AX.ret,[(ah iU 0),(AV.aj 1),(ah iU 2),(ah iU 3)],nS.2)) ((A.gtr (ah iU 3) (AV.aj 0)).bind λdG=>((A.lb (ah iU 2)).bind λ_=>some (2)).bind λKi=>(A.guard dG true ((A.lb (ah iU 2)).bind λJI=>A.ay Ki JI) an).bind λwZ=>(A.guard dG true (some (ah iU 3)) an).bind λqM=>(A.guard dG true (A.sub qM (AV.aj 1)) an).bind λnW=>(A.guard dG true (A.aK 3 wZ nW) an).bind λnZ=>(A.guard dG true (A.eG 0 nZ) an).bind λrY=>(A.guard dG true ((A.deref rY nS.2).bind λmu=>A.aA 0 2 mu) an).bind λn4=>(A.guard dG true (A.aA 0 2 pN) an).bind λrZ=>(A.guard dG true (A.quiet (vG [n4,rZ] nS.2) nS.2) an).bind λsj=>(A.guard dG true (A.not sj) an).bind λsk=>(A.pick dG sk aU).bind λjr=>A.cond jr (some (AX.ret,[(ah iU 0),(AV.aj 7),(ah iU 2),(ah iU 3)],nS.2)) ((A.add (ah iU 3) (AV.aj 1)).bind λgQ=>some (AX.normal,[(ah iU 0),(ah iU 1),(ah iU 2),gQ],nS.2))))) (some (AX.exit 3,[(ah iU 0),(ah iU 1),(ah iU 2),(ah iU 3)],Kp))) [(ah v8 0),(ah v8 1),(AV.lbx jE),(AV.aj 0)] gl.2).bind λfX=>bif fX.1==AX.exit 3 then((A.add (ah v8 2) (AV.aj 1)).bind λmI=>some (AX.normal,[(ah fX.2.1 0),(ah fX.2.1 1),mI],fX.2.2))else bif fX.1==AX.ret then(some (AX.ret,[(ah fX.2.1 0),(ah fX.2.1 1),(ah v8 2)],fX.2.2))else none))))) (some (AX.exit 0,[(ah v8 0),(ah v8 1),(ah v8 2)],s9))) [(AV.lbx c1),(AV.aj 0),(AV.aj 0)] r3.2).bind λgH=>bif gH.1==AX.exit 0 then(A.fin σ (AV.aj 0) gH.2.2)else bif gH.1==AX.ret then(A.fin σ (ah gH.2.1 1) gH.2.2)else none))
noncomputable def AY:aq→Heap→aB:=A.wrap true [lI,(.s 3)] .k (A.dA Gc)
noncomputable def Gu (a0 a1:AV) (σ:Heap):aB:=(A.aY a0).bind λx1=>(A.loop (λv2 s3=>(A.lss (ah v2 2) x1).bind λx5=>A.cond x5 ((A.aK 3 a0 (ah v2 2)).bind λx6=>((A.deref x6 s3).bind λc7=>A.aA 0 3 c7).bind λx8=>(A.cells 3 x8).bind λc9=>(A.aH 0 c9 [(AV.aj 0),aR,AV.au]).bind λi6=>(A.ay 0 i6).bind λbI=>(A.eql .i bI a1).bind λbD=>A.cond bD ((A.aA 0 3 i6).bind λbw=>(A.lb (ah v2 0)).bind λjE=>(A.cells 3 bw).bind λgf=>(A.aH 0 gf jE).bind λeU=>some (AX.ret,[(AV.lbx eU),cY,(ah v2 2)],s3)) ((A.add (ah v2 2) (AV.aj 1)).bind λbJ=>some (AX.normal,[(ah v2 0),(ah v2 1),bJ],s3))) (some (AX.exit 0,[(ah v2 0),(ah v2 1),(ah v2 2)],s3))) [(AV.lbx [(AV.aj 0),aR,AV.au]),aU,(AV.aj 0)] σ).bind λgl=>bif gl.1==AX.exit 0 then((A.lb (ah gl.2.1 0)).bind λmo=>(A.cells 3 (AV.agg [(AV.aj 0),aR,AV.au])).bind λnJ=>(A.aH 0 nJ mo).bind λdN=>(A.aA 0 3 dN).bind λbO=>A.fin σ (AV.aD [bO,aU]) gl.2.2)else bif gl.1==AX.ret then(((A.lb (ah gl.2.1 0)).bind λeI=>A.aA 0 3 eI).bind λcg=>A.fin σ (AV.aD [cg,(ah gl.2.1 1)]) gl.2.2)else none
noncomputable def Gq:aq→Heap→aB:=A.wrap true [(.s 3)] (.t [(.a me),.k]) (A.dA Gu)
noncomputable def DR (a0:AV) (σ:Heap):aB:=(A.aY a0).bind λx1=>(A.loop (λv2 s3=>(A.lss (ah v2 1) x1).bind λx5=>A.cond x5 ((A.aK 3 a0 (ah v2 1)).bind λx6=>((A.deref x6 s3).bind λc7=>A.aA 0 3 c7).bind λx8=>(A.cells 3 x8).bind λc9=>(A.aH 0 c9 [(AV.aj 0),aR,(AV.aj 0)]).bind λi6=>(A.loop (λv11 e9=>(A.aY (ah v2 0)).bind λbG=>(A.lss (ah v11 1) bG).bind λaW=>(A.guard aW true (some (ah v2 0)) an).bind λbE=>(A.guard aW true (some (ah v11 1)) an).bind λbJ=>(A.guard aW true (A.aK 3 bE bJ) an).bind λbz=>(A.guard aW true (A.eG 0 bz) an).bind λbY=>(A.guard aW true ((A.deref bY e9).bind λdN=>A.aA 0 2 dN) an).bind λaT=>((A.lb (ah v11 0)).bind λ_=>some (0)).bind λvk=>(A.guard aW true ((A.lb (ah v11 0)).bind λeW=>A.aA vk 2 eW) an).bind λcr=>(A.guard aW true (A.quiet (vG [aT,cr] e9) e9) an).bind λck=>(A.pick aW ck aU).bind λcH=>A.cond cH ((A.add (ah v11 1) (AV.aj 1)).bind λcQ=>some (AX.normal,[(ah v11 0),cQ],e9)) (some (AX.exit 2,[(ah v11 0),(ah v11 1)],e9))) [(AV.lbx i6),(AV.aj 0)] s3).bind λfU=>bif fU.1==AX.exit 2 then((A.aY (ah v2 0)).bind λcZ=>(A.lss (ah fU.2.1 1) cZ).bind λcA=>(A.guard cA true (some (ah v2 0)) an).bind λeo=>(A.guard cA true (some (ah fU.2.1 1)) an).bind λcK=>(A.guard cA true (A.aK 3 eo cK) an).bind λeJ=>(A.guard cA true (A.eG 0 eJ) an).bind λgn=>(A.guard cA true ((A.deref gn fU.2.2).bind λiM=>A.aA 0 2 iM) an).bind λfV=>((A.lb (ah fU.2.1 0)).bind λ_=>some (0)).bind λKh=>(A.guard cA true ((A.lb (ah fU.2.1 0)).bind λrG=>A.aA Kh 2 rG) an).bind λeR=>(A.guard cA true (A.eql (.s [0,2]) fV eR) an).bind λjL=>(A.pick cA jL aU).bind λfK=>(A.cond fK (((A.lb (ah fU.2.1 0)).bind λpM=>A.aA 0 3 pM).bind λkZ=>(A.aK 3 (ah v2 0) (ah fU.2.1 1)).bind λjq=>(A.cells 3 kZ).bind λrJ=>(A.storeAt jq rJ fU.2.2).bind λCw=>some ([(ah v2 0)],Cw)) (((A.lb (ah fU.2.1 0)).bind λCx=>A.aA 0 3 Cx).bind λgp=>(((A.cells 3 gp).bind λpN=>(A.aH 0 pN [(AV.aj 0),aR,(AV.aj 0)]).bind λCy=>some Cy).bind λcs=>some (AV.sl 3 (dK 3 1 cs))).bind λfE=>(zh [(ah v2 0),(ah fU.2.1 1),fE] fU.2.2).bind λiq=>some ([iq.1],iq.2))).bind λgm=>(A.add (ah v2 1) (AV.aj 1)).bind λje=>some (AX.normal,[(ah gm.1 0),je],gm.2))else none) (some (AX.exit 0,[(ah v2 0),(ah v2 1)],s3))) [AV.au,(AV.aj 0)] σ).bind λqH=>bif qH.1==AX.exit 0 then(A.fin σ (ah qH.2.1 0) qH.2.2)else none
noncomputable def DQ:aq→Heap→aB:=A.wrap true [(.s 3)] (.s 3) (A.eP DR)
noncomputable def GW (a0 a1 a2 a3 a4 a5:AV) (σ:Heap):aB:=(A.cells 2 a0).bind λc1=>(A.aA 0 2 c1).bind λx2=>(AY [x2,a1] σ).bind λr3=>(A.neq .i r3.1 (AV.aj 0)).bind λx4=>A.cond x4 (A.fin σ (AV.aD [AV.au,r3.1]) r3.2) ((qd [a2,(AV.aj 1),(AV.aj 999)] r3.2).bind λr5=>(A.not r5.1).bind λx6=>A.cond x6 (A.fin σ (AV.aD [AV.au,(AV.aj 1)]) r5.2) ((A.neq .z a3 aR).bind λx7=>(A.guard x7 true (some a3) an).bind λx8=>(A.guard x7 true (A.quiet (Ba [x8] r5.2) r5.2) an).bind λx9=>(A.guard x7 true (A.not x9) an).bind λaS=>(A.pick x7 aS aU).bind λbI=>A.cond bI (A.fin σ (AV.aD [AV.au,(AV.aj 3)]) r5.2) ((A.aY a4).bind λbD=>(A.gtr bD (AV.aj 20000)).bind λbw=>A.cond bw (A.fin σ (AV.aD [AV.au,(AV.aj 2)]) r5.2) ((A.aY a4).bind λbG=>(A.loop (λdm oM=>(A.lss (ah dm 3) bG).bind λbz=>A.cond bz ((A.aK 3 a4 (ah dm 3)).bind λbY=>((A.deref bY oM).bind λdN=>A.aA 0 3 dN).bind λaT=>(A.cells 3 aT).bind λpJ=>(A.aH 0 pJ [(AV.aj 0),aR,(AV.aj 0)]).bind λeW=>((A.lb (ah dm 0)).bind λeI=>A.aA 0 2 eI).bind λck=>(A.aA 0 2 eW).bind λcH=>(zw [ck,cH] oM).bind λfT=>(A.ext 0 fT.1).bind λef=>(A.ext 1 fT.1).bind λcZ=>(A.cells 7 ef).bind λnK=>(A.aH 0 nK [aR,(AV.aj 0),(AV.aj 0),(AV.aj 0),(AV.aj 0),aU,AV.au]).bind λlP=>(A.not cZ).bind λcK=>A.cond cK (some (AX.ret,[(ah dm 0),AV.au,(AV.aj 8),(ah dm 3)],fT.2)) ((A.ay 2 eW).bind λeJ=>(tY [eJ] fT.2).bind λrR=>(A.not rR.1).bind λiD=>A.cond iD (some (AX.ret,[(ah dm 0),AV.au,(AV.aj 1),(ah dm 3)],rR.2)) ((A.add (ah dm 3) (AV.aj 1)).bind λfV=>some (AX.normal,[(ah dm 0),(ah dm 1),(ah dm 2),fV],rR.2)))) (some (AX.exit 1,[(ah dm 0),(ah dm 1),(ah dm 2),(ah dm 3)],oM))) [(AV.lbx c1),AV.au,(AV.aj 0),(AV.aj 0)] r5.2).bind λmC=>bif mC.1==AX.exit 1 then((Gq [a1,a2] mC.2.2).bind λC6=>(A.ext 0 C6.1).bind λeR=>(A.ext 1 C6.1).bind λjL=>(A.cells 3 eR).bind λCu=>(A.aH 0 Cu [(AV.aj 0),aR,AV.au]).bind λyu=>((((A.cell a2).bind λv=>some [v]).bind λpM=>(A.aH 0 pM [(AV.aj 0),aR,AV.au]).bind λJH=>((A.cell a3).bind λv=>some [v]).bind λCv=>(A.aH 1 Cv JH).bind λrJ=>some rJ).bind λcs=>some (AV.agg cs)).bind λiE=>(A.cells 3 iE).bind λCx=>(A.aH 0 Cx [(AV.aj 0),aR,AV.au]).bind λyw=>(A.guard jL true (some a5) an).bind λdJ=>(A.pick jL dJ aU).bind λdV=>(A.cond dV ((A.eql .z a3 aR).bind λmG=>(A.cond mG ((A.ay 1 yu).bind λiF=>((A.cell iF).bind λv=>some [v]).bind λnM=>(A.aH 1 nM yw).bind λkV=>some ([(AV.lbx yu),(AV.lbx kV)],C6.2)) (some ([(AV.lbx yu),(AV.lbx yw)],C6.2))).bind λoL=>((A.lb (ah oL.1 0)).bind λ_=>some (2)).bind λC3=>((A.lb (ah oL.1 0)).bind λpO=>A.ay C3 pO).bind λld=>((((A.cell ld).bind λv=>some [v]).bind λyz=>(A.aH 0 yz [AV.au,AV.au]).bind λyA=>((A.cell a4).bind λv=>some [v]).bind λCA=>(A.aH 1 CA yA).bind λCB=>some CB).bind λcs=>some (AV.sl 1 (dK 1 2 cs))).bind λvA=>(vF [vA] oL.2).bind λqI=>some ([qI.1,(ah oL.1 1)],qI.2)) (some ([a4,(AV.lbx yw)],C6.2))).bind λwS=>(DQ [(ah wS.1 0)] wS.2).bind λRv=>((A.lb (ah wS.1 1)).bind λ_=>some (2)).bind λp68=>(A.lb (ah wS.1 1)).bind λmu=>((A.cell Rv.1).bind λv=>some [v]).bind λc69=>(A.aH p68 c69 mu).bind λuW=>(A.aY a1).bind λn4=>(A.loop (λdI oP=>(A.lss (ah dI 3) n4).bind λjr=>A.cond jr ((A.aK 3 a1 (ah dI 3)).bind λgQ=>((A.deref gQ oP).bind λpP=>A.aA 0 3 pP).bind λmI=>(A.cells 3 mI).bind λyD=>(A.aH 0 yD [(AV.aj 0),aR,AV.au]).bind λmw=>(A.not (ah dI 2)).bind λkr=>(A.guard kr true (A.ay 0 mw) an).bind λmJ=>(A.guard kr true (some a2) an).bind λku=>(A.guard kr true (A.geq mJ ku) an).bind λso=>(A.pick kr so aU).bind λvB=>(A.cond vB (((A.lb (ah dI 0)).bind λnN=>A.aA 0 3 nN).bind λlf=>(((A.cells 3 lf).bind λuY=>(A.aH 0 uY [(AV.aj 0),aR,AV.au]).bind λuZ=>some uZ).bind λcs=>some (AV.sl 3 (dK 3 1 cs))).bind λsu=>(A.append 3 (140737488355328 / 48) (ah dI 1) su oP).bind λrU=>some ([(ah dI 0),rU.1,cY,(AV.lbx mw)],rU.2)) (some ([(ah dI 0),(ah dI 1),(ah dI 2),(AV.lbx mw)],oP))).bind λcP=>((A.lb (ah cP.1 3)).bind λ_=>some (0)).bind λC4=>((A.lb (ah cP.1 3)).bind λrK=>A.ay C4 rK).bind λpZ=>(A.neq .i pZ a2).bind λsv=>(A.cond sv (((A.lb (ah cP.1 3)).bind λ_=>some (0)).bind λC5=>((A.lb (ah cP.1 3)).bind λxK=>A.ay C5 xK).bind λgP=>((A.lb (ah cP.1 3)).bind λ_=>some (1)).bind λCh=>((A.lb (ah cP.1 3)).bind λBY=>A.ay Ch BY).bind λyh=>((A.lb (ah cP.1 3)).bind λ_=>some (2)).bind λCi=>((A.lb (ah cP.1 3)).bind λBZ=>A.ay Ci BZ).bind λuP=>(A.quiet ((A.oA (.s 3) p9) [uP] cP.2) cP.2).bind λpE=>((((A.cell gP).bind λv=>some [v]).bind λB1=>(A.aH 0 B1 [(AV.aj 0),aR,AV.au]).bind λB2=>((A.cell yh).bind λv=>some [v]).bind λB3=>(A.aH 1 B3 B2).bind λB4=>((A.cell pE).bind λv=>some [v]).bind λxM=>(A.aH 2 xM B4).bind λB5=>some B5).bind λcs=>some (AV.agg cs)).bind λmm=>(((A.cells 3 mm).bind λB6=>(A.aH 0 B6 [(AV.aj 0),aR,AV.au]).bind λB7=>some B7).bind λcs=>some (AV.sl 3 (dK 3 1 cs))).bind λuS=>(A.append 3 (140737488355328 / 48) (ah cP.1 1) uS cP.2).bind λwB=>some ([(ah cP.1 0),wB.1],wB.2)) (some ([(ah cP.1 0),(ah cP.1 1)],cP.2))).bind λrV=>(A.add (ah dI 3) (AV.aj 1)).bind λuT=>some (AX.normal,[(ah rV.1 0),(ah rV.1 1),(ah cP.1 2),uT],rV.2)) (some (AX.exit 3,[(ah dI 0),(ah dI 1),(ah dI 2),(ah dI 3)],oP))) [(AV.lbx uW),AV.au,aU,(AV.aj 0)] Rv.2).bind λqz=>bif qz.1==AX.exit 3 then((A.not (ah qz.2.1 2)).bind λCn=>(A.cond Cn (((A.lb (ah qz.2.1 0)).bind λB8=>A.aA 0 3 B8).bind λyj=>(((A.cells 3 yj).bind λI8=>(A.aH 0 I8 [(AV.aj 0),aR,AV.au]).bind λB9=>some B9).bind λcs=>some (AV.sl 3 (dK 3 1 cs))).bind λCo=>(A.append 3 (140737488355328 / 48) (ah qz.2.1 1) Co qz.2.2).bind λxX=>some ([(ah qz.2.1 0),xX.1],xX.2)) (some ([(ah qz.2.1 0),(ah qz.2.1 1)],qz.2.2))).bind λAr=>((A.lb (ah Ar.1 0)).bind λ_=>some (2)).bind λZT=>((A.lb (ah Ar.1 0)).bind λI9=>A.ay ZT I9).bind λJy=>(A.aY Jy).bind λJz=>(A.gtr Jz (AV.aj 2000)).bind λwE=>(A.guard wE false (some (ah Ar.1 1)) an).bind λCp=>(A.guard wE false (A.aY Cp) an).bind λJA=>(A.guard wE false (A.gtr JA (AV.aj 200)) an).bind λCq=>(A.pick wE cY Cq).bind λJB=>A.cond JB (A.fin σ (AV.aD [AV.au,(AV.aj 2)]) Ar.2) (A.fin σ (AV.aD [(ah Ar.1 1),(AV.aj 0)]) Ar.2))else none)else bif mC.1==AX.ret then(A.fin σ (AV.aD [(ah mC.2.1 1),(ah mC.2.1 2)]) mC.2.2)else none))))
noncomputable def DP:aq→Heap→aB:=A.wrap true [lI,(.s 3),.k,.k,(.s 3)] (.t [(.e 3 me),.k]) (A.uU GW)
end
section
set_option maxRecDepth 100000
noncomputable def Gh (a0 a1:AV) (σ:Heap):aB:=(A.cells 3 a0).bind λc1=>(A.cells 3 a1).bind λc2=>(A.ay 0 c1).bind λx3=>(A.ay 0 c2).bind λx4=>(A.eql .i x3 x4).bind λx5=>(A.guard x5 true (A.ay 1 c1) an).bind λx6=>(A.guard x5 true (A.ay 1 c2) an).bind λx7=>(A.guard x5 true (A.eql .z x6 x7) an).bind λx8=>(A.pick x5 x8 aU).bind λx9=>(A.guard x9 true (A.ay 2 c1) an).bind λaS=>(A.guard x9 true (A.ay 2 c2) an).bind λbI=>(A.guard x9 true (A.quiet (FR [aS,bI] σ) σ) an).bind λbD=>(A.pick x9 bD aU).bind λbw=>A.fin σ bw σ
noncomputable def tX:aq→Heap→aB:=A.wrap true [(.a me),(.a me)] .k (A.dA Gh)
noncomputable def FV (a0 a1 a2 a3 a4 a5:AV) (σ:Heap):aB:=(A.cells 2 a0).bind λc1=>(A.aA 0 2 c1).bind λx2=>(DJ [x2,a1,a2,a3,a4,a5] σ).bind λr3=>(A.ext 0 r3.1).bind λx4=>(A.ext 1 r3.1).bind λx5=>(A.aA 0 2 c1).bind λx6=>(DP [x6,a1,a2,a3,a4,a5] r3.2).bind λr7=>(A.ext 0 r7.1).bind λx8=>(A.ext 1 r7.1).bind λx9=>(A.aA 0 2 c1).bind λaS=>(A.quiet (zm [aS,a1] r7.2) r7.2).bind λbI=>(A.aA 0 2 c1).bind λbD=>(A.quiet (AY [bD,a1] r7.2) r7.2).bind λbw=>(A.eql .i bI bw).bind λbG=>(A.guard bG true (some x4) an).bind λaW=>(A.guard bG true (some x8) an).bind λbE=>(A.guard bG true (A.quiet (Dx (A.tab (λ_ _=>none) [(118,tX)]) [aW,bE,(AV.fn 118 [])] r7.2) r7.2) an).bind λbJ=>(A.pick bG bJ aU).bind λbz=>(A.guard bz true (some x5) an).bind λbY=>(A.guard bz true (some x9) an).bind λbZ=>(A.guard bz true (A.eql .i bY bZ) an).bind λaT=>(A.pick bz aT aU).bind λbO=>A.fin σ bO r7.2
noncomputable def KM:aq→Heap→aB:=A.wrap true [lI,(.s 3),.k,.k,(.s 3)] .k (A.uU FV)
end
section
open Go.RowKit
theorem lA.same{P:Program}{nm:List Nat}{f:FuncId}{args:aq}{σ:Heap}{r:AV}(hc:∀us w,(callFunc f us).run P w=.ok (.enter f us) w)
  (h:∀(c:RC)(vs:Array Value)(w:World),aG c args vs.toList→Calls P f vs w λe w'=>∃v,e=.returned v∧Below w.heap.size w w'∧∀c',ak c' r v):lA P nm f args σ r σ:=by
 refine .inl ⟨f,hc,λz vs e1 e2 hh ha=>(h _ vs z.w ha).mono ?_⟩;rintro e w' ⟨v,k1,k2,k3⟩;have ho:Out z z.w z.E:=⟨rfl,rfl,rfl,bU _,λ_ _ _=>rfl,λi p hp=>.inr ⟨p,hp,rfl⟩,λi p hp=>⟨p,hp,.inl rfl⟩,e2,λp hp=>hh.lt hp⟩
 exact⟨v,z.E,k1,ho.grow k2,hh.mono (sI k2) rfl (λp hp=>k2.block _ (hh.lt hp)),k3 _⟩
theorem E7{c:RC}{a:AV}{vs:Array Value}(h:aG c [a] vs.toList):∃v,vs=#[v]∧ak c a v:=by simp only[aG]at h;obtain⟨v,vs',e,h1,e2⟩:=h;refine⟨v,?_,h1⟩;subst e2;cases vs;simp at e;simp [e]
theorem PD{c:RC}{a b:AV}{vs:Array Value}(h:aG c [a,b] vs.toList):∃v u,vs=#[v,u]∧ak c a v∧ak c b u:=by simp only[aG]at h;obtain⟨v,vs',e,h1,u,vs2,e2,h2,e3⟩:=h;refine⟨v,u,?_,h1,h2⟩;subst e3;subst e2;cases vs;simp at e;simp [e]
theorem KY:Sound Try.prog aJ 74 DE:=by
 intro args σ r σ' h;unfold DE A.dA at h;split at h
 ·simp only at h;split at h
  ·simp only[Option.some.injEq,Prod.mk.injEq]at h;obtain⟨rfl,rfl⟩:=h;refine lA.same Try.call74 λc vs w hr=>?_
   obtain⟨v,u,rfl,h1,h2⟩:=PD hr;simp only[ak]at h1 h2;subst h1 h2;refine(Try.strings_Compare _ _ w).mono ?_;rintro e w' ⟨rfl,rfl⟩;exact⟨_,rfl,Below.refl _ _,λc'=>by simp [ak]⟩
  ·cases h
 ·cases h
end
section
open Go.RowKit
set_option maxRecDepth 100000
theorem Ug{P:Program}{nm:List Nat}{f:FuncId}{m0:aq→Heap→aB}(h0:Sound P nm f m0)(hc:∀us w,(callFunc f us).run P w=.ok (.enter f us) w)
  (hz:∀a cap w,Calls P f #[.slice a 0 cap] w λe w'=>∃q,e=.returned (.slice q 0 0)∧Below w.heap.size w w'):Sound P nm f (A.EP m0):=by
 intro args σ r σ' h;unfold A.EP at h;split at h
 ·simp only[Option.some.injEq,Prod.mk.injEq]at h;obtain⟨rfl,rfl⟩:=h;refine lA.same hc λc vs w hr=>?_
  obtain⟨v,rfl,h1⟩:=E7 hr;simp only[ak]at h1;obtain⟨a,cap,rfl,_⟩:=h1;refine(hz _ _ w).mono ?_;rintro e w' ⟨q,rfl,hb⟩;exact⟨_,rfl,hb,λc'=>by simp [ak]⟩
 ·simp only[Option.some.injEq,Prod.mk.injEq]at h;obtain⟨rfl,rfl⟩:=h;refine lA.same hc λc vs w hr=>?_
  obtain⟨v,rfl,h1⟩:=E7 hr;simp only[ak]at h1;subst h1;refine(hz _ _ w).mono ?_;rintro e w' ⟨q,rfl,hb⟩;exact⟨_,rfl,hb,λc'=>by simp [ak]⟩
 ·simp only[Option.some.injEq,Prod.mk.injEq]at h;obtain⟨rfl,rfl⟩:=h;refine lA.same hc λc vs w hr=>?_
  obtain⟨v,rfl,h1⟩:=E7 hr;simp only[ak]at h1;obtain⟨a,rfl⟩:=h1;refine(hz _ _ w).mono ?_;rintro e w' ⟨q,rfl,hb⟩;exact⟨_,rfl,hb,λc'=>by simp [ak]⟩
 ·simp only[Option.some.injEq,Prod.mk.injEq]at h;obtain⟨rfl,rfl⟩:=h;refine lA.same hc λc vs w hr=>?_
  obtain⟨v,rfl,h1⟩:=E7 hr;simp only[ak]at h1;obtain⟨_,p,_,_,a,cap,rfl,_⟩:=h1;refine(hz _ _ w).mono ?_;rintro e w' ⟨q,rfl,hb⟩;exact⟨_,rfl,hb,λc'=>by simp [ak]⟩
 ·exact h0 _ _ _ _ h
theorem N9{P:Program}{t e:TypeId}(ht:P.underlying t=some (.slice e))(a:Option Addr)(n m:Nat)(w:World):Sem.run P (binOp .eql t (.slice a n m) (.slice none 0 0)) w=.ok (.bool a.isNone) w:=by simp [binOp,show(Op.equal t (.slice a n m) (.slice none 0 0)).run P w=.ok a.isNone w from O3 w 9999 t a n m ht]
theorem UJ(a:Option Addr)(cap:Nat)(w:World):Calls Try.prog 38 #[.slice a 0 cap] w λe w'=>∃q,e=.returned (.slice q 0 0)∧Below w.heap.size w w':=by
 go_enter Try.func38,Try.ntmps38
 cases a
 ·go_wp2_with (simp only[N9 (Try.underlying29),Option.isNone_none,Result.andThen_ok])
  go_ret
  exact⟨_,rfl,Below.refl _ _⟩
 ·go_wp2_with (simp only[N9 (Try.underlying29),Option.isNone_some,Result.andThen_ok])
  go_ret
  exact⟨_,rfl,(Below.refl _ _).alloc (bU _) _⟩
end
section
set_option maxRecDepth 100000
open Go.RowKit
theorem T5{P:Program}(w:World)(tS tR e:TypeId)(ht:P.underlying tS=some (.slice e))(size:Nat)(hz:∀w,(Go.sizeOf e).run P w=.ok size w)
  (a b:Addr) (la ca lb cb:Nat) (hne:a.block≠b.block) (arr qv:Array Value) (tA tB:TypeId) (fz:Nat×Nat)
  (ha:w.heap[a.block]? =some (.cells arr tA fz)) (hs:0<arr.size) (hb:w.heap[b.block]? =some (.cells qv tB (0,0))):
  (Extern.SlicesOverlaps.overlaps #[tS,tS] #[tR] #[.slice (some a) la ca,.slice (some b) lb cb]).run P w=.ok (.bool false) w:=by
 have hnb:(a.block !=b.block)=true:=by simpa using hne
 have ZH:(a.block==b.block)=false:=by simpa using hne
 have hsa:w.shape? a.block=some (tA,arr.size):=by simp [World.shape?,ha]
 have hsb:w.shape? b.block=some (tB,qv.size):=by simp [World.shape?,hb]
 have hfb:w.frozen? b=false:=by simp [World.frozen?,hb]
 have ZB:w.frozen? {block:=b.block,off:=qv.size}=false:=by simp [World.frozen?,hb]
 delta Extern.SlicesOverlaps.overlaps Extern.SlicesOverlaps.overlaps.match_4 Extern.SlicesOverlaps.overlaps._sparseCasesOn_4;dsimp [Array.getLit,Array.casesOn];obtain⟨k,hk⟩:∃k,arr.size=k+1:=⟨arr.size-1,by omega⟩
 rw[hk]at hsa;by_cases h0:la=0∨lb=0∨size=0
 ·simp [run_underlying ht,hz,h0]
 ·cases hfa:w.frozen? a<;>cases hfe:w.frozen? {block:=a.block,off:=k+1}<;>simp [run_underlying ht,hz,h0,hnb,ZH,frozen,noView,viewAt,mayBeOne,stringish,shape,Sem.run,hsa,hsb,hfa,hfe,hfb,ZB]
theorem V4{w:World}{b off:Nat}{v:Value}(h:w.cell? ⟨b,off,none⟩=some v):∃arr t fz,w.heap[b]? =some (.cells arr t fz)∧0<arr.size:=by
 unfold World.cell? at h;simp only at h;split at h
 ·rename_i arr t fz hh;refine⟨arr,t,fz,hh,?_⟩;simp only[Option.isSome_none,Bool.false_eq_true,if_false]at h;have:=(th.1 h).1;omega
 ·cases h
theorem K9 {P : Program} {nm : List Nat} {f : FuncId} {fn : Func} {tS tR e : TypeId} {i : TypeInfo} (hf : P.funcs[f]? = some fn) (h1 : (fn.name == "runtime.NumGoroutine") = false) (h2 : fn.body.isNone = true) (h3 : Extern.findNext fn = none)
  (h4:Extern.find fn=some (Extern.SlicesOverlaps.overlaps #[tS,tS] #[tR])) (ht:P.underlying tS=some (.slice e)) (hi:P.info? e=some i):Sound P nm f n7:=by
 intro args σ r σ' h;unfold n7 A.dA at h;split at h
 ·simp only at h;split at h
  ·rename_i sz es id g sz' off len;split at h
   ·rename_i hg0 ss es' hs;split at h
    ·rename_i hc;obtain⟨hne,rfl,wM,hl⟩:=hc;simp only[Option.some.injEq,Prod.mk.injEq]at h;obtain⟨rfl,rfl⟩:=h;refine .inr λz vs e1 e2 hh ha=>?_
     obtain⟨v,u,rfl,r1,r2⟩:=PD ha;simp only[ak]at r1 r2;obtain⟨a,cap,rfl,hcap,ZM,r1⟩:=r1;obtain⟨b,lK,rfl,hb,hX,r1⟩:=r1.resolve_left hne;obtain⟨hg,p,k1,k2,a',cap',rfl,aaz,rx⟩:=r2;obtain⟨j1,j2,j3,j4,⟨arr,bt,j5,j6⟩,j7,j8,j9⟩:=hh.blk id p _ k1 hs;obtain⟨q1,q2,q3⟩:=rx j1.symm;have hsz:∀w,(Go.sizeOf e).run P w=.ok i.size w:=λw=>by simp [sizeOf,qc w hi]
     have ha':a'=⟨p.b,p.base+off*p.sz,none⟩:=q2.resolve_left (by omega);have hpb:b≠p.b:=λk=>hX (.inr (.inl ⟨p,cM k1,k.symm⟩))
     have hw5:z.w.heap[p.b]? =some (.cells arr bt (0,0)):=j5
     have hcell:∃v,z.w.cell? ⟨b,lK,none⟩=some v:=by
      cases es with
      |nil=>exact absurd rfl hne
      |cons x xs=>
       simp only[bh]at r1;obtain⟨l1,l2,_⟩:=r1;cases x with
       |nil=>simp at l1;omega
       |cons y ys=>simp only[aZ]at l2;obtain⟨⟨v,l3,_⟩,_⟩:=l2;exact⟨v,l3⟩
     obtain⟨v,hv⟩:=hcell;obtain⟨Ze,t0,fz0,m1,m2⟩:=V4 hv;have hrun:=T5 (P:=P) z.w tS tR e ht i.size hsz ⟨b,lK,none⟩ a' es.length cap len cap' (by rw[ha'];exact hpb) Ze arr t0 bt fz0 m1 m2 (by rw[ha'];exact hw5);refine⟨.bool false,z.w,z.E,?_,⟨rfl,rfl,rfl,bU _,λ_ _ _=>rfl,λi p hp=>.inr ⟨p,hp,rfl⟩,λi p hp=>⟨p,hp,.inl rfl⟩,e2,λp hp=>hh.lt hp⟩,hh,by simp [ak]⟩;rw[run_callFunc_extern hf h1 h2 h3 h4,hrun];rfl
    ·cases h
   ·cases h
  ·cases h
 ·cases h
theorem Ss:Sound Try.prog aJ 71 n7:=K9 Try.func71 (by kernel_rfl) (by kernel_rfl) (by kernel_rfl) (tS:=40) (tR:=4) (by kernel_rfl) (e:=46) (by kernel_rfl) rfl
theorem Sk:Sound Try.prog aJ 85 n7:=K9 Try.func85 (by kernel_rfl) (by kernel_rfl) (by kernel_rfl) (tS:=29) (tR:=4) (by kernel_rfl) (e:=37) (by kernel_rfl) rfl
end
section
set_option maxRecDepth 100000
theorem U5:Sound Try.prog aJ 106 He:=q1 [] 35 (.s .n (.s (.s .n (.b (.l [2,7] [.exit 0,.ret] (.s .n (.s cC (.s (.b (.s .n (.s .n bL))) .n)))))) bf)) aL.nil Try.func106 Try.call106 (λa0 σ=>by kernel_rfl) rfl rfl
theorem LQ:Sound Try.prog aJ 89 Bh:=q1 [] 20 (.s .n bf) (aL.cons U5 aL.nil) Try.func89 Try.call89 (λa0 σ=>by kernel_rfl) rfl rfl
theorem zq:Sound Try.prog aJ 35 n8:=q3 [] 15 (.s .n bf) aL.nil Try.func35 Try.call35 (λa0 a1 a2 σ=>by kernel_rfl) rfl rfl
theorem KU:Sound Try.prog aJ 90 AZ:=q1 [] 5 (.s .n bf) (aL.cons zq aL.nil) Try.func90 Try.call90 (λa0 σ=>by kernel_rfl) rfl rfl
theorem S4:Sound Try.prog aJ 91 F0:=q1 [5] 63 (.s .n (.s bL (.s .n (.s (.s .n (.b (.l [2,12] [.exit 0,.ret] (.s .n (.s cC (.s (.b (.s .n (.s (.b (.s .n (.j bf (.s .n (.j bf (.s .n (.j bf bL))))))) .n))) .n)))))) bf)))) (aL.cons KU (aL.cons LQ aL.nil)) Try.func91 Try.call91 (λa0 σ=>by kernel_rfl) rfl rfl
theorem SY:Sound Try.prog aJ 75 FX:=q1 [1,6] 115 (.s .n (.s (.b (.s .n (.j bf (.s .n (.j bf (.s .n (.j bf bL))))))) (.s .n (.s (.s .n (.b (.l [1,2,33] [.exit 1,.ret] (.s .n (.s cC (.s (.b (.s .n (.s (.b (.s .n (.j bf (.s .n (.j bf (.s .n (.j bf (.s .n (.j bf bL))))))))) (.s (.s .n bL) (.s .n (.s .n (.c [1] .n .n))))))) .n)))))) bf)))) (aL.cons LQ (aL.cons zq (aL.cons KU (aL.cons S4 aL.nil)))) Try.func75 Try.call75 (λa0 σ=>by kernel_rfl) rfl rfl
theorem SX:Sound Try.prog aJ 51 FW:=q1 [5] 30 (.s .n (.s bL (.s .n (.s (.s .n (.b (.l [2,13] [.exit 0,.ret] (.s .n (.s cC (.s (.b (.s .n (.s (.s .n bL) (.s bL .n)))) .n)))))) bf)))) (aL.cons SY aL.nil) Try.func51 Try.call51 (λa0 σ=>by kernel_rfl) rfl rfl
noncomputable def Sp (dyn:Nat→aq→Heap→aB):Fx:=⟨Try.prog,aJ,A.tab (λ_ _=>none) [],dyn,[],[],19,[]⟩
theorem Sn(dyn:Nat→aq→Heap→aB)(hd:∀f,Sound Try.prog aJ f (dyn (aJ.getD f 0))):Sound Try.prog aJ 76 (A.wrap true [(.s 3)] .k (A.dA (Dw dyn))):=
 Sound.wrap (Sound.uN (X:=Sp dyn) (fn:=Try.f76) (bN:=(.s .n (.s (.s .n (.b (.l [4,8] [.exit 0,.ret] (.s .n (.s cC (.s (.b (.s .n bL)) .n)))))) bf))) .F trivial (cR.of rfl aL.nil (hd)) Try.func76 Try.call76 (λa0 a1 σ=>by kernel_rfl)) _ _ _ rfl rfl
theorem Sj(dyn:Nat→aq→Heap→aB)(hd:∀f,Sound Try.prog aJ f (dyn (aJ.getD f 0))):Sound Try.prog aJ 76 (Dv dyn):=Sn dyn hd
theorem KN:Sound Try.prog aJ 77 AT:=q2 [2] 8 (.s .n bf) aL.nil Try.func77 Try.call77 (λa0 a1 σ=>by kernel_rfl) rfl rfl
noncomputable def Td:Fx:=⟨Try.prog,aJ,A.tab (λ_ _=>none) [(76,Dv (A.tab (λ_ _=>none) [(64,AT)]))],(A.tab (λ_ _=>none) [(64,AT)]),[4],[],17,[]⟩
theorem Tc:Sound Try.prog aJ 52 (A.wrap true [(.s 3)] (.t [(.a [.k,.k,(.e 7 pG)]),.k]) (A.dA (DF))):=
 Sound.wrap (Sound.uN (X:=Td) (fn:=Try.f52) (bN:=(.s .n (.s .n (.s bL bf)))) .F trivial (cR.of rfl (aL.cons (Sj _ (uh (kQ.cons (ud KN (by kernel_rfl) rfl) kQ.nil))) aL.nil) (uh (kQ.cons (ud KN (by kernel_rfl) rfl) kQ.nil))) Try.func52 Try.call52 (λa0 a1 σ=>by kernel_rfl)) _ _ _ rfl rfl
theorem KV:Sound Try.prog aJ 52 DD:=Tc
theorem S6:Sound Try.prog aJ 53 zl:=q3 [] 32 (.s .n (.s bL (.s (.s .n (.b (.l [6,7] [.exit 0,.ret] (.s (.s .n cC) (.s (.b bL) .n))))) bf))) aL.nil Try.func53 Try.call53 (λa0 a1 a2 σ=>by kernel_rfl) rfl rfl
noncomputable def Tz:Fx:=⟨Try.prog,aJ,A.tab (λ_ _=>none) [],(λ_ _ _=>none),[4],[15],33,[]⟩
theorem Ty:Sound Try.prog aJ 54 (A.wrap false [] .k (A.ke (A6))):=
 Sound.wrap (Sound.xZ (X:=Tz) (fn:=Try.f54) (bN:=(.s .n (.s (.s .n (.c [4] .n .n)) (.s .n (.b (.l [4,6] [.exit 0] (.s (.s .n cC) (.s (.b .n) .n)))))))) .K trivial (cR.of rfl aL.nil (λ_=>Sound.none)) Try.func54 Try.call54 (λa0 a1 a2 σ=>by kernel_rfl)) _ _ _ rfl rfl
theorem Tw:Sound Try.prog aJ 54 DH:=Ty
theorem KQ:Sound Try.prog aJ 23 DC:=q1 [1,6,7] 91 (.s .n (.s (.s .n bL) (.s bL (.s .n (.s (.s .n (.b (.l [1,2,23] [.exit 0,.ret] (.s .n (.s cC (.s (.b (.s .n (.s bL (.s bL (.s .n (.s bL (.s bL (.s bL .n)))))))) .n)))))) bf))))) (aL.cons SX (aL.cons zq (aL.cons KV (aL.cons S6 (aL.cons Tw aL.nil))))) Try.func23 Try.call23 (λa0 σ=>by kernel_rfl) rfl rfl
theorem LR:Sound Try.prog aJ 25 xe:=q2 [] 7 (.s .n (.s bL bf)) aL.nil Try.func25 Try.call25 (λa0 a1 σ=>by kernel_rfl) rfl rfl
theorem Ls:Sound Try.prog aJ 22 Bd:=q1 [] 15 (.s .n (.s (.s .n (.b (.l [2,7] [.exit 0,.ret] (.s .n (.s cC (.s (.b (.s .n bL)) .n)))))) bf)) aL.nil Try.func22 Try.call22 (λa0 σ=>by kernel_rfl) rfl rfl
theorem Tv:Sound Try.prog aJ 57 Gi:=q1 [1,7,8,11] 50 (.s .n (.s (.s .n bL) (.s .n (.s (.s .n (.b (.l [1,5,20] [.exit 0] (.s .n (.s cC (.s (.b (.s .n (.s .n (.s .n (.b (.l [1,5,7,35] [.exit 2] (.s .n (.s cC (.s (.b bf) .n))))))))) .n)))))) bf)))) (aL.cons KQ (aL.cons KV aL.nil)) Try.func57 Try.call57 (λa0 σ=>by kernel_rfl) rfl rfl
theorem LP:Sound Try.prog aJ 26 Bg:=q1 [1,7] 24 (.s .n (.s .n (.s .n (.s (.s .n (.b (.l [16] [.exit 0] (.s .n (.s cC (.s (.b bf) .n)))))) bf)))) (aL.cons Tv aL.nil) Try.func26 Try.call26 (λa0 σ=>by kernel_rfl) rfl rfl
theorem Ua:Sound Try.prog aJ 70 Gz:=q1 [] 40 (.s .n (.s (.s .n (.b (.l [2,6] [.exit 0,.ret] (.s .n (.s cC (.s (.b (.s .n bL)) .n)))))) bf)) aL.nil Try.func70 Try.call70 (λa0 σ=>by kernel_rfl) rfl rfl
theorem Lq:Sound Try.prog aJ 36 Bc:=q1 [] 9 (.s .n bf) (aL.cons Ua aL.nil) Try.func36 Try.call36 (λa0 σ=>by kernel_rfl) rfl rfl
theorem Lb:Sound Try.prog aJ 37 w8:=q1 [] 5 (.s .n bf) (aL.cons zq aL.nil) Try.func37 Try.call37 (λa0 σ=>by kernel_rfl) rfl rfl
theorem TL:Sound Try.prog aJ 47 Gs:=q2 [2,3] 21 (.s .n (.s bL bf)) (aL.cons KY aL.nil) Try.func47 Try.call47 (λa0 a1 σ=>by kernel_rfl) rfl rfl
theorem KP:Sound Try.prog aJ 13 zm:=q2 [2,8,10] 97 (.s .n (.s (.s .n bL) (.s .n (.s (.s .n (.b (.l [4,26] [.exit 0,.ret] (.s .n (.s cC (.s (.b (.s .n (.s (.b (.s .n (.j bf (.s .n (.j bf (.s .n (.j bf bL))))))) (.s .n (.b (.l [4,8,63] [.exit 3,.ret] (.s .n (.s cC (.s (.b (.s .n (.b (.s .n (.j bf (.s .n (.j bf bL))))))) .n))))))))) .n)))))) bf)))) (aL.cons KQ (aL.cons LR (aL.cons Ls (aL.cons LP (aL.cons zq (aL.cons Lq (aL.cons Lb (aL.cons TL aL.nil)))))))) Try.func13 Try.call13 (λa0 a1 σ=>by kernel_rfl) rfl rfl
noncomputable def SL:Fx:=⟨Try.prog,aJ,A.tab (λ_ _=>none) [],(λ_ _ _=>none),[],[],8,[]⟩
theorem SJ:Sound Try.prog aJ 38 (A.wrap true [(.s 3)] .k (A.eP (KL))):=
 Sound.wrap (Sound.Ck (X:=SL) (fn:=Try.f38) (bN:=(.s .n (.s bL bf))) .K trivial (cR.of rfl aL.nil (λ_=>Sound.none)) Try.func38 Try.call38 (λa0 σ=>by kernel_rfl)) _ _ _ rfl rfl
theorem FU:Sound Try.prog aJ 38 p9:=Ug SJ Try.call38 UJ
noncomputable def RN (dyn:Nat→aq→Heap→aB):Fx:=⟨Try.prog,aJ,A.tab (λ_ _=>none) [],dyn,[],[],49,[]⟩
theorem RM(dyn:Nat→aq→Heap→aB)(hd:∀f,Sound Try.prog aJ f (dyn (aJ.getD f 0))):Sound Try.prog aJ 39 (A.wrap true [(.s 3)] .k (A.ke (Dr dyn))):=
 Sound.wrap (Sound.xZ (X:=RN dyn) (fn:=Try.f39) (bN:=(.s .n (.s .n (.s .n (.s (.b (.l [9,10] [.exit 0] (.s (.s .n cC) (.b (.s .n (.s .n (.c [9,10] .n .n))))))) bf))))) .F trivial (cR.of rfl aL.nil (hd)) Try.func39 Try.call39 (λa0 a1 a2 σ=>by kernel_rfl)) _ _ _ rfl rfl
theorem RL(dyn:Nat→aq→Heap→aB)(hd:∀f,Sound Try.prog aJ f (dyn (aJ.getD f 0))):Sound Try.prog aJ 39 (zb dyn):=RM dyn hd
noncomputable def SF:Fx:=⟨Try.prog,aJ,A.tab (λ_ _=>none) [],(λ_ _ _=>none),[],[],28,[]⟩
theorem SD:Sound Try.prog aJ 104 (A.wrap false [] .k (A.eP (KJ))):=
 Sound.wrap (Sound.Ck (X:=SF) (fn:=Try.f104) (bN:=(.s .n (.b (.l [2,3] [.exit 0] (.s (.s .n cC) (.s (.b .n) .n)))))) .K trivial (cR.of rfl aL.nil (λ_=>Sound.none)) Try.func104 Try.call104 (λa0 σ=>by kernel_rfl)) _ _ _ rfl rfl
theorem SB:Sound Try.prog aJ 104 AR:=SD
noncomputable def Sq:Fx:=⟨Try.prog,aJ,A.tab (λ_ _=>none) [(104,AR)],(λ_ _ _=>none),[],[],14,[]⟩
theorem So:Sound Try.prog aJ 87 (A.wrap false [] .k (A.dA (KH))):=
 Sound.wrap (Sound.uN (X:=Sq) (fn:=Try.f87) (bN:=(.s .n bf)) .K trivial (cR.of rfl (aL.cons SB aL.nil) (λ_=>Sound.none)) Try.func87 Try.call87 (λa0 a1 σ=>by kernel_rfl)) _ _ _ rfl rfl
theorem Sm:Sound Try.prog aJ 87 FP:=So
noncomputable def Si:Fx:=⟨Try.prog,aJ,A.tab (λ_ _=>none) [(87,FP)],(λ_ _ _=>none),[],[],10,[]⟩
theorem Sf:Sound Try.prog aJ 72 (A.wrap false [] .k (A.dA (KG))):=
 Sound.wrap (Sound.uN (X:=Si) (fn:=Try.f72) (bN:=.n) .K trivial (cR.of rfl (aL.cons Sm aL.nil) (λ_=>Sound.none)) Try.func72 Try.call72 (λa0 a1 σ=>by kernel_rfl)) _ _ _ rfl rfl
theorem Sd:Sound Try.prog aJ 72 AP:=Sf
noncomputable def SM:Fx:=⟨Try.prog,aJ,A.tab (λ_ _=>none) [(71,n7),(72,AP)],(λ_ _ _=>none),[],[],95,[]⟩
theorem SK:Sound Try.prog aJ 41 (A.wrap false [] .k (A.ke (DA))):=
 Sound.wrap (Sound.xZ (X:=SM) (fn:=Try.f41) (bN:=(.s .n (.s .n (.s .n (.s bL (.s .n (.s bL (.s (.s .n (.j (.s .n (.s .n (.s .n bf))) .n)) (.s .n (.s (.s .n (.j (.s .n (.s .n bf)) .n)) (.s .n (.s .n bf)))))))))))) .R trivial (cR.of rfl (aL.cons Ss (aL.cons Sd aL.nil)) (λ_=>Sound.none)) Try.func41 Try.call41 (λa0 a1 a2 σ=>by kernel_rfl)) _ _ _ rfl rfl
theorem SI:Sound Try.prog aJ 41 zi:=SK
noncomputable def SV:Fx:=⟨Try.prog,aJ,A.tab (λ_ _=>none) [],(λ_ _ _=>none),[],[],27,[]⟩
theorem SS:Sound Try.prog aJ 73 (A.wrap false [] .k (A.dA (w5))):=
 Sound.wrap (Sound.uN (X:=SV) (fn:=Try.f73) (bN:=(.s .n (.s (.s .n (.c [] .n .n)) (.s (.s .n (.s .n (.c [0] .n .n))) bf)))) .K trivial (cR.of rfl aL.nil (λ_=>Sound.none)) Try.func73 Try.call73 (λa0 a1 σ=>by kernel_rfl)) _ _ _ rfl rfl
theorem SQ:Sound Try.prog aJ 73 zk:=SS
theorem KK:Sound Try.prog aJ 42 vF:=q1 [] 36 (.s .n (.s .n (.s (.s .n (.b (.l [3,11] [.exit 0] (.s .n (.s cC (.s (.b (.s .n (.s .n (.s .n (.c [] .n .n))))) .n)))))) (.s .n (.s (.s .n (.b (.l [6,27] [.exit 2] (.s .n (.s cC (.s (.b bf) .n)))))) bf))))) (aL.cons SQ aL.nil) Try.func42 Try.call42 (λa0 σ=>by kernel_rfl) rfl rfl
noncomputable def RJ (dyn:Nat→aq→Heap→aB):Fx:=⟨Try.prog,aJ,A.tab (λ_ _=>none) [],dyn,[],[],53,[]⟩
theorem RH(dyn:Nat→aq→Heap→aB)(hd:∀f,Sound Try.prog aJ f (dyn (aJ.getD f 0))):Sound Try.prog aJ 101 (A.wrap false [] .k (A.yl (Dq dyn))):=
 Sound.wrap (Sound.Qn (X:=RJ dyn) (fn:=Try.f101) (bN:=(.s .n (.b (.l [8] [.exit 0] (.s (.s .n cC) (.s (.b (.s .n (.b (.l [9] [.exit 2] (.s (.s .n cC) (.s (.b .n) .n)))))) .n)))))) .K trivial (cR.of rfl aL.nil (hd)) Try.func101 Try.call101 (λa0 a1 a2 a3 σ=>by kernel_rfl)) _ _ _ rfl rfl
theorem RG(dyn:Nat→aq→Heap→aB)(hd:∀f,Sound Try.prog aJ f (dyn (aJ.getD f 0))):Sound Try.prog aJ 101 (tT dyn):=RH dyn hd
noncomputable def RR:Fx:=⟨Try.prog,aJ,A.tab (λ_ _=>none) [],(λ_ _ _=>none),[],[],38,[]⟩
theorem RQ:Sound Try.prog aJ 122 (A.wrap false [] .k (A.nH (zc))):=
 Sound.wrap (Sound.Fl (X:=RR) (fn:=Try.f122) (bN:=(.s .n (.b (.l [10] [.exit 0] (.s (.s .n cC) (.s (.b .n) .n)))))) .K trivial (cR.of rfl aL.nil (λ_=>Sound.none)) Try.func122 Try.call122 (λa0 a1 a2 a3 a4 σ=>by kernel_rfl)) _ _ _ rfl rfl
theorem RO:Sound Try.prog aJ 122 tU:=RQ
noncomputable def R6:Fx:=⟨Try.prog,aJ,A.tab (λ_ _=>none) [(122,tU)],(λ_ _ _=>none),[],[],58,[]⟩
theorem R4:Sound Try.prog aJ 116 (A.wrap false [] .k (A.nH (zg))):=
 Sound.wrap (Sound.Fl (X:=R6) (fn:=Try.f116) (bN:=(.s .n (.s .n (.s (.b (.l [10,11] [.exit 0] (.s (.s .n cC) (.b (.s .n (.c [10,11] bf bf)))))) .n)))) .K trivial (cR.of rfl (aL.cons RO aL.nil) (λ_=>Sound.none)) Try.func116 Try.call116 (λa0 a1 a2 a3 a4 σ=>by kernel_rfl)) _ _ _ rfl rfl
theorem RZ:Sound Try.prog aJ 116 AM:=R4
noncomputable def RV (rec:Nat→aq→Heap→aB) (dyn:Nat→aq→Heap→aB):Fx:=⟨Try.prog,aJ,A.tab (λ_ _=>none) [(116,AM),(102,rec 106)],dyn,[],[],220,[]⟩
theorem RU(rec:Nat→aq→Heap→aB)(dyn:Nat→aq→Heap→aB)(Jk:∀f,Sound Try.prog aJ f (rec (aJ.getD f 0)))(hd:∀f,Sound Try.prog aJ f (dyn (aJ.getD f 0))):Sound Try.prog aJ 102 (A.wrap false [] .k (A.nH (Ds rec dyn))):=
 Sound.wrap (Sound.Fl (X:=RV rec dyn) (fn:=Try.f102) (bN:=(.s (.s .n (.j (.s .n (.s .n (.s (.b (.l [10,11] [.exit 0] (.s (.s .n cC) (.b (.s .n (.s .n (.c [10,11] .n .n))))))) (.s (.s .n (.b (.l [13] [.exit 2] (.s (.s .n cC) (.s (.b .n) .n))))) .n)))) .n)) (.s (.s .n (.j (.s .n (.s .n (.s (.b (.l [14,15] [.exit 4] (.s (.s .n cC) (.b (.s .n (.s .n (.c [14,15] .n .n))))))) (.s (.s .n (.b (.l [17] [.exit 6] (.s (.s .n cC) (.s (.b .n) .n))))) .n)))) .n)) (.s .n (.s .n (.s .n (.s (.s .n (.c [20,21] bf bf)) (.s .n (.s (.b (.l [20,21] [.exit 8] (.s (.s .n cC) (.b (.s .n (.s .n (.c [20,21] .n .n))))))) (.s .n (.s (.s .n (.c [] .n .n)) (.s (.s .n (.c [] .n .n)) (.s .n (.c [] .n .n)))))))))))))) .K trivial (cR.of rfl (aL.cons RZ (aL.cons (Jk 102) aL.nil)) (hd)) Try.func102 Try.call102 (λa0 a1 a2 a3 a4 σ=>by kernel_rfl)) _ _ _ rfl rfl
theorem RS(dyn:Nat→aq→Heap→aB)(hd:∀f,Sound Try.prog aJ f (dyn (aJ.getD f 0))):∀n f,Sound Try.prog aJ f (fuel (ze dyn) n (aJ.getD f 0)):=
 L6 (λrec Jk=>(kQ.cons (ud (RU rec dyn Jk hd) (by kernel_rfl) rfl) kQ.nil))
theorem RT(dyn:Nat→aq→Heap→aB)(hd:∀f,Sound Try.prog aJ f (dyn (aJ.getD f 0))):Sound Try.prog aJ 102 (sw dyn):=RS dyn hd 2000000 102
noncomputable def R7 (dyn:Nat→aq→Heap→aB):Fx:=⟨Try.prog,aJ,A.tab (λ_ _=>none) [(101,tT dyn),(102,sw dyn)],dyn,[],[],63,[]⟩
theorem R5(dyn:Nat→aq→Heap→aB)(hd:∀f,Sound Try.prog aJ f (dyn (aJ.getD f 0))):Sound Try.prog aJ 84 (A.wrap false [] .k (A.ke (Du dyn))):=
 Sound.wrap (Sound.xZ (X:=R7 dyn) (fn:=Try.f84) (bN:=(.s .n (.s .n (.s (.b (.l [7,8] [.exit 0] (.s (.s .n cC) (.b (.s .n bf))))) (.s .n (.b (.l [6] [.exit 2] (.s (.s .n cC) (.b (.s .n (.s (.b (.l [7,8] [.exit 4] (.s (.s .n cC) (.b (.s .n bf))))) (.s (.s .n (.s .n (.c [] .n .n))) .n)))))))))))) .K trivial (cR.of rfl (aL.cons (RG dyn hd) (aL.cons (RT dyn hd) aL.nil)) (hd)) Try.func84 Try.call84 (λa0 a1 a2 σ=>by kernel_rfl)) _ _ _ rfl rfl
theorem R3(dyn:Nat→aq→Heap→aB)(hd:∀f,Sound Try.prog aJ f (dyn (aJ.getD f 0))):Sound Try.prog aJ 84 (AN dyn):=R5 dyn hd
noncomputable def RY (dyn:Nat→aq→Heap→aB):Fx:=⟨Try.prog,aJ,A.tab (λ_ _=>none) [(84,AN dyn)],dyn,[],[],9,[]⟩
theorem RX(dyn:Nat→aq→Heap→aB)(hd:∀f,Sound Try.prog aJ f (dyn (aJ.getD f 0))):Sound Try.prog aJ 66 (A.wrap false [] .k (A.dA (Dt dyn))):=
 Sound.wrap (Sound.uN (X:=RY dyn) (fn:=Try.f66) (bN:=.n) .K trivial (cR.of rfl (aL.cons (R3 dyn hd) aL.nil) (hd)) Try.func66 Try.call66 (λa0 a1 σ=>by kernel_rfl)) _ _ _ rfl rfl
theorem RW(dyn:Nat→aq→Heap→aB)(hd:∀f,Sound Try.prog aJ f (dyn (aJ.getD f 0))):Sound Try.prog aJ 66 (zf dyn):=RX dyn hd
theorem Tx:Sound Try.prog aJ 68 Gj:=q2 [2,3] 20 (.s .n (.s (.s .n (.j (.s bL bf) .n)) bf)) (aL.cons KY aL.nil) Try.func68 Try.call68 (λa0 a1 σ=>by kernel_rfl) rfl rfl
theorem KX:Sound Try.prog aJ 67 tV:=q2 [2,3] 10 (.s .n bf) (aL.cons Tx aL.nil) Try.func67 Try.call67 (λa0 a1 σ=>by kernel_rfl) rfl rfl
noncomputable def TQ:Fx:=⟨Try.prog,aJ,A.tab (λ_ _=>none) [(38,p9),(66,zf (A.tab (λ_ _=>none) [(147,tV)]))],(A.tab (λ_ _=>none) [(147,tV)]),[6],[],40,[]⟩
theorem TO:Sound Try.prog aJ 33 (A.wrap true [(.s 3)] (.s 3) (A.eP (A8))):=
 Sound.wrap (Sound.Ck (X:=TQ) (fn:=Try.f33) (bN:=(.s .n (.s .n (.s .n (.s .n (.s (.s .n (.b (.l [4,13] [.exit 0] (.s .n (.s cC (.s (.b (.s .n (.s .n (.c [4] .n .n)))) .n)))))) bf)))))) .F trivial (cR.of rfl (aL.cons FU (aL.cons (RW _ (uh (kQ.cons (ud KX (by kernel_rfl) rfl) kQ.nil))) aL.nil)) (uh (kQ.cons (ud KX (by kernel_rfl) rfl) kQ.nil))) Try.func33 Try.call33 (λa0 σ=>by kernel_rfl)) _ _ _ rfl rfl
theorem TM:Sound Try.prog aJ 33 A7:=TO
theorem KW:Sound Try.prog aJ 40 sx:=q2 [2] 9 (.s .n bf) aL.nil Try.func40 Try.call40 (λa0 a1 σ=>by kernel_rfl) rfl rfl
end
section
set_option maxRecDepth 100000
noncomputable def TP:Fx:=⟨Try.prog,aJ,A.tab (λ_ _=>none) [(13,zm),(35,n8),(25,xe),(36,Bc),(22,Bd),(26,Bg),(37,w8),(38,A.oA (.s 3) p9),(39,zb (A.tab (λ_ _=>none) [(113,sx)])),(41,zi),(42,vF),(33,A7)],(A.tab (λ_ _=>none) [(113,sx)]),[6,17,20],[],132,[]⟩
theorem TN:Sound Try.prog aJ 11 (A.wrap true [lI,(.s 3),.k,.k,(.s 3)] (.t [(.e 3 me),.k]) (A.uU (DK))):=
 Sound.wrap (Sound.Js (X:=TP) (fn:=Try.f11) (bN:=(.s .n (.s .n (.s bL (.s .n (.s (.s .n (.b (.l [12,13,48] [.exit 0,.ret] (.s .n (.s cC (.s (.b (.s .n (.s bL bL))) .n)))))) (.s .n (.s (.s .n (.b (.l [18,64] [.exit 2] (.s .n (.s cC (.s (.b (.s .n bf)) .n)))))) (.s .n (.s (.s .n (.c [18] .n .n)) (.s .n (.s (.s .n (.c [3,4] (.s .n (.s .n (.c [3] .n .n))) .n)) (.s .n (.s bL bf)))))))))))))) .F trivial (cR.of rfl (aL.cons KP (aL.cons zq (aL.cons LR (aL.cons Lq (aL.cons Ls (aL.cons LP (aL.cons Lb (aL.cons (Sound.oA FU (.s 3) rfl) (aL.cons (RL _ (uh (kQ.cons (ud KW (by kernel_rfl) rfl) kQ.nil))) (aL.cons SI (aL.cons KK (aL.cons TM aL.nil)))))))))))) (uh (kQ.cons (ud KW (by kernel_rfl) rfl) kQ.nil))) Try.func11 Try.call11 (λa0 a1 a2 a3 a4 a5 σ=>by kernel_rfl)) _ _ _ rfl rfl
theorem TK:Sound Try.prog aJ 11 DJ:=TN
theorem Uv:Sound Try.prog aJ 108 GQ:=q1 [] 34 (.s .n (.s (.s .n (.b (.l [2,7] [.exit 0,.ret] (.s .n (.s cC (.s (.b (.s .n (.s .n bL))) .n)))))) bf)) aL.nil Try.func108 Try.call108 (λa0 σ=>by kernel_rfl) rfl rfl
theorem LN:Sound Try.prog aJ 94 Bf:=q1 [] 20 (.s .n bf) (aL.cons Uv aL.nil) Try.func94 Try.call94 (λa0 σ=>by kernel_rfl) rfl rfl
theorem zB:Sound Try.prog aJ 43 qd:=q3 [] 15 (.s .n bf) aL.nil Try.func43 Try.call43 (λa0 a1 a2 σ=>by kernel_rfl) rfl rfl
theorem GK:Sound Try.prog aJ 45 tY:=q1 [] 5 (.s .n bf) (aL.cons zB aL.nil) Try.func45 Try.call45 (λa0 σ=>by kernel_rfl) rfl rfl
theorem U4:Sound Try.prog aJ 109 DX:=q1 [1] 14 (.s .n (.s bL bf)) aL.nil Try.func109 Try.call109 (λa0 σ=>by kernel_rfl) rfl rfl
theorem S7:Sound Try.prog aJ 64 F5:=q2 [] 19 (.s .n (.s (.s .n (.b (.l [4,8] [.exit 0,.ret] (.s .n (.s cC (.s (.b (.s .n bL)) .n)))))) bf)) aL.nil Try.func64 Try.call64 (λa0 a1 σ=>by kernel_rfl) rfl rfl
theorem S5:Sound Try.prog aJ 31 DB:=q2 [] 9 (.s .n bf) (aL.cons S7 aL.nil) Try.func31 Try.call31 (λa0 a1 σ=>by kernel_rfl) rfl rfl
theorem Tl:Sound Try.prog aJ 95 Gf:=q3 [3,8,10,14,16] 148 (.s .n (.s bL (.s (.s .n (.b (.l [3,6,23] [.exit 0,.ret] (.s .n (.s cC (.s (.b (.s .n bL)) .n)))))) (.s (.b (.s .n (.j bf (.s .n (.j bf bL))))) (.s (.s .n (.b (.l [3,6,65] [.exit 3,.ret] (.s .n (.s cC (.s (.b (.s .n (.s .n (.b (.l [3,6,10,72] [.exit 5,.ret] (.s .n (.s cC (.s (.b (.s .n bL)) .n)))))))) .n)))))) (.s bL (.s (.s .n (.b (.l [3,6,89] [.exit 7,.ret] (.s .n (.s cC (.s (.b (.s .n (.s (.b (.s .n (.j bf (.s .n (.j bf bL))))) (.s .n (.b (.l [3,6,14,137] [.exit 10,.ret] (.s .n (.s cC (.s (.b (.s .n bL)) .n))))))))) .n)))))) bf))))))) (aL.cons LN (aL.cons zB (aL.cons GK (aL.cons U4 (aL.cons S5 aL.nil))))) Try.func95 Try.call95 (λa0 a1 a2 σ=>by kernel_rfl) rfl rfl
theorem Tb:Sound Try.prog aJ 81 F9:=q1 [1,4] 46 (.s .n (.s (.b (.s .n (.j bf (.s .n (.j bf (.s .n (.j bf bL))))))) (.s (.s .n (.b (.l [1,2,29] [.exit 1,.ret] (.s .n (.s cC (.s (.b (.s .n (.s .n bL))) .n)))))) bf))) (aL.cons LN (aL.cons zB (aL.cons Tl aL.nil))) Try.func81 Try.call81 (λa0 σ=>by kernel_rfl) rfl rfl
theorem Ta:Sound Try.prog aJ 59 F8:=q1 [4,7] 38 (.s .n (.s bL (.s (.s .n (.b (.l [2,13] [.exit 0,.ret] (.s .n (.s cC (.s (.b (.s .n (.s (.s .n bL) (.s .n (.b (.l [2,4,27] [.exit 2,.ret] (.s .n (.s cC (.s (.b (.s .n bL)) .n))))))))) .n)))))) bf))) (aL.cons Tb aL.nil) Try.func59 Try.call59 (λa0 σ=>by kernel_rfl) rfl rfl
theorem GL:Sound Try.prog aJ 60 Bb:=q2 [4,7] 21 (.s .n (.s (.s .n (.b (.l [4,5,10] [.exit 0,.ret] (.s .n (.s cC (.s (.b (.s .n bL)) .n)))))) bf)) aL.nil Try.func60 Try.call60 (λa0 a1 σ=>by kernel_rfl) rfl rfl
theorem VR:Sound Try.prog aJ 61 Bn:=q2 [2,3,5] 21 (.s .n (.s .n bf)) (aL.cons GL aL.nil) Try.func61 Try.call61 (λa0 a1 σ=>by kernel_rfl) rfl rfl
theorem TI:Sound Try.prog aJ 28 Gp:=q1 [1,5,6,9] 108 (.s .n (.s (.s .n bL) (.s bL (.s (.s .n (.b (.l [1,2,23] [.exit 0,.ret] (.s .n (.s cC (.s (.b (.s .n (.s .n (.s (.b (.s .n (.j bf (.s .n (.j bf (.s .n (.j bf bL))))))) (.s .n (.b (.l [1,2,5,81] [.exit 3,.ret] (.s .n (.s cC (.s (.b (.s .n bL)) .n)))))))))) .n)))))) bf)))) (aL.cons Ta (aL.cons GL (aL.cons zB (aL.cons VR aL.nil)))) Try.func28 Try.call28 (λa0 σ=>by kernel_rfl) rfl rfl
theorem Lo:Sound Try.prog aJ 44 Ba:=q1 [] 40 (.s .n (.s bL (.s (.s .n (.b (.l [2,26] [.exit 0,.ret] (.s .n (.s cC (.s (.b (.s .n bL)) .n)))))) bf))) aL.nil Try.func44 Try.call44 (λa0 σ=>by kernel_rfl) rfl rfl
theorem VS:Sound Try.prog aJ 62 Hr:=q2 [2,6] 21 (.s .n (.s (.s .n (.b (.l [4,10] [.exit 0,.ret] (.s .n (.s cC (.s (.b (.s .n bL)) .n)))))) bf)) aL.nil Try.func62 Try.call62 (λa0 a1 σ=>by kernel_rfl) rfl rfl
theorem U3:Sound Try.prog aJ 63 G9:=q2 [2,4,7] 22 (.s .n (.s (.s .n (.b (.l [4,5,11] [.exit 0,.ret] (.s .n (.s cC (.s (.b (.s .n bL)) .n)))))) bf)) aL.nil Try.func63 Try.call63 (λa0 a1 σ=>by kernel_rfl) rfl rfl
theorem Lp:Sound Try.prog aJ 30 zw:=q2 [2,3,4,7] 34 (.s .n (.s .n (.s bL (.s .n bf)))) (aL.cons VS (aL.cons GL (aL.cons U3 aL.nil))) Try.func30 Try.call30 (λa0 a1 σ=>by kernel_rfl) rfl rfl
theorem LO:Sound Try.prog aJ 48 vG:=q2 [2,3] 24 (.s .n bf) aL.nil Try.func48 Try.call48 (λa0 a1 σ=>by kernel_rfl) rfl rfl
theorem KT:Sound Try.prog aJ 14 AY:=q2 [2,7,9,10] 99 (.s .n (.s (.s .n bL) (.s bL (.s (.s .n (.b (.l [2,4,22] [.exit 0,.ret] (.s .n (.s cC (.s (.b (.s .n (.s (.b (.s .n (.j bf (.s .n (.j bf (.s .n (.j bf bL))))))) (.s .n (.b (.l [2,4,7,64] [.exit 3,.ret] (.s .n (.s cC (.s (.b (.s .n (.s (.s .n bL) (.s bL bL)))) .n))))))))) .n)))))) bf)))) (aL.cons TI (aL.cons zB (aL.cons Lo (aL.cons Lp (aL.cons GK (aL.cons LO aL.nil)))))) Try.func14 Try.call14 (λa0 a1 σ=>by kernel_rfl) rfl rfl
theorem TJ:Sound Try.prog aJ 46 Gq:=q2 [4,7] 21 (.s .n (.s (.s .n (.b (.l [4,5,10] [.exit 0,.ret] (.s .n (.s cC (.s (.b (.s .n bL)) .n)))))) bf)) aL.nil Try.func46 Try.call46 (λa0 a1 σ=>by kernel_rfl) rfl rfl
noncomputable def Sz:Fx:=⟨Try.prog,aJ,A.tab (λ_ _=>none) [],(λ_ _ _=>none),[],[],28,[]⟩
theorem Sy:Sound Try.prog aJ 117 (A.wrap false [] .k (A.eP (KI))):=
 Sound.wrap (Sound.Ck (X:=Sz) (fn:=Try.f117) (bN:=(.s .n (.b (.l [2,3] [.exit 0] (.s (.s .n cC) (.s (.b .n) .n)))))) .K trivial (cR.of rfl aL.nil (λ_=>Sound.none)) Try.func117 Try.call117 (λa0 σ=>by kernel_rfl)) _ _ _ rfl rfl
theorem Sw:Sound Try.prog aJ 117 AQ:=Sy
noncomputable def Sg:Fx:=⟨Try.prog,aJ,A.tab (λ_ _=>none) [(117,AQ)],(λ_ _ _=>none),[],[],14,[]⟩
theorem Se:Sound Try.prog aJ 103 (A.wrap false [] .k (A.dA (KF))):=
 Sound.wrap (Sound.uN (X:=Sg) (fn:=Try.f103) (bN:=(.s .n bf)) .K trivial (cR.of rfl (aL.cons Sw aL.nil) (λ_=>Sound.none)) Try.func103 Try.call103 (λa0 a1 σ=>by kernel_rfl)) _ _ _ rfl rfl
theorem Sc:Sound Try.prog aJ 103 FO:=Se
noncomputable def Sb:Fx:=⟨Try.prog,aJ,A.tab (λ_ _=>none) [(103,FO)],(λ_ _ _=>none),[],[],10,[]⟩
theorem Sa:Sound Try.prog aJ 86 (A.wrap false [] .k (A.dA (KE))):=
 Sound.wrap (Sound.uN (X:=Sb) (fn:=Try.f86) (bN:=.n) .K trivial (cR.of rfl (aL.cons Sc aL.nil) (λ_=>Sound.none)) Try.func86 Try.call86 (λa0 a1 σ=>by kernel_rfl)) _ _ _ rfl rfl
theorem R9:Sound Try.prog aJ 86 AO:=Sa
noncomputable def SE:Fx:=⟨Try.prog,aJ,A.tab (λ_ _=>none) [(85,n7),(86,AO)],(λ_ _ _=>none),[],[],95,[]⟩
theorem SC:Sound Try.prog aJ 69 (A.wrap false [] .k (A.ke (Dz))):=
 Sound.wrap (Sound.xZ (X:=SE) (fn:=Try.f69) (bN:=(.s .n (.s .n (.s .n (.s bL (.s .n (.s bL (.s (.s .n (.j (.s .n (.s .n (.s .n bf))) .n)) (.s .n (.s (.s .n (.j (.s .n (.s .n bf)) .n)) (.s .n (.s .n bf)))))))))))) .R trivial (cR.of rfl (aL.cons Sk (aL.cons R9 aL.nil)) (λ_=>Sound.none)) Try.func69 Try.call69 (λa0 a1 a2 σ=>by kernel_rfl)) _ _ _ rfl rfl
theorem SA:Sound Try.prog aJ 69 zh:=SC
theorem Ux:Sound Try.prog aJ 34 DQ:=q1 [5] 54 (.s .n (.s .n (.s (.s .n (.b (.l [3,9] [.exit 0] (.s .n (.s cC (.s (.b (.s .n (.s .n (.s (.b (.l [5,6] [.exit 2] (.s (.s .n cC) (.b .n)))) (.s .n (.c [3] .n .n)))))) .n)))))) bf))) (aL.cons LO (aL.cons SA aL.nil)) Try.func34 Try.call34 (λa0 σ=>by kernel_rfl) rfl rfl
theorem Uw:Sound Try.prog aJ 12 DP:=q6 [6,16,17,19,21,25] 144 (.s .n (.s (.s .n bL) (.s (.b (.s .n (.j bf (.s .n (.j bf bL))))) (.s (.s .n (.b (.l [6,12,13,50] [.exit 1,.ret] (.s .n (.s cC (.s (.b (.s .n (.s (.s .n bL) bL))) .n)))))) (.s .n (.s .n (.s (.s .n (.c [4,21] (.s (.s .n (.c [19,21] .n .n)) .n) .n)) (.s .n (.s .n (.s .n (.s (.s .n (.b (.l [21,22,23,96] [.exit 3] (.s .n (.s cC (.s (.b (.s .n (.s (.s .n (.c [21,22,23,25] .n .n)) (.s .n (.c [21,22] .n .n))))) .n)))))) (.s (.s .n (.c [21,22] .n .n)) (.s bL bf))))))))))))) (aL.cons KT (aL.cons zB (aL.cons Lo (aL.cons Lp (aL.cons GK (aL.cons TJ (aL.cons KK (aL.cons Ux (aL.cons (Sound.oA FU (.s 3) rfl) aL.nil))))))))) Try.func12 Try.call12 (λa0 a1 a2 a3 a4 a5 σ=>by kernel_rfl) rfl rfl
noncomputable def Sv (dyn:Nat→aq→Heap→aB):Fx:=⟨Try.prog,aJ,A.tab (λ_ _=>none) [],dyn,[8,9],[],32,[]⟩
theorem Su(dyn:Nat→aq→Heap→aB)(hd:∀f,Sound Try.prog aJ f (dyn (aJ.getD f 0))):Sound Try.prog aJ 15 (A.wrap true [(.s 3),(.s 3)] .k (A.ke (Dy dyn))):=
 Sound.wrap (Sound.xZ (X:=Sv dyn) (fn:=Try.f15) (bN:=(.s .n (.s bL (.s (.s .n (.b (.l [6,17] [.exit 0,.ret] (.s .n (.s cC (.s (.b (.s .n (.s .n bL))) .n)))))) bf)))) .F trivial (cR.of rfl aL.nil (hd)) Try.func15 Try.call15 (λa0 a1 a2 σ=>by kernel_rfl)) _ _ _ rfl rfl
theorem Sr(dyn:Nat→aq→Heap→aB)(hd:∀f,Sound Try.prog aJ f (dyn (aJ.getD f 0))):Sound Try.prog aJ 15 (Dx dyn):=Su dyn hd
theorem SH:Sound Try.prog aJ 8 FR:=q2 [] 26 (.s .n (.s bL (.s (.s .n (.b (.l [4,13] [.exit 0,.ret] (.s .n (.s cC (.s (.b (.s .n bL)) .n)))))) bf))) aL.nil Try.func8 Try.call8 (λa0 a1 σ=>by kernel_rfl) rfl rfl
theorem K7:Sound Try.prog aJ 16 tX:=q2 [2,3] 24 (.s .n bf) (aL.cons SH aL.nil) Try.func16 Try.call16 (λa0 a1 σ=>by kernel_rfl) rfl rfl
noncomputable def SU:Fx:=⟨Try.prog,aJ,A.tab (λ_ _=>none) [(11,DJ),(12,DP),(13,zm),(14,AY),(15,Dx (A.tab (λ_ _=>none) [(118,tX)]))],(A.tab (λ_ _=>none) [(118,tX)]),[6],[],54,[]⟩
theorem SR:Sound Try.prog aJ 4 (A.wrap true [lI,(.s 3),.k,.k,(.s 3)] .k (A.uU (FV))):=
 Sound.wrap (Sound.Js (X:=SU) (fn:=Try.f4) (bN:=(.s .n (.s .n (.s .n bf)))) .F trivial (cR.of rfl (aL.cons TK (aL.cons Uw (aL.cons KP (aL.cons KT (aL.cons (Sr _ (uh (kQ.cons (ud K7 (by kernel_rfl) rfl) kQ.nil))) aL.nil))))) (uh (kQ.cons (ud K7 (by kernel_rfl) rfl) kQ.nil))) Try.func4 Try.call4 (λa0 a1 a2 a3 a4 a5 σ=>by kernel_rfl)) _ _ _ rfl rfl
theorem SP:Sound Try.prog aJ 4 KM:=SR
end
section
theorem bq(s t:ByteArray):(s==t)=decide (s=t):=by obtain⟨a⟩:=s;obtain⟨b⟩:=t;show(a==b)=_;rw[kO];simp
section
variable {α β : Type}
theorem cT(t e:Option α):A.cond (.bool true) t e=t:=rfl
theorem cF(t e:Option α):A.cond (.bool false) t e=e:=rfl
theorem QI(e d:Option α):A.guard (.bool true) true e d=e:=rfl
theorem QH(e d:Option α):A.guard (.bool true) false e d=d:=rfl
theorem QG(e d:Option α):A.guard (.bool false) true e d=d:=rfl
theorem QF(e d:Option α):A.guard (.bool false) false e d=e:=rfl
theorem pT(x y:AV):A.pick (.bool true) x y=some x:=rfl
theorem pF(x y:AV):A.pick (.bool false) x y=some y:=rfl
theorem iS{p:Prop}[Decidable p]{w:Bool}{e d:Option α}{f:α→Option β}:(A.guard (.bool (decide p)) w e d).bind f=if p then(A.guard (.bool true) w e d).bind f else(A.guard (.bool false) w e d).bind f:=by by_cases h:p<;>simp [h]
theorem iR{b w:Bool}{e d:Option α}{f:α→Option β}:(A.guard (.bool b) w e d).bind f=match b with|true=>(A.guard (.bool true) w e d).bind f|false=>(A.guard (.bool false) w e d).bind f:=by cases b<;>rfl
theorem iP{p:Prop}[Decidable p]{t e:Option α}:A.cond (.bool (decide p)) t e=if p then t else e:=by by_cases h:p<;>simp [h,A.cond]
theorem iL{p:Prop}[Decidable p]{t e:Option α}:A.cond (.bool (!decide p)) t e=if p then e else t:=by by_cases h:p<;>simp [h,A.cond]
theorem iO{b:Bool}{t e:Option α}:A.cond (.bool (!b)) t e=match b with|true=>e|false=>t:=by cases b<;>rfl
theorem iN{b:Bool}{t e:Option α}:A.cond (.bool b) t e=match b with|true=>t|false=>e:=by cases b<;>rfl
theorem gN(w:Bool)(e d:Option α):A.guard (.aD []) w e d=d:=rfl
theorem xN(a b:AX):(a==b)=decide (a=b):=by rw[kO];simp
end
section
variable (k : IntKind) (a b : Int) (p q : Prop) [Decidable p] [Decidable q] (s t : ByteArray) (x y : AV) (σ : Heap) (cs : aq)
theorem Ak:A.add (.aj a) (.aj b)=some (.aj (IntKind.i64.wrap (a+b))):=rfl
theorem Al:A.sub (.aj a) (.aj b)=some (.aj (IntKind.i64.wrap (a-b))):=rfl
theorem Fb:A.mul (.aj a) (.aj b)=some (.aj (IntKind.i64.wrap (a*b))):=rfl
theorem qY:A.lss (.aj a) (.aj b)=some (.bool (decide (a<b))):=rfl
theorem I4:A.leq (.aj a) (.aj b)=some (.bool (decide (a≤b))):=rfl
theorem we:A.gtr (.aj a) (.aj b)=some (.bool (decide (b<a))):=rfl
theorem Fa:A.geq (.aj a) (.aj b)=some (.bool (decide (b≤a))):=rfl
theorem Pm:A.lss (.int .u8 a) (.int .u8 b)=some (.bool (decide (a<b))):=rfl
theorem Pk:A.leq (.int .u8 a) (.int .u8 b)=some (.bool (decide (a≤b))):=rfl
theorem Ph:A.gtr (.int .u8 a) (.int .u8 b)=some (.bool (decide (b<a))):=rfl
theorem Pg:A.geq (.int .u8 a) (.int .u8 b)=some (.bool (decide (b≤a))):=rfl
theorem rE:A.eql .i (.int k a) (.int k b)=some (.bool (decide (a=b))):=by simp only[A.eql,A.dO,A.lQ,if_true,eO];congr 2
theorem rF:A.neq .i (.int k a) (.int k b)=some (.bool (decide (¬a=b))):=by simp only[A.neq,A.dO,A.lQ,if_true,eO];congr 2;rw[kO];simp
theorem BX:A.eql .z (.str s) (.str t)=some (.bool (decide (s=t))):=by simp only[A.eql,A.dO,A.mV,eO,bq]
theorem Fc:A.neq .z (.str s) (.str t)=some (.bool (decide (¬s=t))):=by simp only[A.neq,A.dO,A.mV,eO,bq];simp
theorem PN(b:Bool):A.not (.bool b)=some (.bool (!b)):=rfl
theorem Pn:A.not (.bool (decide p))=some (.bool (decide (¬p))):=by simp [A.not]
theorem Qx:A.lb (.lbx cs)=some cs:=rfl
theorem Pc(l:aq):A.ext 0 (.aD (x::l))=some x:=rfl
theorem Pd(x0 x:AV)(l:aq):A.ext 1 (.aD (x0::x::l))=some x:=rfl
theorem Pe(x0 x1 x:AV)(l:aq):A.ext 2 (.aD (x0::x1::x::l))=some x:=rfl
theorem Pf(x0 x1 x2 x:AV)(l:aq):A.ext 3 (.aD (x0::x1::x2::x::l))=some x:=rfl
theorem Qv:A.deref (.rp cs) σ=some cs:=rfl
theorem Qw(o:Nat):A.eG o (.rp cs)=some (.rp (cs.drop o)):=rfl
theorem Pj:A.pg (.str s)=some (.aj s.size):=rfl
theorem Qt(n:Int):A.cell (.int k n)=some (.int k n):=rfl
theorem Qs(b:Bool):A.cell (.bool b)=some (.bool b):=rfl
theorem Qu:A.cell (.str s)=some (.str s):=rfl
theorem PL(sz:Nat)(es:List aq):A.cell (.sl sz es)=some (.sl sz es):=rfl
theorem Kg(o k:Nat):A.ay o (cs.drop k)=A.ay (k+o) cs:=by simp [A.ay,List.getElem?_drop]
end
theorem QJ(a d:AV)(l:aq):(a::l).getD 0 d=a:=rfl
theorem QK(a b d:AV)(l:aq):(b::a::l).getD 1 d=a:=rfl
theorem QL(a b c d:AV)(l:aq):(b::c::a::l).getD 2 d=a:=rfl
theorem QM(a b c e d:AV)(l:aq):(b::c::e::a::l).getD 3 d=a:=rfl
theorem QN(a b c e f d:AV)(l:aq):(b::c::e::f::a::l).getD 4 d=a:=rfl
theorem QO(a b c e f g d:AV)(l:aq):(b::c::e::f::g::a::l).getD 5 d=a:=rfl
theorem QS(a b c e f g h d:AV)(l:aq):(b::c::e::f::g::h::a::l).getD 6 d=a:=rfl
theorem QT(a b c e f g h i d:AV)(l:aq):(b::c::e::f::g::h::i::a::l).getD 7 d=a:=rfl
theorem QU(a b c e f g h i j d:AV)(l:aq):(b::c::e::f::g::h::i::j::a::l).getD 8 d=a:=rfl
theorem cW{n:Int}(h:bp n):IntKind.i64.wrap n=n:=IntWalk.i64_in n h
theorem wrap_eq{ro:Bool}{dB:List Sh}{dM:Sh}{r:aq→Heap→aB}{args:aq}{σ σ':Heap}{v v':AV}(h:args.any A.own=false)(e:r (A.cj dB args) σ=some (v,σ'))(hv:A.nn dM v=v'):A.wrap ro dB dM r args σ=some (v',σ'):=by unfold A.wrap;rw[h,Bool.and_false,aV,e];simp [hv]
theorem G3{v:AV}(n:Nat)(h:A.o7 v=true):A.fresh v=true∧A.shift n v=v:=by cases v<;>first|exact⟨h,rfl⟩|cases h
theorem Mk{v:AV}(n:Nat)(h:A.yc v=true):A.uj v=true∧A.sW n v=v:=by
 have key:(∀vs,v≠.aD vs)→A.uj v=true∧A.sW n v=v:=by intro k;have:=G3 (v:=v) n;cases v<;>first|exact absurd rfl (k _)|exact this h
 by_cases ht:∃vs,v=.aD vs
 ·obtain⟨vs,rfl⟩:=ht;simp only[A.yc,ow]at h;refine⟨by simp only[A.uj,ow];exact λx hx=>(G3 n (h x hx)).1,?_⟩;simp only[A.sW];congr 1
  calc vs.map (A.shift n)=vs.map id:=List.map_congr_left λx hx=>(G3 n (h x hx)).2
   _=vs:=List.map_id vs
 ·exact key λvs e=>ht ⟨vs,e⟩
theorem NL{dB:List Sh}{dM:Sh}{r:aq→Heap→aB}{args args':aq}{σ:Heap}{v:AV}(h:args.any A.own=true)(hz:A.dr σ 0 8 args=some args')(ho:args'.any A.own=false)(e:A.wrap true dB dM r args' []=some (v,[]))(hs:A.yc v=true):A.wrap true dB dM r args σ=some (v,σ):=by unfold A.wrap at e ⊢;rw[ho,Bool.and_false,aV]at e;obtain⟨⟨q1,q2⟩,e1,e2⟩:=cI.1 e;simp only[Prod.mk.injEq]at e2;obtain⟨rfl,rfl⟩:=e2;rw[h,Bool.and_self,bA,hz];simp [e1,(Mk σ.length hs).1,(Mk σ.length hs).2]
theorem ep(σ:Heap)(r:AV):A.fin σ r σ=some (r,σ):=by simp [A.fin]
theorem ME(σ:Heap)(n d:Nat){a:AV}(h:A.qp a=true):A.bM σ n d a=some a:=by
 cases a<;>simp only[A.qp]at h<;>first|(cases h;done)|skip
 case sl sz es=>cases es with
  |nil=>cases d<;>simp [A.bM,A.iK]
  |cons _ _=>simp at h
 all_goals cases d<;>simp [A.bM]
theorem L4(σ:Heap)(n d:Nat):∀{l:aq},l.all A.qp=true→A.dr σ n d l=some l
 |[],_=>by simp [A.dr]
 |a::l,h=>by simp only[List.all_cons,eN]at h;simp [A.dr,ME σ n d h.1,L4 σ n d h.2]
theorem MF(σ:Heap)(n d:Nat){a:AV}(h:A.o7 a=true):A.bM σ n d a=some a:=by
 unfold A.o7 at h;split at h
 ·cases d<;>simp [A.bM,L4 σ n _ h]
 ·exact ME σ n d h
theorem L5(σ:Heap)(n d:Nat):∀{l:aq},l.all A.o7=true→A.dr σ n d l=some l
 |[],_=>by simp [A.dr]
 |a::l,h=>by simp only[List.all_cons,eN]at h;simp [A.dr,MF σ n d h.1,L5 σ n d h.2]
theorem Wf(σ:Heap)(n d:Nat){a:AV}(h:A.yc a=true):A.bM σ n d a=some a:=by
 unfold A.yc at h;split at h
 ·cases d<;>simp [A.bM,L5 σ n _ h]
 ·exact MF σ n d h
theorem El(σ bs:Heap){r:AV}(h:A.yc r=true):A.fin σ r (σ++bs)=some (r,σ):=by
 unfold A.fin;split
 ·rfl
 ·rw[aP (by simp),Wf _ _ _ h];rfl
theorem H7(σ bs:Heap)(k:IntKind)(n:Int):A.fin σ (.int k n) (σ++bs)=some (.int k n,σ):=El σ bs rfl
theorem Nk(σ bs:Heap)(b:Bool):A.fin σ (.bool b) (σ++bs)=some (.bool b,σ):=El σ bs rfl
theorem NU(σ bs:Heap)(s:ByteArray):A.fin σ (.str s) (σ++bs)=some (.str s,σ):=El σ bs rfl
theorem Nl(σ bs:Heap):A.fin σ (.aD []) (σ++bs)=some (.aD [],σ):=El σ bs rfl
theorem Fv(σ bs:Heap)(j:Nat):(σ++bs)[σ.length+j]? =bs[j]? :=by rw[fD (by omega)];congr 1;omega
theorem Am(σ bs:Heap):(σ++bs)[σ.length]? =bs[0]? :=by rw[fD (bU _),Nat.sub_self]
theorem nB(σ bs:Heap)(j:Nat)(b:bu):(σ++bs).set (σ.length+j) b=σ++bs.set j b:=by rw[qt _ _ (by omega)];congr 2;omega
theorem IS(σ bs:Heap)(b:bu):(σ++bs).set σ.length b=σ++bs.set 0 b:=by rw[qt _ _ (bU _),Nat.sub_self]
section
variable {α : Type} (sz : Nat) (c : α → aq) (l : List α)
theorem iy:A.aY (sl sz c l)=some (.aj l.length):=by simp [sl,A.aY]
theorem gJ{k:Nat}{x:α}(h:l[k]? =some x):A.aK sz (sl sz c l) (.aj (k:Int))=some (.rp (c x)):=by have hk:k<l.length:=(cq.1 h).1;have hx:l[k]=x:=(cq.1 h).2;simp [A.aK,sl,A.idx,hk,hx]
theorem VA{i:Int}{x:α}(h0:0≤i)(h:l[i.toNat]? =some x):A.aK sz (sl sz c l) (.aj i)=some (.rp (c x)):=by have:=gJ sz c l h;rwa[Int.toNat_of_nonneg h0]at this
end
inductive Rd (S R : Type) where
 |go(s:S)
 |out(r:R)
def Rd.el{S R γ:Type}(x:Rd S R)(f:S→γ)(g:R→γ):γ:=match x with|.go s=>f s|.out r=>g r
theorem ql{S R γ:Type}(s:S)(f:S→γ)(g:R→γ):(Rd.go s:Rd S R).el f g=f s:=rfl
theorem qi{S R γ:Type}(r:R)(f:S→γ)(g:R→γ):(Rd.out r:Rd S R).el f g=g r:=rfl
theorem sP{S R γ:Type}{p:Prop}[Decidable p](x y:Rd S R)(f:S→γ)(g:R→γ):(if p then x else y).el f g=if p then x.el f g else y.el f g:=by split<;>rfl
def fW{α S R:Type}(body:List α→α→S→Rd S R):List α→List α→S→Rd S R
 |_,[],s=>.go s
 |pre,x::l,s=>match body pre x s with|.go s'=>fW body (pre++[x]) l s'|.out r=>.out r
theorem VC{f:aq→Heap→Option (AX×aq×Heap)}{v:aq}{σ:Heap}:∀{n m:Nat}{r r':AX×aq×Heap},A.iter f n v σ=some r→A.iter f m v σ=some r'→r=r':=by
 intro n;induction n generalizing v σ with
 |zero=>intro m r r' h;cases h
 |succ n ih=>
  intro m r r' h1 h2;cases m with
  |zero=>cases h2
  |succ m=>
   simp only[A.iter]at h1 h2;cases hf:f v σ with
   |none=>rw[hf]at h1;cases h1
   |some q=>
    rw[hf]at h1 h2;simp only[aM]at h1 h2;obtain⟨e,v',σ'⟩:=q;cases e with
    |normal=>exact ih h1 h2
    |exit i=>simp only at h1 h2;rw[h1]at h2;injection h2
    |ret=>simp only at h1 h2;rw[h1]at h2;injection h2
theorem w9{f:aq→Heap→Option (AX×aq×Heap)}{v:aq}{σ:Heap}{n:Nat}{r:AX×aq×Heap}(h:A.iter f n v σ=some r):A.loop f v σ=some r:=by
 have hex:∃n r,A.iter f n v σ=some r:=⟨n,r,h⟩
 unfold A.loop;rw[dif_pos hex];exact congrArg some (VC (Classical.choose_spec (Classical.choose_spec hex)) h)
theorem zG{f:aq→Heap→Option (AX×aq×Heap)}{v v':aq}{σ σ':Heap}{r:AX×aq×Heap}(h:f v σ=some (.normal,v',σ'))(k:∃n,A.iter f n v' σ'=some r):∃n,A.iter f n v σ=some r:=by obtain⟨n,k⟩:=k;exact⟨n+1,by simp [A.iter,h,k]⟩
theorem qh{f:aq→Heap→Option (AX×aq×Heap)}{v:aq}{σ:Heap}{r:AX×aq×Heap}(h:f v σ=some r)(hr:r.1≠.normal):∃n,A.iter f n v σ=some r:=by obtain⟨e,v',σ'⟩:=r;refine⟨1,?_⟩;cases e<;>first|(simp [A.iter,h];done)|exact absurd rfl hr
theorem kC{α S R γ:Type}{f:aq→Heap→Option (AX×aq×Heap)}(l:List α)(body:List α→α→S→Rd S R)(st:List α→S→aq)(hp:List α→S→Heap)
  (fin:S→AX×aq×Heap) (out:List α→S→R→AX×aq×Heap) (P:List α→S→Prop) (s0:S) {k:AX×aq×Heap→Option γ} (K1:S→Option γ) (K2:R→Option γ)
  (hstep:∀pre x rest s,l=pre++x::rest→P pre s→f (st pre s) (hp pre s)=some ((body pre x s).el (λs'=>(.normal,st (pre++[x]) s',hp (pre++[x]) s')) (λr=>out pre s r)))
  (hend:∀s,P l s→f (st l s) (hp l s)=some (fin s)) (h0:P [] s0)
  (hP:∀pre x rest s s',l=pre++x::rest→P pre s→body pre x s=.go s'→P (pre++[x]) s')
  (hk1:∀s,P l s→k (fin s)=K1 s) (hk2:∀pre x rest s r,l=pre++x::rest→P pre s→body pre x s=.out r→k (out pre s r)=K2 r)
  (xQ:∀s,(fin s).1≠.normal:=by intros;simp) (hout:∀pre s r,(out pre s r).1≠.normal:=by intros;simp) {v:aq} {σ:Heap} (hv:v=st [] s0:=by rfl) (dH:σ=hp [] s0:=by rfl):
  (A.loop f v σ).bind k=(fW body [] l s0).el K1 K2:=by
 have key:∀(rest pre:List α)(s:S),l=pre++rest→P pre s→∃q,(∃n,A.iter f n (st pre s) (hp pre s)=some q)∧k q=(fW body pre rest s).el K1 K2:=by
  intro rest;induction rest with
  |nil=>intro pre s hl hp';rw[List.append_nil]at hl;subst hl;exact⟨fin s,qh (hend s hp') (xQ s),by rw[fW,ql,hk1 s hp']⟩
  |cons x rest ih=>
   intro pre s hl hp';have h:=hstep pre x rest s hl hp';rw[fW];cases hb:body pre x s with
   |go s'=>rw[hb]at h;obtain⟨q,h1,h2⟩:=ih (pre++[x]) s' (by simpa using hl) (hP pre x rest s s' hl hp' hb);exact⟨q,zG h h1,h2⟩
   |out r=>rw[hb]at h;exact⟨out pre s r,qh h (hout pre s r),by rw[qi,hk2 pre x rest s r hl hp' hb]⟩
 obtain⟨q,⟨n,h1⟩,h2⟩:=key l [] s0 rfl h0;rw[hv,dH,w9 h1,aM,h2]
theorem vI{α:Type}{body:List α→α→Unit→Rd Unit Int}{mz:List α→List α→Int}(h0:∀pre,mz pre []=0)(h:∀pre x rest,mz pre (x::rest)=(body pre x ()).el (λ_=>mz (pre++[x]) rest) (λr=>r)) {γ:Type} (K:Int→γ):
  ∀(l pre:List α),(fW body pre l ()).el (λ_=>K 0) K=K (mz pre l)
 |[],pre=>by rw[fW,h0];rfl
 |x::l,pre=>by
  rw[fW,h];cases body pre x ()with
  |go s=>exact vI h0 h K l (pre++[x])
  |out r=>rfl
theorem kH{α:Type}{l pre rest:List α}{x:α}(h:l=pre++x::rest):l[pre.length]? =some x:=by rw[h];simp
theorem mL{α:Type}{l pre rest:List α}{x:α}(h:l=pre++x::rest):pre.length<l.length:=by rw[h];simp
theorem HM{α:Type}{l pre rest:List α}{x:α}(h:l=pre++x::rest)(h0:0<pre.length):∃y,pre.getLast? =some y∧l[pre.length-1]? =some y:=by
 cases hp:pre.getLast? with
 |none=>rw[List.getLast?_eq_none_iff]at hp;subst hp;simp at h0
 |some y=>refine⟨y,rfl,?_⟩;rw[h,fH (by omega),←hp,List.getLast?_eq_getElem?]
theorem Ec{γ:Type}{p:UInt8→Bool}{f:aq→Heap→Option (AX×aq×Heap)}(s:ByteArray){σ:Heap}{k:AX×aq×Heap→Option γ}(K2:Option γ)
  (hstep:∀(i:Nat)(c:UInt8),i<s.size→A.jA (.str s) (.aj (i:Int))=some (.int .u8 c.toNat)→f [.bool false,.aj (i:Int)] σ=if p c=true then some (.normal,[.bool false,.aj ((i:Int)+1)],σ)else some (.ret,[.bool false,.aj (i:Int)],σ))
  (hend:f [.bool false,.aj (s.size:Int)] σ=some (.exit 0,[.bool false,.aj (s.size:Int)],σ)) (hk2:∀i:Int,k (.ret,[.bool false,.aj i],σ)=K2):
  (A.loop f [.bool false,.aj 0] σ).bind k=if s.data.toList.all p=true then k (.exit 0,[.bool false,.aj (s.size:Int)],σ)else K2:=by
 have hsz:s.data.toList.length=s.size:=rfl
 refine(kC (S:=Unit) (R:=Unit) s.data.toList (λ_ c _=>if p c=true then .go ()else .out ()) (λpre _=>[.bool false,.aj (pre.length:Int)]) (λ_ _=>σ) (λ_=>(.exit 0,[.bool false,.aj (s.size:Int)],σ)) (λpre _ _=>(.ret,[.bool false,.aj (pre.length:Int)],σ)) (λ_ _=>True) ()
  (λ_=>k (.exit 0,[.bool false,.aj (s.size:Int)],σ)) (λ_=>K2) ?_ ?_ trivial (λ_ _ _ _ _ _ _ _=>trivial) (λ_ _=>rfl) (λ_ _ _ _ _ _ _ _=>hk2 _)).trans ?_
 ·intro pre c rest u hl _;have hlt:=mL hl;have hc:=kH hl;rw[hsz]at hlt
  have hsi:A.jA (.str s) (.aj (pre.length:Int))=some (.int .u8 c.toNat):=by have h2:s[pre.length]=c:=(cq.1 hc).2;simp [A.jA,A.idx,hlt,h2]
  rw[hstep pre.length c hlt hsi];cases p c<;>simp [Rd.el]
 ·intro u _;rw[hsz];exact hend
 ·have key:∀(l pre:List UInt8),(fW (λ(_:List UInt8)c(_:Unit)=>if p c=true then(Rd.go ():Rd Unit Unit)else .out ()) pre l ()).el (λ_=>k (.exit 0,[.bool false,.aj (s.size:Int)],σ)) (λ_=>K2)=if l.all p=true then k (.exit 0,[.bool false,.aj (s.size:Int)],σ)else K2:=by
   intro l;induction l with
   |nil=>intro pre;simp [fW,Rd.el]
   |cons c l ih=>
    intro pre;rw[fW];cases hc:p c
    ·simp [hc,Rd.el]
    ·simp only[if_true];rw[ih];simp [hc]
  exact key s.data.toList []
section
variable {α : Type} (g : α → ByteArray) (gi : α → Int) (v : α → AV)
theorem OK(k:ByteArray):∀(l:List α),A.find .z (.str k) (l.map λx=>(AV.str (g x),v x))=some ((l.find? λx=>decide (k=g x)).map v)
 |[]=>rfl
 |x::l=>by
  simp only[fP,A.find,A.dO,A.mV,aM,List.find?];by_cases h:k=g x
  ·rw[bq];simp [h]
  ·rw[bq];simp [h,OK k l]
theorem OI(kk:IntKind)(k:Int):∀(l:List α),A.find .i (.int kk k) (l.map λx=>(AV.int kk (gi x),v x))=some ((l.find? λx=>decide (k=gi x)).map v)
 |[]=>rfl
 |x::l=>by
  simp only[fP,A.find,A.dO,A.lQ,if_true,aM,List.find?];by_cases h:k=gi x
  ·have:(k==gi x)=true:=by simpa using h
   simp [this,h]
  ·have:(k==gi x)=false:=by simpa using h
   simp [this,h,OI kk k l]
theorem I0{k:ByteArray}{w:AV}:∀{l:List α},(∀x∈l,g x≠k)→A.upd .z (.str k) w (l.map λx=>(AV.str (g x),v x))=some ((l.map λx=>(AV.str (g x),v x))++[(.str k,w)])
 |[],_=>rfl
 |x::l,h=>by
  have h1:(k==g x)=false:=by rw[bq];exact cB λe:k=g x=>h x (by simp) e.symm
  simp only[fP,A.upd,A.dO,A.mV,aM,h1,aV];rw[I0 (λy hy=>h y (by simp [hy]))];rfl
theorem IZ{kk:IntKind}{k:Int}{w:AV}:∀{l:List α},(∀x∈l,gi x≠k)→A.upd .i (.int kk k) w (l.map λx=>(AV.int kk (gi x),v x))=some ((l.map λx=>(AV.int kk (gi x),v x))++[(.int kk k,w)])
 |[],_=>rfl
 |x::l,h=>by
  have h1:(k==gi x)=false:=by simpa using λe:k=gi x=>h x (by simp) e.symm
  simp only[fP,A.upd,A.dO,A.lQ,if_true,aM,h1,aV];rw[IZ (λy hy=>h y (by simp [hy]))];rfl
end
theorem xw(e:A.EK){k z:AV}{σ:Heap}{id:Nat}{es:List (AV×AV)}(hk:A.jy e k=true)(h:σ[id]? =some (.map es)):A.look e (.om id) k z σ=(A.find e k es).map λr=>r.getD z:=by simp [A.look,hk,A.entries,h]
theorem BE(e:A.EK){k w:AV}{σ:Heap}{id:Nat}{es:List (AV×AV)}(hk:A.jy e k=true)(h:σ[id]? =some (.map es)):A.ji e (.om id) k w σ=(A.upd e k w es).map λes=>σ.set id (.map es):=by simp [A.ji,hk,h]
theorem Nu{α:Type}(l:List α)(x:α):(((l++[x]).length:Nat):Int)=(l.length:Int)+1:=by simp
theorem DV{α:Type}(sz:Nat)(c:α→aq)(l:List α){k:Nat}{x:α}(h0:0<k)(h:l[k-1]? =some x):A.aK sz (sl sz c l) (.aj ((k:Int) -1))=some (.rp (c x)):=by have:=gJ sz c l h;rwa[show((k-1:Nat):Int)=(k:Int) -1 by omega]at this
def jk{α:Type}(g:α→ByteArray)(l:List α):List (AV×AV):=l.map λx=>(AV.str (g x),AV.bool true)
def mT{α:Type}(g:α→Int)(l:List α):List (AV×AV):=l.map λx=>(AV.aj (g x),AV.bool true)
theorem HE{α:Type}(p:α→Bool):∀(l:List α),((l.find? p).map λ_=>AV.bool true).getD aU=AV.bool (l.any p)
 |[]=>rfl
 |x::l=>by
  simp only[List.find?,List.any_cons];cases h:p x
  ·simpa using HE p l
  ·rfl
theorem MW{α:Type}(g:α→ByteArray)(k:ByteArray)(l:List α):(A.find .z (.str k) (jk g l)).map (λr=>r.getD (.bool false))=some (.bool (dw k (l.map g))):=by unfold jk;rw[OK g (λ_=>AV.bool true) k l,eO,HE];refine congrArg some (congrArg AV.bool ?_);rw[kO,Er];simp only[List.any_eq_true,decide_eq_true_eq,l9];exact⟨λ⟨x,h,e⟩=>⟨x,h,e.symm⟩,λ⟨x,h,e⟩=>⟨x,h,e.symm⟩⟩
theorem MS{α:Type}(g:α→Int)(k:Int)(l:List α):(A.find .i (.aj k) (mT g l)).map (λr=>r.getD (.bool false))=some (.bool (dw k (l.map g))):=by unfold mT;rw[OI g (λ_=>AV.bool true) .i64 k l,eO,HE];refine congrArg some (congrArg AV.bool ?_);rw[kO,Er];simp only[List.any_eq_true,decide_eq_true_eq,l9];exact⟨λ⟨x,h,e⟩=>⟨x,h,e.symm⟩,λ⟨x,h,e⟩=>⟨x,h,e.symm⟩⟩
section
variable {α : Type} (g : α → ByteArray) (gi : α → Int) (l : List α) (k : ByteArray) (n : Int) (σ bs : Heap) (b0 : bu)
theorem Mn:A.look .z (.om σ.length) (.str k) (.bool false) (σ++bu.map (jk g l)::bs)=some (.bool (dw k (l.map g))):=by rw[xw .z rfl (by rw[Am];rfl),MW]
theorem Ml:A.look .i (.om σ.length) (.aj n) (.bool false) (σ++bu.map (mT gi l)::bs)=some (.bool (dw n (l.map gi))):=by rw[xw .i rfl (by rw[Am];rfl),MS]
theorem Mo:A.look .z (.om (σ.length+1)) (.str k) (.bool false) (σ++b0::bu.map (jk g l)::bs)=some (.bool (dw k (l.map g))):=by rw[xw .z rfl (by rw[Fv];rfl),MW]
theorem Mm:A.look .i (.om (σ.length+1)) (.aj n) (.bool false) (σ++b0::bu.map (mT gi l)::bs)=some (.bool (dw n (l.map gi))):=by rw[xw .i rfl (by rw[Fv];rfl),MS]
theorem MY(h:dw k (l.map g)=false):A.ji .z (.om σ.length) (.str k) (.bool true) (σ++bu.map (jk g l)::bs)=some (σ++bu.map (jk g l++[(.str k,.bool true)])::bs):=by rw[BE .z rfl (by rw[Am];rfl),jk,I0 g _ (λx hx e=>DY.1 h (by rw[←e];exact List.mem_map_of_mem hx)),eO,IS];rfl
theorem MU(h:dw n (l.map gi)=false):A.ji .i (.om σ.length) (.aj n) (.bool true) (σ++bu.map (mT gi l)::bs)=some (σ++bu.map (mT gi l++[(.aj n,.bool true)])::bs):=by rw[BE .i rfl (by rw[Am];rfl),mT,IZ gi _ (λx hx e=>DY.1 h (by rw[←e];exact List.mem_map_of_mem hx)),eO,IS];rfl
theorem MZ(h:dw k (l.map g)=false):A.ji .z (.om (σ.length+1)) (.str k) (.bool true) (σ++b0::bu.map (jk g l)::bs)=some (σ++b0::bu.map (jk g l++[(.str k,.bool true)])::bs):=by rw[BE .z rfl (by rw[Fv];rfl),jk,I0 g _ (λx hx e=>DY.1 h (by rw[←e];exact List.mem_map_of_mem hx)),eO,nB];rfl
theorem MV(h:dw n (l.map gi)=false):A.ji .i (.om (σ.length+1)) (.aj n) (.bool true) (σ++b0::bu.map (mT gi l)::bs)=some (σ++b0::bu.map (mT gi l++[(.aj n,.bool true)])::bs):=by rw[BE .i rfl (by rw[Fv];rfl),mT,IZ gi _ (λx hx e=>DY.1 h (by rw[←e];exact List.mem_map_of_mem hx)),eO,nB];rfl
end
theorem MX{α:Type}(g:α→ByteArray)(l:List α)(x:α):jk g (l++[x])=jk g l++[(.str (g x),.bool true)]:=by simp [jk]
theorem D1(σ:Heap)(v:AV):A.quiet (some (v,σ)) σ=some v:=by simp [A.quiet]
def Fz(a:AV):Prop:=∀σ n d,A.bM σ n d a=some a
def lN(l:aq):Prop:=∀σ n d,A.dr σ n d l=some l
theorem z7(k:IntKind)(n:Int):Fz (.int k n):=λ_ _ d=>by cases d<;>simp [A.bM]
theorem Xa(b:Bool):Fz (.bool b):=λ_ _ d=>by cases d<;>simp [A.bM]
theorem Iu(s:ByteArray):Fz (.str s):=λ_ _ d=>by cases d<;>simp [A.bM]
theorem Yc{l:aq}(h:lN l):Fz (.agg l):=λσ n d=>by cases d<;>simp [A.bM,h σ n]
theorem Ib:lN []:=λ_ _ _=>by simp [A.dr]
theorem vJ{a:AV}{l:aq}(h:Fz a)(k:lN l):lN (a::l):=λσ n d=>by simp [A.dr,h σ n d,k σ n d]
theorem YP{α:Type}{sz:Nat}{c:α→aq}(h:∀x,lN (c x))(l:List α):Fz (sl sz c l):=by
 intro σ n d
 have:A.iK σ n d (l.map c)=some (l.map c):=by
  induction l with
  |nil=>simp [A.iK]
  |cons x l ih=>simp [A.iK,h x σ n d,ih]
 cases d<;>simp [sl,A.bM,this]
theorem PW{α:Type}{c:α→aq}(h:∀x,lN (c x))(l:List α)(σ:Heap)(n d:Nat):A.iK σ n d (l.map c)=some (l.map c):=by
 induction l with
 |nil=>simp [A.iK]
 |cons x l ih=>simp [A.iK,h x σ n d,ih]
def qy{α:Type}(id sz:Nat)(l:List α):AV:=if l=[]then .au else .os id l.length sz 0 l.length
def nD{α:Type}(sz:Nat)(c:α→aq)(l:List α):Heap:=if l=[]then[]else[.arr l.length sz (l.map c)]
theorem Wl{α:Type}(sz:Nat)(c:α→aq):nD sz c []=[]:=rfl
theorem UU{α:Type}{sz most:Nat}(c:α→aq)(l:List α)(x:α)(σ:Heap)(h:l.length+1≤most):A.append sz most (qy σ.length sz l) (.sl sz [c x]) (σ++nD sz c l)=some (qy σ.length sz (l++[x]),σ++nD sz c (l++[x])):=by
 unfold qy nD;cases l with
 |nil=>
  have h1:1≤most:=by simpa using h
  simp [A.append,A.kE,A.elems,h1]
 |cons y l=>
  have h1:l.length+1+1≤most:=by simpa using h
  simp [A.append,A.kE,A.elems,h1,Am,IS,lG,jh]
theorem XA{α:Type}{sz:Nat}{c:α→aq}(hc:∀x,lN (c x))(l:List α)(σ:Heap)(d:Nat):A.bM (σ++nD sz c l) σ.length (d+1) (qy σ.length sz l)=some (if l=[]then .au else sl sz c l):=by
 unfold qy nD;split
 ·simp [A.bM]
 ·rename_i hl;simp only[A.bM,Nat.lt_irrefl,if_false,Am,List.getElem?_cons_zero];rw[aP (by simp)];have e:(List.take l.length (List.drop 0 (l.map c)))=l.map c:=by simp [jh]
  rw[e,Br,PW hc];rfl
theorem Wd{α:Type}{sz:Nat}{c:α→aq}(hc:∀x,lN (c x))(l:List α)(k:IntKind)(n:Int)(σ:Heap):A.fin σ (.aD [qy σ.length sz l,.int k n]) (σ++nD sz c l)=some (.aD [if l=[]then .au else sl sz c l,.int k n],σ):=by
 unfold A.fin;split
 ·rename_i h;have:nD sz c l=[]:=by simpa using h
  have hl:l=[]:=by
   unfold nD at this;split at this
   ·assumption
   ·cases this
  subst hl;rfl
 ·rw[aP (by simp)]
  have:A.bM (σ++nD sz c l) σ.length 8 (.aD [qy σ.length sz l,.int k n])=some (.aD [if l=[]then .au else sl sz c l,.int k n]):=by simp only[A.bM,A.dr,XA hc,z7 k n _ _ _,aM,eO]
  rw[this];rfl
theorem Yv{α:Type}(sz:Nat)(c:α→aq)(l:List α):A.nn (.s sz) (if l=[]then .au else sl sz c l)=sl sz c l:=by
 split
 ·rename_i h;subst h;rfl
 ·rfl
def nC{α:Type}(p:α→Bool)(l:List α):Int:=match l.findIdx? p with|some i=>i|none=>-1
theorem Bk{α:Type}(p:α→Bool)(l:List α):(nC p l=-1∧(∀x∈l,p x=false)∧l.find? p=none)∨∃(k:Nat)(x:α),l[k]? =some x∧p x=true∧nC p l=k∧l.find? p=some x∧∀(j:Nat)(y:α),j<k→l[j]? =some y→p y=false:=by
 induction l with
 |nil=>left;exact⟨rfl,by simp,rfl⟩
 |cons x l ih=>
  cases h:p x
  ·rcases ih with⟨h1,h2,h3⟩|⟨k,y,h1,h2,h3,h4,h5⟩
   ·left;refine⟨?_,?_,?_⟩
    ·unfold nC at h1 ⊢;rw[List.findIdx?_cons,h];cases hf:l.findIdx? p with
     |none=>simp
     |some i=>rw[hf]at h1;simp at h1
    ·intro y hy;rcases eu.1 hy with rfl|hy
     ·exact h
     ·exact h2 y hy
    ·simp [List.find?,h,h3]
   ·right;refine⟨k+1,y,by simpa using h1,h2,?_,by simp [List.find?,h,h4],?_⟩
    ·unfold nC at h3 ⊢;rw[List.findIdx?_cons,h];cases hf:l.findIdx? p with
     |none=>rw[hf]at h3;simp at h3
     |some i=>rw[hf]at h3;simp at h3 ⊢;omega
    ·intro j z hj hz;cases j with
     |zero=>simp at hz;subst hz;exact h
     |succ j=>exact h5 j z (by omega) (by simpa using hz)
  ·right;refine⟨0,x,rfl,h,?_,by simp [List.find?,h],by intro j y hj;omega⟩;unfold nC;rw[List.findIdx?_cons,h];rfl
theorem Ep{α:Type}{γ:Type}(p:α→Bool)(K1:Option γ)(K2:Int→Option γ):∀(l pre:List α),(∀x∈pre,p x=false)→(fW (λpre x(_:Unit)=>if p x=true then(Rd.out (pre.length:Int):Rd Unit Int)else .go ()) pre l ()).el (λ_=>K1) K2=if nC p (pre++l)=-1 then K1 else K2 (nC p (pre++l))
 |[],pre,h=>by
  have:nC p (pre++[])=-1:=by
   rcases Bk p (pre++[])with h1|⟨k,x,h1,h2,_⟩
   ·exact h1.1
   ·have:=h x (by have:=cM h1;simpa using this);rw[h2]at this;cases this
  rw[fW,ql,aP this]
 |x::l,pre,h=>by
  rw[fW];cases hx:p x
  ·simp only[Bool.false_eq_true,if_false]
   have:=Ep p K1 K2 l (pre++[x]) (λy hy=>by
    rcases ew.1 hy with hy|hy
    ·exact h y hy
    ·simp at hy;subst hy;exact hx)
   simpa using this
  ·simp only[if_true,qi]
   have:nC p (pre++x::l)=pre.length:=by
    rcases Bk p (pre++x::l)with h1|⟨k,y,h1,h2,h3,_,h5⟩
    ·have:=h1.2.1 x (by simp);rw[hx]at this;cases this
    ·rw[h3];rcases Nat.lt_trichotomy k pre.length with hk|hk|hk
     ·rw[fH hk]at h1;have:=h y (cM h1);rw[h2]at this;cases this
     ·omega
     ·have:=h5 pre.length x hk (by simp);rw[hx]at this;cases this
   rw[this,aQ (by omega)]
theorem ND{α R γ:Type}(p:α→Bool)(r:R)(K1:Unit→γ)(K2:R→γ):∀(l pre:List α),(fW (λ_ x(_:Unit)=>if p x=true then(Rd.out r:Rd Unit R)else .go ()) pre l ()).el K1 K2=if l.any p=true then K2 r else K1 ()
 |[],pre=>by simp [fW,Rd.el]
 |x::l,pre=>by
  rw[fW];cases h:p x
  ·simp only[Bool.false_eq_true,if_false];rw[ND p r K1 K2 l (pre++[x])];simp [h]
  ·simp [h,Rd.el]
theorem DS{α:Type}(sz:Nat)(c:α→aq)(l:List α){k:Nat}(h:k≤l.length){σ:Heap}:A.bl sz (sl sz c l) none (some (.aj (k:Int))) σ=some (sl sz c (l.take k)):=by simp [A.bl,sl,A.bound,h,List.map_take]
theorem Eu{α:Type}{l pre rest:List α}{x:α}(h:l=pre++x::rest):l.take pre.length=pre:=by rw[h];simp
theorem MT(l:List Int)(n:Int):mT id l++[(.aj n,.bool true)]=mT id (l++[n]):=by simp [mT]
theorem VH{κ:Type}[DecidableEq κ](k x:κ)(S:List κ):dw k (S++[x])=(dw k S||decide (x=k)):=by simp [dw]
theorem Qj{α:Type}{sz:Nat}{c:α→aq}{sh:List Sh}(h:∀x,A.cj sh (c x)=c x)(l:List α):A.nn (.e sz sh) (sl sz c l)=sl sz c l:=by simp only[sl,A.nn,List.map_map];congr 1;exact List.map_congr_left λx _=>h x
theorem BG(sz:Nat)(sh:List Sh):A.nn (.e sz sh) .au=.sl sz []:=by simp [A.nn]
theorem xq{α γ:Type}{f:aq→Heap→Option (AX×aq×Heap)}(l:List α)(p:α→Bool)(vs:Nat→aq)(σ:Heap)(fin:AX×aq×Heap)(ret:Nat→AX×aq×Heap){k:AX×aq×Heap→Option γ}(K1 K2:Option γ)
  (hstep:∀(i:Nat)(x:α),l[i]? =some x→f (vs i) σ=if p x=true then some (ret i)else some (.normal,vs (i+1),σ)) (hend:f (vs l.length) σ=some fin) (hk1:k fin=K1) (hk2:∀i,k (ret i)=K2)
  (xQ:fin.1≠.normal:=by simp) (Cd:∀i,(ret i).1≠.normal:=by intros;simp) {v:aq} {σ':Heap} (hv:v=vs 0:=by rfl) (dH:σ'=σ:=by rfl):
  (A.loop f v σ').bind k=if l.any p=true then K2 else K1:=by
 subst hv dH
 refine(kC (S:=Unit) (R:=Unit) l (λ_ x _=>if p x=true then .out ()else .go ()) (λpre _=>vs pre.length) (λ_ _=>σ') (λ_=>fin) (λpre _ _=>ret pre.length) (λ_ _=>True) () (λ_=>K1) (λ_=>K2)
  ?_ (λ_ _=>hend) trivial (λ_ _ _ _ _ _ _ _=>trivial) (λ_ _=>hk1) (λ_ _ _ _ _ _ _ _=>hk2 _) (λ_=>xQ) (λ_ _ _=>Cd _)).trans (ND p () _ _ l [])
 intro pre x rest u hl _;rw[hstep pre.length x (kH hl)];cases p x<;>simp [Rd.el]
theorem Es{α κ:Type}[DecidableEq κ](k:κ)(g:α→κ)(l:List α):dw k (l.map g)=l.any λx=>decide (g x=k):=by simp [dw,List.any_map];rfl
theorem sJ{α:Type}(sz:Nat)(c:α→aq){l:List α}{k:Nat}{x:α}(h:l[k]? =some x):A.aK sz (sl sz c l) (.aj (k:Int))=some (.rp (c x))∧(k:Int)<(l.length:Int)∧(l.length≤bX→IntKind.i64.wrap ((k:Int)+1)=(k:Int)+1):=
 ⟨gJ sz c l h,by have:=(cq.1 h).1;omega,λhl=>cW (by have:=(cq.1 h).1;unfold bp;unfold bX at hl;omega)⟩
theorem MK{α γ:Type}{f:aq→Heap→Option (AX×aq×Heap)}(l:List α)(p:α→Bool)(vs:Nat→aq)(σ:Heap)(fin:AX×aq×Heap)(ret:Nat→α→AX×aq×Heap){k:AX×aq×Heap→Option γ}(K1:Option γ)(K2:α→Option γ)
  (hstep:∀(i:Nat)(x:α),l[i]? =some x→f (vs i) σ=if p x=true then some (ret i x)else some (.normal,vs (i+1),σ)) (hend:f (vs l.length) σ=some fin) (hk1:k fin=K1) (hk2:∀i x,k (ret i x)=K2 x)
  (xQ:fin.1≠.normal:=by simp) (Cd:∀i x,(ret i x).1≠.normal:=by intros;simp) {v:aq} {σ':Heap} (hv:v=vs 0:=by rfl) (dH:σ'=σ:=by rfl):
  (A.loop f v σ').bind k=(l.find? p).elim K1 K2:=by
 subst hv dH
 have run:∀(l pre:List α),(fW (λ_ x(_:Unit)=>if p x=true then(Rd.out x:Rd Unit α)else .go ()) pre l ()).el (λ_=>K1) K2=(l.find? p).elim K1 K2:=by
  intro l;induction l with
  |nil=>intro pre;rfl
  |cons x l ih=>
   intro pre;rw[fW];cases h:p x
   ·simp only[Bool.false_eq_true,if_false];rw[ih,List.find?_cons,h]
   ·simp [h,Rd.el]
 refine(kC (S:=Unit) (R:=α) l (λ_ x _=>if p x=true then .out x else .go ()) (λpre _=>vs pre.length) (λ_ _=>σ') (λ_=>fin) (λpre _ x=>ret pre.length x) (λ_ _=>True) () (λ_=>K1) K2
  ?_ (λ_ _=>hend) trivial (λ_ _ _ _ _ _ _ _=>trivial) (λ_ _=>hk1) (λ_ _ _ _ _ _ _ _=>hk2 _ _) (λ_=>xQ) (λ_ _ _=>Cd _ _)).trans (run l [])
 intro pre x rest u hl _;rw[hstep pre.length x (kH hl)];cases p x<;>simp [Rd.el]
theorem Wk{α γ:Type}{f:aq→Heap→Option (AX×aq×Heap)}(l:List α)(p:α→Bool)(vs:Nat→aq)(σ:Heap)(fin:AX×aq×Heap)(ret:Nat→AX×aq×Heap){k:AX×aq×Heap→Option γ}(K1:Option γ)(K2:Int→Option γ)
  (hstep:∀(i:Nat)(x:α),l[i]? =some x→f (vs i) σ=if p x=true then some (ret i)else some (.normal,vs (i+1),σ)) (hend:f (vs l.length) σ=some fin) (hk1:k fin=K1) (hk2:∀i:Nat,k (ret i)=K2 i)
  (xQ:fin.1≠.normal:=by simp) (Cd:∀i,(ret i).1≠.normal:=by intros;simp) {v:aq} {σ':Heap} (hv:v=vs 0:=by rfl) (dH:σ'=σ:=by rfl):
  (A.loop f v σ').bind k=if nC p l=-1 then K1 else K2 (nC p l):=by
 subst hv dH
 refine(kC (S:=Unit) (R:=Int) l (λpre x _=>if p x=true then .out (pre.length:Int)else .go ()) (λpre _=>vs pre.length) (λ_ _=>σ') (λ_=>fin) (λpre _ _=>ret pre.length) (λ_ _=>True) () (λ_=>K1) K2
  ?_ (λ_ _=>hend) trivial (λ_ _ _ _ _ _ _ _=>trivial) (λ_ _=>hk1) ?_ (λ_=>xQ) (λ_ _ _=>Cd _)).trans ?_
 ·intro pre x rest u hl _;rw[hstep pre.length x (kH hl)];cases p x<;>simp [Rd.el]
 ·intro pre x rest s r hl _ hb;rw[hk2];cases h:p x
  ·rw[h]at hb;cases hb
  ·rw[h]at hb;simp at hb;rw[hb]
 ·have:=Ep p K1 K2 l [] (by simp);simpa using this
theorem qR{α:Type}(n:Int)(B:AV→Option α)(s:Option α):((A.lss (.aj n) (.aj n)).bind λx=>A.cond x (B x) s)=s:=by simp only[qY,Int.lt_irrefl,aM,decide_false,cF]
section
variable {α β : Type}
theorem Vr{c c':AV}(h:c=c')(t e:Option α):A.cond c t e=A.cond c' t e:=by rw[h]
theorem UM{c c':AV}(h:c=c')(w:Bool)(e d:Option α):A.guard c w e d=A.guard c' w e d:=by rw[h]
theorem Vi{x y:Option α}(h:x=y)(f:α→Option β):x.bind f=y.bind f:=by rw[h]
attribute [congr] Vr UM Vi
end
theorem az:type_of% @aM.{0,0}∧type_of% @eO.{0,0}∧type_of% @cT∧type_of% @cF∧type_of% @QI∧type_of% @QH∧type_of% @QG∧type_of% @QF∧type_of% @gN∧type_of% @pT∧type_of% @pF∧type_of% @bA.{1}∧type_of% @aV.{1}∧type_of% @xN∧type_of% @Ak∧type_of% @Al∧type_of% @Fb∧type_of% @qY∧type_of% @I4∧type_of% @we∧type_of% @Fa∧type_of% @Pm∧type_of% @Pk∧type_of% @Ph∧type_of% @Pg∧type_of% @rE∧type_of% @rF∧type_of% @BX∧type_of% @Fc∧type_of% @PN∧type_of% @Pn∧type_of% @Qx∧type_of% @Pc∧type_of% @Pd∧type_of% @Pe∧type_of% @Pf∧type_of% @Qv∧type_of% @Qw∧type_of% @Pj∧type_of% @Qt∧type_of% @Qs∧type_of% @Qu∧type_of% @PL∧type_of% @Kg∧type_of% @QJ∧type_of% @QK∧type_of% @QL∧type_of% @QM∧type_of% @QN∧type_of% @QO∧type_of% @QS∧type_of% @QT∧type_of% @QU∧type_of% @ep∧type_of% @H7∧type_of% @Nk∧type_of% @NU∧type_of% @Nl∧type_of% @iy∧type_of% @ite_true.{1}∧type_of% @ite_false.{1}∧type_of% @if_true.{1}∧type_of% @if_false.{1}∧type_of% @Bool.false_eq_true∧type_of% @not_true_eq_false∧type_of% @not_false_eq_true∧type_of% @decide_true∧type_of% @decide_false∧type_of% @Bool.not_true∧type_of% @Bool.not_false∧type_of% @jg.{0}∧type_of% @nr.{0}∧type_of% @List.nil_append.{0}∧type_of% @List.drop_zero.{0}∧type_of% @Og∧type_of% @Oh∧type_of% @Nu∧type_of% @Int.natCast_add∧type_of% @Int.cast_ofNat_Int∧type_of% @D1∧type_of% @ql∧type_of% @qi∧type_of% @sP∧type_of% @Mn∧type_of% @Ml∧type_of% @Mo∧type_of% @Mm∧type_of% @MX∧type_of% @MY∧type_of% @MU∧type_of% @MZ∧type_of% @MV∧type_of% @true_and∧type_of% @and_true∧type_of% @false_and∧type_of% @and_false∧type_of% @true_or∧type_of% @or_true∧type_of% @false_or∧type_of% @or_false∧type_of% @Option.getD_some.{0}∧type_of% @Option.getD_none.{0}∧type_of% @List.length_append.{0}∧type_of% @List.length_cons.{0}∧type_of% @List.length_nil.{0}∧type_of% @Nat.zero_add∧type_of% @Nat.add_zero:=
 ⟨@aM.{0,0},@eO.{0,0},@cT,@cF,@QI,@QH,@QG,@QF,@gN,@pT,@pF,@bA.{1},@aV.{1},@xN,@Ak,@Al,@Fb,@qY,@I4,@we,@Fa,@Pm,@Pk,@Ph,@Pg,@rE,@rF,@BX,@Fc,@PN,@Pn,@Qx,@Pc,@Pd,@Pe,@Pf,@Qv,@Qw,@Pj,@Qt,@Qs,@Qu,@PL,@Kg,@QJ,@QK,@QL,@QM,@QN,@QO,@QS,@QT,@QU,@ep,@H7,@Nk,@NU,@Nl,@iy,@ite_true.{1},@ite_false.{1},@if_true.{1},@if_false.{1},@Bool.false_eq_true,@not_true_eq_false,@not_false_eq_true,@decide_true,@decide_false,@Bool.not_true,@Bool.not_false,@jg.{0},@nr.{0},@List.nil_append.{0},@List.drop_zero.{0},@Og,@Oh,@Nu,@Int.natCast_add,@Int.cast_ofNat_Int,@D1,@ql,@qi,@sP,@Mn,@Ml,@Mo,@Mm,@MX,@MY,@MU,@MZ,@MV,@true_and,@and_true,@false_and,@and_false,@true_or,@or_true,@false_or,@or_false,@Option.getD_some.{0},@Option.getD_none.{0},@List.length_append.{0},@List.length_cons.{0},@List.length_nil.{0},@Nat.zero_add,@Nat.add_zero⟩
end
theorem NY(x:bP):lN (bV x):=(vJ (z7 _ _) (vJ (Iu _) Ib))
theorem zx(x:aN):lN (aC x):=(vJ (z7 _ _) (vJ (Iu _) (vJ (z7 _ _) Ib)))
theorem L7(x:bn):lN (aE x):=(vJ (z7 _ _) (vJ (Iu _) (vJ (YP zx _) Ib)))
instance : Inhabited ByteArray := ⟨⟨#[]⟩⟩
instance : Inhabited OC := ⟨⟨0, 0⟩⟩
instance : Inhabited Io := ⟨⟨0, []⟩⟩
instance : Inhabited O9 := ⟨⟨0, 0, 0, 0, 0, ⟨0, []⟩⟩⟩
instance : Inhabited WJ := ⟨⟨0, 0⟩⟩
instance : Inhabited jW := ⟨⟨0, 0, ⟨#[]⟩⟩⟩
instance : Inhabited dW := ⟨⟨⟨#[]⟩, 0, 0, 0, 0, false, []⟩⟩
instance : Inhabited cm := ⟨⟨⟨#[]⟩, 0, []⟩⟩
instance : Inhabited eM := ⟨⟨0, ⟨#[]⟩, 0, 0⟩⟩
instance : Inhabited cN := ⟨⟨[], []⟩⟩
instance : Inhabited bP := ⟨⟨0, ⟨#[]⟩⟩⟩
theorem BC(a b:bP):A.dO (.s [0,2]) (.agg (bV a)) (.agg (bV b))=some (decide (a=b)):=by obtain⟨x1,x2⟩:=a;obtain⟨gP,rC⟩:=b;simp only[A.dO,bV,A.dX,A.kj,A.lQ,A.rM,A.mV,if_true,aM,eO,bq];congr 1;rw[kO];simp [and_assoc]
theorem OG(a b:bP):A.eql (.s [0,2]) (.agg (bV a)) (.agg (bV b))=some (.bool (decide (a=b))):=by rw[A.eql,BC];rfl
theorem Yq(a b:bP):A.neq (.s [0,2]) (.agg (bV a)) (.agg (bV b))=some (.bool (decide (¬(a=b)))):=by rw[A.neq,BC,eO,decide_not]
instance : Inhabited aN := ⟨⟨⟨0, ⟨#[]⟩⟩, 0⟩⟩
theorem Uh(a b:aN):A.dO (.s [0,2,0]) (.agg (aC a)) (.agg (aC b))=some (decide (a=b)):=by obtain⟨⟨x1,x2⟩,x3⟩:=a;obtain⟨⟨gP,rC⟩,tE⟩:=b;simp only[A.dO,aC,A.dX,A.kj,A.lQ,A.rM,A.mV,if_true,aM,eO,bq];congr 1;rw[kO];simp [and_assoc]
theorem US(a b:aN):A.neq (.s [0,2,0]) (.agg (aC a)) (.agg (aC b))=some (.bool (decide (¬(a=b)))):=by rw[A.neq,Uh,eO,decide_not]
instance : Inhabited bn := ⟨⟨0, ⟨#[]⟩, []⟩⟩
instance : Inhabited Zb := ⟨⟨[], 0, 0⟩⟩
instance : Inhabited Ip := ⟨⟨0, 0⟩⟩
instance : Inhabited EV := ⟨⟨⟨0, ⟨#[]⟩⟩, ⟨0, 0⟩, false, false, 0, 0⟩⟩
instance : Inhabited uD := ⟨⟨0, ⟨#[]⟩, 0, 0, 0, 0, ⟨0, []⟩, false, 0, []⟩⟩
instance : Inhabited XW := ⟨⟨⟨0, ⟨#[]⟩⟩, ⟨0, 0⟩, 0⟩⟩
instance : Inhabited YL := ⟨⟨0, 0, 0⟩⟩
instance : Inhabited Pa := ⟨⟨0, []⟩⟩
instance : Inhabited Mq := ⟨⟨0, 0, 0⟩⟩
instance : Inhabited XZ := ⟨⟨⟨[], []⟩, [], [], []⟩⟩
instance : Inhabited NM := ⟨⟨0, 0, 0, 0, 0⟩⟩
instance : Inhabited XX := ⟨⟨0, ⟨0, 0, 0, 0, 0⟩⟩⟩
instance : Inhabited X0 := ⟨⟨0, 0, 0, 0⟩⟩
instance : Inhabited PK := ⟨⟨⟨0, ⟨#[]⟩⟩, ⟨0, 0, 0, 0, 0, ⟨0, []⟩⟩, 0, false⟩⟩
instance : Inhabited Vg := ⟨⟨0, 0, 0, false, 0, []⟩⟩
instance : Inhabited Lw := ⟨⟨0, 0, 0⟩⟩
instance : Inhabited NN := ⟨⟨0, 0, 0, 0, 0, 0, false, false, []⟩⟩
instance : Inhabited Pb := ⟨⟨0, 0⟩⟩
instance : Inhabited VX := ⟨⟨⟨0, 0, 0, 0, 0, 0, false, false, []⟩, [], 0, [], 0, 0, 0⟩⟩
section
def Rf{β τ:Type}(M:Option β)(T:Option τ)(Q:τ→β→Prop):Prop:=∀t,T=some t→∃b,M=some b∧Q t b
section
variable {α β ω τ ζ : Type}
theorem aI{M0:Option α}{K:α→Option β}{T:Option τ}{Q:τ→β→Prop}(a:α)(h:M0=some a)(k:Rf (K a) T Q):Rf (M0.bind K) T Q:=by intro t ht;obtain⟨b,h1,h2⟩:=k t ht;exact⟨b,by rw[h];exact h1,h2⟩
theorem uL{M0:Option α}{K:α→Option β}{o:Option ω}{K':ω→Option τ}{Q:τ→β→Prop}(e:ω→α)(h:∀t,o=some t→M0=some (e t))(k:∀t,o=some t→Rf (K (e t)) (K' t) Q):Rf (M0.bind K) (o.bind K') Q:=by intro t ht;obtain⟨x,h1,h2⟩:=bk.1 ht;obtain⟨b,h3,h4⟩:=k x h1 t h2;exact⟨b,by rw[h x h1];exact h3,h4⟩
theorem fF{t:τ}{b:β}{Q:τ→β→Prop}(h:Q t b):Rf (some b) (some t) Q:=by intro u hu;cases hu;exact⟨b,rfl,h⟩
theorem jx{M:Option β}{t:τ}{Q:τ→β→Prop}(b:β)(e:M=some b)(h:Q t b):Rf M (some t) Q:=by rw[e];exact fF h
theorem XJ{M:Option β}{Q:τ→β→Prop}:Rf M (none:Option τ) Q:=by intro u hu;cases hu
theorem Y7{M:Option β}{p:Prop}[Decidable p]{T:Option τ}{Q:τ→β→Prop}(h:p→Rf M T Q):Rf M (if p then T else none) Q:=by
 split
 ·exact h ‹_›
 ·exact XJ
theorem rB{p:Prop}[Decidable p]{X Y:Option β}{X' Y':Option τ}{Q:τ→β→Prop}(h1:p→Rf X X' Q)(h2:¬p→Rf Y Y' Q):Rf (A.cond (.bool (decide p)) X Y) (if p then X' else Y') Q:=by
 by_cases h:p
 ·simp only[h,decide_true,if_true];exact h1 h
 ·simp only[h,decide_false,if_false];exact h2 h
theorem qo{c:Bool}{X Y:Option β}{X' Y':Option τ}{Q:τ→β→Prop}(h1:c=true→Rf X X' Q)(h2:c=false→Rf Y Y' Q):Rf (A.cond (.bool c) X Y) (if c=true then X' else Y') Q:=by
 cases c
 ·exact h2 rfl
 ·exact h1 rfl
theorem xH{X Y:Option β}{T:Option τ}{Q:τ→β→Prop}(h:Rf X T Q):Rf (A.cond (.bool true) X Y) T Q:=h
theorem xG{X Y:Option β}{T:Option τ}{Q:τ→β→Prop}(h:Rf Y T Q):Rf (A.cond (.bool false) X Y) T Q:=h
theorem oY{c:Bool}{X Y:Option β}{T:Option τ}{Q:τ→β→Prop}(e:c=true)(h:Rf X T Q):Rf (bif c then X else Y) T Q:=by rw[e];exact h
theorem Af{c:Bool}{X Y:Option β}{T:Option τ}{Q:τ→β→Prop}(e:c=false)(h:Rf Y T Q):Rf (bif c then X else Y) T Q:=by rw[e];exact h
def gv{α:Type}(g:Bool)(e:α→AV)(t:α):AV:=bif g then e t else .aD []
end
inductive Lr (S B R : Type) where
 |go(s:S)
 |JG(b:B)
 |ret(r:R)
def nw{α S B R:Type}(body:Nat→α→S→Option (Lr S B R))(fin:S→Option B):List α→Nat→S→Option (B ⊕ R)
 |[],_,s=>(fin s).map .inl
 |x::l,i,s=>(body i x s).bind λq=>match q with|.go s'=>nw body fin l (i+1) s'|.JG b=>some (.inl b)|.ret r=>some (.inr r)
def oB{α S B R γ:Type}(l:List α)(body:Nat→α→S→Option (Lr S B R))(fin:S→Option B)(s:S)(K1:B→Option γ)(K2:R→Option γ):Option γ:=
 if l.length≤bX then(nw body fin l 0 s).bind λq=>q.elim K1 K2 else none
section
variable {α S B R β τ : Type}
abbrev LS:=AX×aq×Heap
def JE(I:S→aq→Heap→Prop)(QB:B→LS→Prop)(QR:R→LS→Prop)(t:Lr S B R)(q:LS):Prop:=match t with
 |.go s=>q.1=.normal∧I s q.2.1 q.2.2
 |.JG b=>q.1≠.normal∧QB b q
 |.ret r=>q.1≠.normal∧QR r q
theorem xC{I:S→aq→Heap→Prop}{QB:B→LS→Prop}{QR:R→LS→Prop}{s:S}{v:aq}{σ:Heap}(h:I s v σ):JE I QB QR (.go s) (.normal,v,σ):=⟨rfl,h⟩
theorem lz{I:S→aq→Heap→Prop}{QB:B→LS→Prop}{QR:R→LS→Prop}{r:R}{q:LS}(n:q.1≠.normal)(h:QR r q):JE I QB QR (.ret r) q:=⟨n,h⟩
theorem xA{f:aq→Heap→Option LS}{K:LS→Option β}{Q:τ→β→Prop}{l:List α}{body:Nat→α→S→Option (Lr S B R)}{fin:S→Option B}{s0:S}{K1:B→Option τ}{K2:R→Option τ}{v0:aq}{aO:Heap}
  (I:Nat→S→aq→Heap→Prop) (QB:B→LS→Prop) (QR:R→LS→Prop)
  (hstep:l.length≤bX→∀i x s v σ,l[i]? =some x→I i s v σ→Rf (f v σ) (body i x s) (JE (I (i+1)) QB QR))
  (hend:l.length≤bX→∀s v σ,I l.length s v σ→Rf (f v σ) (fin s) (λb q=>q.1≠.normal∧QB b q))
  (h0:I 0 s0 v0 aO) (k1:l.length≤bX→∀b q,QB b q→Rf (K q) (K1 b) Q) (k2:l.length≤bX→∀r q,QR r q→Rf (K q) (K2 r) Q):
  Rf ((A.loop f v0 aO).bind K) (oB l body fin s0 K1 K2) Q:=by
 unfold oB;refine Y7 λhl=>?_
 have hstep:=hstep hl;have hend:=hend hl
 have key:∀(rest pre:List α)(s:S)(v:aq)(σ:Heap),l=pre++rest→I pre.length s v σ→∀t,nw body fin rest pre.length s=some t→∃q,(∃n,A.iter f n v σ=some q)∧(match t with|.inl b=>QB b q|.inr r=>QR r q):=by
  intro rest;induction rest with
  |nil=>intro pre s v σ hl hI t ht;rw[List.append_nil]at hl;subst hl;simp only[nw]at ht;obtain⟨b,hb,rfl⟩:=cI.1 ht;obtain⟨q,h1,h2,h3⟩:=hend s v σ hI b hb;exact⟨q,qh h1 h2,h3⟩
  |cons x rest ih=>
   intro pre s v σ hl hI t ht;simp only[nw]at ht;obtain⟨y,hy,h2⟩:=bk.1 ht;obtain⟨q,h3,h4⟩:=hstep pre.length x s v σ (by rw[hl];simp) hI y hy;obtain⟨e,v',σ'⟩:=q;cases y with
   |go s'=>obtain⟨rfl,JM⟩:=h4;obtain⟨q,h5,h6⟩:=ih (pre++[x]) s' v' σ' (by simpa using hl) (by simpa using JM) t (by simpa using h2);exact⟨q,zG h3 h5,h6⟩
   |JG b=>simp only[Option.some.injEq]at h2;subst h2;exact⟨_,qh h3 h4.1,h4.2⟩
   |ret b=>simp only[Option.some.injEq]at h2;subst h2;exact⟨_,qh h3 h4.1,h4.2⟩
 intro t ht;obtain⟨y,hy,h2⟩:=bk.1 ht;obtain⟨q,⟨n,hn⟩,h3⟩:=key l [] s0 v0 aO rfl h0 y hy;cases y with
 |inl b=>obtain⟨z,h4,h5⟩:=k1 hl b q h3 t h2;exact⟨z,by rw[w9 hn];exact h4,h5⟩
 |inr b=>obtain⟨z,h4,h5⟩:=k2 hl b q h3 t h2;exact⟨z,by rw[w9 hn];exact h4,h5⟩
theorem td{l:List α}{i:Nat}{x:α}(h:l[i]? =some x):A.lss (.aj (i:Int)) (.aj (l.length:Int))=some (.bool true):=by have:=(cq.1 h).1;rw[qY];simp;omega
theorem sQ(l:List α):A.lss (.aj (l.length:Int)) (.aj (l.length:Int))=some (.bool false):=by rw[qY];simp
theorem sS{l:List α}{i:Nat}{x:α}(h:l[i]? =some x)(hl:l.length≤bX):A.add (.aj (i:Int)) (.aj 1)=some (.aj ((i+1:Nat):Int)):=by have:=(cq.1 h).1;rw[Ak,cW (by unfold bp;unfold bX at hl;omega)];simp
def tQ(l:List α)(i:Int):Option α:=if 0≤i then l[i.toNat]? else none
theorem BR{sz:Nat}{c:α→aq}{l:List α}{i:Int}{x:α}(h:tQ l i=some x):A.aK sz (sl sz c l) (.aj i)=some (.rp (c x)):=by
 unfold tQ at h;split at h
 ·exact VA sz c l ‹_› h
 ·cases h
theorem sR{sz:Nat}{c:α→aq}{l:List α}{i:Nat}{x:α}(h:l[i]? =some x):A.aK sz (sl sz c l) (.aj (i:Int))=some (.rp (c x)):=gJ sz c l h
end
theorem qS{M:aB}{v:AV}{σ:Heap}(h:M=some (v,σ)):A.quiet M σ=some v:=by rw[h,D1]
noncomputable def tq {α:Type} (p:Prop) (x:α):Option α:=open Classical in if p then some x else none
theorem xD{α:Type}{p:Prop}{x:α}(h:p):tq p x=some x:=aP h
theorem xJ{α β:Type}{p:Prop}{x r:α}{M:Option β}{e:α→β}(h:p→M=some (e x))(k:tq p x=some r):M=some (e r):=by
 unfold tq at k;split at k
 ·rename_i hp;injection k with k;subst k;exact h hp
 ·cases k
theorem vU(b t:Bool):A.pick (.bool b) (bif b then .bool t else .aD []) (.bool false)=some (.bool (b&&t)):=by cases b<;>rfl
theorem Y5(b t:Bool):A.pick (.bool b) (.bool true) (bif !b then .bool t else .aD [])=some (.bool (b||t)):=by cases b<;>rfl
section
variable {α β ω τ : Type} {G b : Bool} {M0 : Option AV} {K : AV → Option β} {T : Option τ} {K' : ω → Option τ} {o : Option ω} {Q : τ → β → Prop}
theorem eT(a:AV)(h:b=true→M0=some a)(k:Rf (K (bif b then a else .aD [])) T Q):Rf ((A.guard (.bool b) true M0 (some (.aD []))).bind K) T Q:=by refine aI _ ?_ k;cases b<;>simp_all [A.guard]
theorem BS(a:AV)(h:(!b)=true→M0=some a)(k:Rf (K (bif !b then a else .aD [])) T Q):Rf ((A.guard (.bool b) false M0 (some (.aD []))).bind K) T Q:=by refine aI _ ?_ k;cases b<;>simp_all [A.guard]
theorem ID(a:AV)(h:(G&&b)=true→M0=some a)(k:Rf (K (bif G&&b then a else .aD [])) T Q):Rf ((A.guard (bif G then .bool b else .aD []) true M0 (some (.aD []))).bind K) T Q:=by refine aI _ ?_ k;cases G<;>cases b<;>simp_all [A.guard]
theorem Y6{g:Bool}{M:Option AV}{d:ω}(e:ω→AV)(hM:M=bif g then M0 else some (.aD []))(h:g=true→∀t,o=some t→M0=some (e t))(k:∀t,(g=true→o=some t)→Rf (K (bif g then e t else .aD [])) (K' t) Q):Rf (M.bind K) ((if g=true then o else some d).bind K') Q:=by
 subst hM;cases g
 ·exact k d (by simp)
 ·intro t ht;simp only[if_true]at ht;obtain⟨x,h1,h2⟩:=bk.1 ht;obtain⟨y,h3,h4⟩:=k x (λ_=>h1) t h2;refine⟨y,?_,h4⟩;simp only[bA,h rfl x h1,aM];exact h3
theorem xB{d:ω}(e:ω→AV)(h:b=true→∀t,o=some t→M0=some (e t))(k:∀t,(b=true→o=some t)→Rf (K (bif b then e t else .aD [])) (K' t) Q):Rf ((A.guard (.bool b) true M0 (some (.aD []))).bind K) ((if b=true then o else some d).bind K') Q:=Y6 e (by cases b<;>rfl) h k
end
theorem OA{ro:Bool}{dB:List Sh}{dM:Sh}{r:aq→Heap→aB}{args args':aq}{σ:Heap}(hn:A.cj dB args=A.cj dB args')(h1:args.any A.own=false)(h2:args'.any A.own=false):A.wrap ro dB dM r args σ=A.wrap ro dB dM r args' σ:=by unfold A.wrap;rw[h1,h2,hn,Bool.and_false,aV,aV]
theorem Oq{τ:Type}{ro:Bool}{dB:List Sh}{dM:Sh}{r:aq→Heap→aB}{args args':aq}{σ:Heap}{T:Option τ}{enc:τ→AV}(hn:A.cj dB args=args')(h:args.any A.own=false)(e:Rf (r args' σ) T (λt b=>A.nn dM b.1=enc t∧b.2=σ)):∀t,T=some t→A.wrap ro dB dM r args σ=some (enc t,σ):=by intro t ht;obtain⟨⟨v,σ'⟩,h1,h2,h3⟩:=e t ht;simp only at h2 h3;subst h3;exact wrap_eq h (by rw[hn];exact h1) h2
theorem Wr{τ:Type}{ro:Bool}{dB:List Sh}{dM:Sh}{f:AV→Heap→aB}{x0 y0:AV}{σ:Heap}{T:Option τ}{enc:τ→AV}(hn:A.cj dB [x0]=[y0])(h:([x0]:aq).any A.own=false)(e:Rf (f y0 σ) T (λt b=>A.nn dM b.1=enc t∧b.2=σ)):∀t,T=some t→A.wrap ro dB dM (A.eP f) [x0] σ=some (enc t,σ):=Oq hn h e
theorem uf{τ:Type}{ro:Bool}{dB:List Sh}{dM:Sh}{f:AV→AV→Heap→aB}{x0 x1 y0 y1:AV}{σ:Heap}{T:Option τ}{enc:τ→AV}(hn:A.cj dB [x0,x1]=[y0,y1])(h:([x0,x1]:aq).any A.own=false)(e:Rf (f y0 y1 σ) T (λt b=>A.nn dM b.1=enc t∧b.2=σ)):∀t,T=some t→A.wrap ro dB dM (A.dA f) [x0,x1] σ=some (enc t,σ):=Oq hn h e
end
section
inductive Ct where
 |s(sz:Nat)(es:List aq)
 |m(es:List (AV×AV))
 |b(cs:aq)
def tD:AV→Option Nat
 |.os id _ _ _ _=>some id
 |.om id=>some id
 |.op id _=>some id
 |_=>none
def Own(n:Nat)(σ:Heap)(p:AV×Ct):Prop:=match p.2 with
 |.s sz es=>(p.1=.au∧es=[])∨∃id g off a,p.1=.os id g sz off es.length∧n≤id∧σ[id]? =some (.arr g sz a)∧off≤a.length∧a.drop off=es
 |.m es=>∃id,p.1=.om id∧n≤id∧σ[id]? =some (.map es)
 |.b cs=>∃id,p.1=.op id 0∧n≤id∧σ[id]? =some (.box cs)
structure Hp (aO σ : Heap) (L : List (AV × Ct)) : Prop where
 pre:∃bs,σ=aO++bs
 own:∀(i:Nat)p,L[i]? =some p→Own aO.length σ p
 sep:∀(i j:Nat)p q a,L[i]? =some p→L[j]? =some q→tD p.1=some a→tD q.1=some a→i=j
section
variable {aO σ σ' : Heap} {L : List (AV × Ct)} {n : Nat}
theorem Yh(σ:Heap):Hp σ σ []:=⟨⟨[],by simp⟩,by simp,by simp⟩
theorem IA{p:AV×Ct}{a:Nat}(h:Own n σ p)(e:tD p.1=some a):n≤a∧a<σ.length:=by
 obtain⟨v,c⟩:=p;cases c with
 |s sz es=>
  rcases h with⟨h1,_⟩|⟨id,g,off,x,h1,h2,h3,_⟩
  ·simp only at h1;subst h1;cases e
  ·simp only at h1;subst h1;injection e with e;subst e;exact⟨h2,(cq.1 h3).1⟩
 |m es=>obtain⟨id,h1,h2,h3⟩:=h;simp only at h1;subst h1;injection e with e;subst e;exact⟨h2,(cq.1 h3).1⟩
 |b es=>obtain⟨id,h1,h2,h3⟩:=h;simp only at h1;subst h1;injection e with e;subst e;exact⟨h2,(cq.1 h3).1⟩
theorem Nw{p:AV×Ct}(h:Own n σ p)(k:∀a,tD p.1=some a→σ'[a]? =σ[a]?):Own n σ' p:=by
 obtain⟨v,c⟩:=p;cases c with
 |s sz es=>
  rcases h with h|⟨id,g,off,x,h1,h2,h3,h4⟩
  ·exact .inl h
  ·simp only at h1;subst h1;exact .inr ⟨id,g,off,x,rfl,h2,by rw[k id rfl];exact h3,h4⟩
 |m es=>obtain⟨id,h1,h2,h3⟩:=h;simp only at h1;subst h1;exact⟨id,rfl,h2,by rw[k id rfl];exact h3⟩
 |b es=>obtain⟨id,h1,h2,h3⟩:=h;simp only at h1;subst h1;exact⟨id,rfl,h2,by rw[k id rfl];exact h3⟩
theorem XD(h:∃bs,σ=aO++bs){id:Nat}(hn:aO.length≤id)(b:bu):∃bs,σ.set id b=aO++bs:=by obtain⟨bs,rfl⟩:=h;exact⟨bs.set (id-aO.length) b,by rw[qt _ _ hn]⟩
theorem Yi(H:Hp aO σ L){k id:Nat}{h h':AV}{c c':Ct}{b:bu}(hk:L[k]? =some (h,c))(hi:tD h=some id)(hi':tD h'=some id)(ho:Own aO.length (σ.set id b) (h',c')):Hp aO (σ.set id b) (L.set k (h',c')):=by
 have hid:=IA (H.own k _ hk) hi;have wN:=(cq.1 hk).1;refine⟨XD H.pre hid.1 b,λi p hp=>?_,λi j p q a hp hq e1 e2=>?_⟩
 ·rw[fO]at hp;split at hp
  ·rename_i e;subst e;simp [wN]at hp;subst hp;exact ho
  ·rename_i e;refine Nw (H.own i p hp) λa ha=>?_
   rw[fO];split
   ·rename_i e';subst e';exact absurd (H.sep k i _ _ id hk hp hi ha) e
   ·rfl
 ·have key:∀(i:Nat)(p:AV×Ct),(L.set k (h',c'))[i]? =some p→tD p.1=some a→∃p',L[i]? =some p'∧tD p'.1=some a:=by
   intro i p hp e;rw[fO]at hp;split at hp
   ·rename_i e';subst e';simp [wN]at hp;subst hp;exact⟨_,hk,by rw[hi];rw[hi']at e;exact e⟩
   ·exact⟨p,hp,e⟩
  obtain⟨p',hp',e1'⟩:=key i p hp e1;obtain⟨q',vc,CH⟩:=key j q hq e2;exact H.sep i j p' q' a hp' vc e1' CH
theorem Xh(H:Hp aO σ L){h':AV}{c':Ct}{b:bu}(hi':tD h'=some σ.length)(ho:Own aO.length (σ++[b]) (h',c')):Hp aO (σ++[b]) (L++[(h',c')]):=by
 refine⟨?_,λi p hp=>?_,λi j p q a hp hq e1 e2=>?_⟩
 ·obtain⟨bs,rfl⟩:=H.pre;exact⟨bs++[b],by simp⟩
 ·rw[List.getElem?_append]at hp;split at hp
  ·refine Nw (H.own i p hp) λa ha=>?_
   have:=(IA (H.own i p hp) ha).2;rw[fH this]
  ·have hp':=(cq.1 hp).2;simp at hp';subst hp';exact ho
 ·have key:∀(i:Nat)(p:AV×Ct),(L++[(h',c')])[i]? =some p→tD p.1=some a→(i=L.length∧a=σ.length)∨(L[i]? =some p∧a<σ.length):=by
   intro i p hp e;rw[List.getElem?_append]at hp;split at hp
   ·exact .inr ⟨hp,(IA (H.own i p hp) e).2⟩
   ·obtain⟨h1,h2⟩:=cq.1 hp;simp at h1 h2;subst h2;rw[hi']at e;injection e with e;exact .inl ⟨by omega,e.symm⟩
  rcases key i p hp e1 with⟨a1,a2⟩|⟨a1,a2⟩<;>rcases key j q hq e2 with⟨b1,b2⟩|⟨b1,b2⟩
  ·omega
  ·omega
  ·omega
  ·exact H.sep i j p q a a1 b1 e1 e2
theorem YW(H:Hp aO σ L):Hp aO (σ++[.map []]) (L++[(.om σ.length,.m [])]):=by
 have hl:aO.length≤σ.length:=by obtain⟨bs,rfl⟩:=H.pre;simp
 exact Xh H rfl ⟨σ.length,rfl,hl,by simp⟩
theorem Xg(H:Hp aO σ L){k:Nat}{h key v:AV}{ek:A.EK}{es es':List (AV×AV)}(hk:L[k]? =some (h,.m es))(hok:A.jy ek key=true)(he:A.upd ek key v es=some es'):∃σ',A.ji ek h key v σ=some σ'∧Hp aO σ' (L.set k (h,.m es')):=by obtain⟨id,h1,h2,h3⟩:=H.own k _ hk;simp only at h1 h3;subst h1;have hid:=(cq.1 h3).1;exact⟨σ.set id (.map es'),by simp [A.ji,hok,h3,he],Yi H hk rfl rfl ⟨id,rfl,h2,by simp [hid]⟩⟩
def Qr(aO σ:Heap)(r r':AV):Prop:=(∀d,A.bM σ aO.length (d+1) r=some r')∧(σ=aO→r'=r)
theorem fu{s1:Sh}{v1 w1:AV}{ss:List Sh}{vs ws:aq}(h1:A.nn s1 v1=w1)(h2:A.cj ss vs=ws):A.cj (s1::ss) (v1::vs)=w1::ws:=by simp only[A.cj,h1,h2]
theorem IW:A.cj [] []=[]:=by simp [A.cj]
theorem Qi{ss:List Sh}{vs ws:aq}(h:A.cj ss vs=ws):A.nn (.a ss) (.agg vs)=.agg ws:=by simp only[A.nn,h]
theorem Qk{ss:List Sh}{vs ws:aq}(h:A.cj ss vs=ws):A.nn (.t ss) (.aD vs)=.aD ws:=by simp only[A.nn,h]
theorem NX(d:Nat):∀{es:List (AV×AV)},(∀p∈es,Fz p.1∧Fz p.2)→A.vV σ n d es=some es
 |[],_=>by simp [A.vV]
 |(k,v)::es,h=>by have h1:=h (k,v) (by simp);simp only[A.vV,h1.1 σ n d,h1.2 σ n d,aM,NX d (es:=es) (λp hp=>h p (by simp [hp])),eO]
theorem Yd(H:Hp aO σ L){k:Nat}{h:AV}{es:List (AV×AV)}(hk:L[k]? =some (h,.m es))(hc:∀p∈es,Fz p.1∧Fz p.2):Qr aO σ h (.fm es):=by
 obtain⟨id,h1,h2,h3⟩:=H.own k _ hk;simp only at h1 h3;subst h1;refine⟨λd=>?_,λe=>?_⟩
 ·simp only[A.bM,Nat.not_lt.2 h2,if_false,h3,NX d hc,eO]
 ·subst e;have:=(cq.1 h3).1;omega
theorem Yg(H:Hp aO σ L){r r':AV}(h:Qr aO σ r r'):A.fin aO r σ=some (r',aO):=by
 obtain⟨bs,hb⟩:=H.pre;subst hb;by_cases pR:bs=[]
 ·subst pR;rw[List.append_nil]at h ⊢;rw[ep,h.2 rfl]
 ·unfold A.fin;rw[aQ (by simpa using pR),aP (by simp),h.1 7];rfl
end
section
variable {κ ν : Type} [DecidableEq κ]
def jX(k:κ):List (κ×ν)→Option ν
 |[]=>none
 |(k',v)::r=>if k=k' then some v else jX k r
def nF(k:κ)(v:ν):List (κ×ν)→List (κ×ν)
 |[]=>[(k,v)]
 |(k',v')::r=>if k=k' then(k,v)::r else(k',v')::nF k v r
variable {ek : A.EK} {eK : κ → AV} {eV : ν → AV} (hq : ∀ a b, A.dO ek (eK a) (eK b) = some (decide (a = b)))
include hq
theorem OJ(k:κ):∀l:List (κ×ν),A.find ek (eK k) (l.map λp=>(eK p.1,eV p.2))=some ((jX k l).map eV)
 |[]=>rfl
 |(k',v)::r=>by
  simp only[fP,A.find,hq,aM,jX];by_cases h:k=k'
  ·simp [h]
  ·simp [h,OJ k r]
theorem PI(k:κ)(v:ν):∀l:List (κ×ν),A.upd ek (eK k) (eV v) (l.map λp=>(eK p.1,eV p.2))=some ((nF k v l).map λp=>(eK p.1,eV p.2))
 |[]=>rfl
 |(k',v')::r=>by
  simp only[fP,A.upd,hq,aM,nF];by_cases h:k=k'
  ·simp [h]
  ·simp [h,PI k v r]
end
theorem getD_map{α:Type}(o:Option α)(f:α→AV)(d:α):(o.map f).getD (f d)=f (o.getD d):=by cases o<;>rfl
def yG{κ ν:Type}(eK:κ→AV)(eV:ν→AV)(l:List (κ×ν)):AV:=.fm (l.map λp=>(eK p.1,eV p.2))
section
variable {κ ν : Type} [DecidableEq κ] {ek : A.EK} {eK : κ → AV} {eV : ν → AV} {aO σ : Heap} {L : List (AV × Ct)} {h : AV} {l : List (κ × ν)}
theorem Xi(H:Hp aO σ L)(k:Nat)(hk:L[k]? =some (h,.m (l.map λp=>(eK p.1,eV p.2)))) (hq:∀a b,A.dO ek (eK a) (eK b)=some (decide (a=b))) (x:κ) (v:ν) (hok:A.jy ek (eK x)=true):∃σ',A.ji ek h (eK x) (eV v) σ=some σ'∧Hp aO σ' (L.set k (h,.m ((nF x v l).map λp=>(eK p.1,eV p.2)))):=Xg H hk hok (PI hq x v l)
theorem No(hq:∀a b,A.dO ek (eK a) (eK b)=some (decide (a=b)))(x:κ)(z:ν)(hok:A.jy ek (eK x)=true):A.look ek (yG eK eV l) (eK x) (eV z) σ=some (eV ((jX x l).getD z)):=by simp only[A.look,yG,hok,bA,A.entries,aM,OJ hq,eO,getD_map]
end
section
variable {α : Type} {c : α → aq} {l ys : List α} {aO σ : Heap} {L : List (AV × Ct)} {h : AV} {sz : Nat}
end
end
section
def HP:=(Nat→Option bu)→Prop
namespace HP
def emp:HP:=λh=>∀i,h i=none
def blk(id:Nat)(b:bu):HP:=λh=>∀i,h i=if i=id then some b else none
def star(P Q:HP):HP:=λh=>∃f g,P f∧Q g∧(∀i,f i=none∨g i=none)∧∀i,h i=(f i).or (g i)
def pr(p:Prop):HP:=λh=>p∧∀i,h i=none
def ex{α:Type}(P:α→HP):HP:=λh=>∃x,P x h
instance : Mul HP := ⟨star⟩
theorem M5(P Q:HP):P*Q=Q*P:=by
 have key:∀P Q:HP,∀h,(P*Q) h→(Q*P) h:=by rintro P Q h ⟨f,g,hf,hg,hd,hh⟩;refine⟨g,f,hg,hf,λi=>(hd i).symm,λi=>?_⟩;rw[hh i];rcases hd i with e|e<;>rw[e]<;>simp
 funext h;exact propext ⟨key P Q h,key Q P h⟩
theorem zD(P Q R:HP):P*Q*R=P*(Q*R):=by
 funext h;apply propext;constructor
 ·rintro⟨f,g,⟨f1,f2,h1,h2,JT,hf⟩,hg,hd,hh⟩;refine⟨f1,λi=>(f2 i).or (g i),h1,⟨f2,g,h2,hg,λi=>?_,λi=>rfl⟩,λi=>?_,λi=>?_⟩
  ·have:=hd i;rw[hf i]at this;rcases this with e|e
   ·cases h:f1 i<;>simp [h]at e<;>exact .inl e
   ·exact .inr e
  ·have a:=hd i;have b:=JT i;rw[hf i]at a;rcases b with b|b
   ·exact .inl b
   ·rcases a with a|a
    ·cases h:f1 i<;>simp [h]at a;exact .inl rfl
    ·exact .inr (show(f2 i).or (g i)=none by rw[b,a];rfl)
  ·rw[hh i,hf i];cases f1 i<;>simp
 ·rintro⟨f,g,hf,⟨g1,g2,h1,h2,JT,hg⟩,hd,hh⟩;refine⟨λi=>(f i).or (g1 i),g2,⟨f,g1,hf,h1,λi=>?_,λi=>rfl⟩,h2,λi=>?_,λi=>?_⟩
  ·have:=hd i;rw[hg i]at this;rcases this with e|e
   ·exact .inl e
   ·cases h:g1 i<;>simp [h]at e;exact .inr rfl
  ·have a:=hd i;have b:=JT i;rw[hg i]at a;rcases b with b|b
   ·rcases a with a|a
    ·exact .inl (show(f i).or (g1 i)=none by rw[a,b];rfl)
    ·rw[b]at a;exact .inr (by simpa using a)
   ·exact .inr b
  ·show h i=((f i).or (g1 i)).or (g2 i);rw[hh i,hg i];cases f i<;>simp
theorem xp(P:HP):emp*P=P:=by
 funext h;apply propext;constructor
 ·rintro⟨f,g,hf,hg,hd,hh⟩;have:h=g:=by funext i;rw[hh i,hf i];rfl
  rw[this];exact hg
 ·intro hp;exact⟨λ_=>none,h,λ_=>rfl,hp,λ_=>.inl rfl,λi=>by simp⟩
theorem WB(P:HP):P*emp=P:=by rw[M5,xp]
instance : Std.Associative (α := HP) (· * ·) := ⟨zD⟩
instance : Std.Commutative (α := HP) (· * ·) := ⟨M5⟩
end HP
open HP
structure Hs (B : bu → Prop) (aO σ : Heap) (P : HP) : Prop where
 pre:∃bs,σ=aO++bs∧∀b∈bs,B b
 own:∃h,P h∧∀i b,h i=some b→aO.length≤i∧σ[i]? =some b
def eD:bu→Prop:=λ_=>True
section
variable {B : bu → Prop} {aO σ : Heap} {P Q R : HP} {id : Nat} {b b' : bu}
theorem kI(e:P=Q)(H:Hs B aO σ P):Hs B aO σ Q:=e▸H
theorem N2(k:∀h,P h→Q h)(H:Hs B aO σ (P*R)):Hs B aO σ (Q*R):=by obtain⟨h1,h,⟨f,g,hf,hg,hd,hh⟩,h2⟩:=H;exact⟨h1,h,⟨f,g,k f hf,hg,hd,hh⟩,h2⟩
theorem Ic(H:Hs B aO σ (P*R)):Hs B aO σ R:=by
 obtain⟨h1,h,⟨f,g,hf,hg,hd,hh⟩,h2⟩:=H;refine⟨h1,g,hg,λi b hb=>h2 i b ?_⟩;rw[hh i];rcases hd i with e|e
 ·rw[e,hb];rfl
 ·rw[e]at hb;cases hb
theorem uw{p:Prop}:Hs B aO σ (pr p*R)↔p∧Hs B aO σ R:=by
 constructor
 ·intro H;refine⟨?_,Ic H⟩;obtain⟨h1,h,⟨f,g,hf,hg,hd,hh⟩,h2⟩:=H;exact hf.1
 ·rintro⟨hp,h1,h,hr,h2⟩;exact⟨h1,h,⟨λ_=>none,h,⟨hp,λ_=>rfl⟩,hr,λ_=>.inl rfl,λi=>by simp⟩,h2⟩
theorem BK(σ:Heap):Hs B σ σ emp:=⟨⟨[],by simp,by simp⟩,λ_=>none,λ_=>rfl,λ_ _ h=>by cases h⟩
theorem Yj(H:Hs B aO σ P):aO.length≤σ.length:=by obtain⟨⟨bs,rfl,_⟩,_⟩:=H;simp
theorem qj(H:Hs B aO σ (blk id b*R)):aO.length≤id∧σ[id]? =some b:=by obtain⟨h1,h,⟨f,g,hf,hg,hd,hh⟩,h2⟩:=H;exact h2 id b (by rw[hh id,hf id];simp)
theorem P8(H:Hs B aO σ (blk id b*R)):B b:=by obtain⟨h1,h2⟩:=qj H;obtain⟨⟨bs,rfl,hb⟩,_⟩:=H;rw[fD h1]at h2;exact hb b (cM h2)
theorem BL(H:Hs B aO σ (blk id b*R))(hb:B b'):Hs B aO (σ.set id b') (blk id b'*R):=by
 obtain⟨hid,iY⟩:=qj H;have hlt:=(cq.1 iY).1;obtain⟨⟨bs,rfl,hB⟩,h,⟨f,g,hf,hg,hd,hh⟩,h2⟩:=H;refine⟨⟨bs.set (id-aO.length) b',by rw[qt _ _ hid],λx hx=>?_⟩,λi=>if i=id then some b' else g i,⟨λi=>if i=id then some b' else none,g,λi=>rfl,hg,λi=>?_,λi=>?_⟩,λi x hx=>?_⟩
 ·rcases List.mem_or_eq_of_mem_set hx with hx|hx
  ·exact hB x hx
  ·subst hx;exact hb
 ·have:=hd i;rw[hf i]at this;by_cases e:i=id
  ·simp only[e,if_true]at this ⊢;rcases this with h|h
   ·cases h
   ·exact .inr h
  ·simp [e]
 ·by_cases e:i=id<;>simp [e]
 ·by_cases e:i=id
  ·subst e;simp only[if_true,Option.some.injEq]at hx;subst hx;exact⟨hid,by rw[l8 hlt]⟩
  ·simp only[e,if_false]at hx;rw[List.getElem?_set_ne (λe'=>e e'.symm)];have:=h2 i x (by rw[hh i,hf i];simp [e,hx]);exact this
theorem OO(H:Hs B aO σ R)(hb:B b):Hs B aO (σ++[b]) (blk σ.length b*R):=by
 have hl:=Yj H;obtain⟨⟨bs,rfl,hB⟩,h,hr,h2⟩:=H;have hn:∀i x,h i=some x→i<(aO++bs).length:=λi x hx=>(cq.1 (h2 i x hx).2).1
 refine⟨⟨bs++[b],by simp,λx hx=>?_⟩,λi=>if i=(aO++bs).length then some b else h i,⟨λi=>if i=(aO++bs).length then some b else none,h,λi=>rfl,hr,λi=>?_,λi=>?_⟩,λi x hx=>?_⟩
 ·rcases ew.1 hx with hx|hx
  ·exact hB x hx
  ·simp at hx;subst hx;exact hb
 ·by_cases e:i=(aO++bs).length
  ·right;cases hi:h i with
   |none=>rfl
   |some x=>have:=hn i x hi;omega
  ·simp only[e,if_false,true_or]
 ·by_cases e:i=(aO++bs).length<;>simp only[e,if_true,if_false,Option.or_some,Option.none_or,Option.some_or]
 ·by_cases e:i=(aO++bs).length
  ·subst e;simp only[if_true,Option.some.injEq]at hx;subst hx;exact⟨hl,by simp⟩
  ·simp only[e,if_false]at hx;obtain⟨k1,k2⟩:=h2 i x hx;exact⟨k1,by rw[fH (hn i x hx)];exact k2⟩
end
section
variable {α : Type} {E : aq → α → HP} {B : bu → Prop} {aO σ : Heap} {R : HP}
def els(E:aq→α→HP):List aq→List α→HP
 |[],[]=>emp
 |e::es,x::l=>E e x*els E es l
 |_,_=>pr False
theorem EC:∀{es:List aq}{l:List α}{R:HP},Hs B aO σ (els E es l*R)→es.length=l.length
 |[],[],_,_=>rfl
 |[],_::_,_,H=>(uw.1 H).1.elim
 |_::_,[],_,H=>(uw.1 H).1.elim
 |e::es,x::l,R,H=>by have:=EC (es:=es) (l:=l) (R:=E e x*R) (kI (by rw[els];ac_rfl) H);simp [this]
theorem BB:∀{qC mW:List aq}{l1 l2:List α},qC.length=l1.length→els E (qC++mW) (l1++l2)=els E qC l1*els E mW l2
 |[],mW,[],l2,_=>by rw[els,xp];rfl
 |e::qC,mW,x::l1,l2,h=>by simp only[nr,els];rw[BB (by simpa using h)];ac_rfl
theorem NS(e:aq)(x:α):els E [e] [x]=E e x:=by rw[els,els,WB]
def fl(c:α→aq):aq→α→HP:=λe x=>pr (e=c x)
theorem zZ{c:α→aq}:∀{es:List aq}{l:List α}{R:HP},Hs B aO σ (els (fl c) es l*R)↔es=l.map c∧Hs B aO σ R
 |[],[],R=>by rw[els,xp];simp
 |[],x::l,R=>by show Hs B aO σ (pr False*R)↔_;rw[uw];simp
 |e::es,[],R=>by show Hs B aO σ (pr False*R)↔_;rw[uw];simp
 |e::es,x::l,R=>by rw[els,fl,zD,uw,zZ,fP,List.cons.injEq,and_assoc]
def Sl(E:aq→α→HP)(sz:Nat)(v:AV)(l:List α):HP:=λh=>(l=[]∧(v=.au∨v=.ez)∧emp h)∨∃id g seg,v=.os id g sz 0 l.length∧(blk id (.arr g sz seg)*els E seg l) h
variable {sz : Nat} {v : AV} {l : List α}
theorem By(H:Hs B aO σ (Sl E sz v l*R)):(l=[]∧(v=.au∨v=.ez)∧Hs B aO σ R)∨∃id g seg,v=.os id g sz 0 l.length∧seg.length=l.length∧Hs B aO σ (blk id (.arr g sz seg)*(els E seg l*R)):=by
 have H2:=Ic H;obtain⟨h1,h,⟨f,g,hf,hg,hd,hh⟩,h2⟩:=H;rcases hf with⟨k1,k2,k3⟩|⟨id,gg,seg,k1,k2⟩
 ·exact .inl ⟨k1,k2,H2⟩
 ·have K:Hs B aO σ (blk id (.arr gg sz seg)*(els E seg l*R)):=kI (zD _ _ _) ⟨h1,h,⟨f,g,k2,hg,hd,hh⟩,h2⟩;exact .inr ⟨id,gg,seg,k1,EC (R:=blk id (.arr gg sz seg)*R) (kI (by ac_rfl) K),K⟩
theorem vr(H:Hs B aO σ R)(hv:v=.au∨v=.ez):Hs B aO σ (Sl E sz v []*R):=
 N2 (P:=emp) (λh k=>.inl ⟨rfl,hv,k⟩) (kI (xp R).symm H)
theorem xI{id g:Nat}{seg:List aq}{n:Nat}(H:Hs B aO σ (blk id (.arr g sz seg)*(els E seg l*R)))(hn:n=l.length:=by rfl):Hs B aO σ (Sl E sz (.os id g sz 0 n) l*R):=
 N2 (P:=blk id (.arr g sz seg)*els E seg l) (λh k=>.inr ⟨id,g,seg,by rw[hn],k⟩) (kI (zD _ _ _).symm H)
theorem BM(H:Hs B aO σ (Sl E sz v l*R)):A.aY v=some (.aj l.length):=by rcases By H with⟨rfl,rfl|rfl,_⟩|⟨id,g,seg,rfl,_⟩<;>rfl
theorem IF{ys:List aq}{xs:List α}{most:Nat}(H:Hs B aO σ (Sl E sz v l*(els E ys xs*R)))(hm:l.length+xs.length≤most)(hB:∀g g' seg,(seg=[]∨B (.arr g sz seg))→B (.arr g' sz (seg++ys))):
  ∃v' σ',A.append sz most v (.sl sz ys) σ=some (v',σ')∧Hs B aO σ' (Sl E sz v' (l++xs)*R):=by
 rcases By H with⟨rfl,hv,H⟩|⟨id,g,seg,rfl,hl,H⟩
 ·have hxl:=EC H;by_cases hy:ys=[]
  ·subst hy;have:xs=[]:=uA (by simpa using hxl.symm);subst this;refine⟨v,σ,?_,vr (Ic H) hv⟩;rcases hv with rfl|rfl<;>simp [A.append,A.elems,A.kE]
  ·refine⟨.os σ.length ys.length sz 0 ys.length,σ++[.arr ys.length sz ys],?_,?_⟩
   ·have:ys.length≤most:=by simp at hm;omega
    rcases hv with rfl|rfl<;>simp [A.append,A.elems,A.kE,hy,this]
   ·have H2:=OO H (by simpa using hB 0 ys.length [] (.inl rfl):B (.arr ys.length sz ys));exact xI H2 (by simpa using hxl)
 ·have hxl:=EC (kI (show _=els E ys xs*(blk id (.arr g sz seg)*(els E seg l*R)) by ac_rfl) H);obtain⟨h1,h2⟩:=qj H;by_cases hy:ys=[]
  ·subst hy;have:xs=[]:=uA (by simpa using hxl.symm);subst this;refine⟨.os id g sz 0 l.length,σ,?_,?_⟩
   ·have:l.length≤most:=by simpa using hm
    simp [A.append,A.elems,A.kE,h2,hl,this]
   ·rw[List.append_nil];exact xI (kI (by rw[els,xp]) H)
  ·have hp:0<ys.length:=List.length_pos_iff.2 hy;refine⟨.os id (g+ys.length) sz 0 (l.length+ys.length),σ.set id (.arr (g+ys.length) sz (seg++ys)),?_,?_⟩
   ·have e1:l.length+ys.length≤most:=by omega
    have e2:seg.take l.length=seg:=jh (by omega);simp [A.append,A.elems,A.kE,h2,hl,e1,hy,e2,hp]
   ·have H2:=BL (b':=.arr (g+ys.length) sz (seg++ys)) H (hB g _ seg (.inr (P8 H)));exact xI (id:=id) (g:=g+ys.length) (seg:=seg++ys) (kI (by rw[BB hl];ac_rfl) H2) (by simp;omega)
end
end
section
open HP
noncomputable def wv (sz most:Nat) (zs:aq) (tO:aq→Heap→aB) (a0 a1 a2:AV) (σ:Heap):aB:=(A.bl sz a0 (some a1) none σ).bind λx1=>(A.aY a2).bind λx2=>(A.eql .i x2 (AV.aj 0)).bind λx3=>A.cond x3 (A.renew [a0,a1,a2] σ a0 σ) ((A.aY a0).bind λx4=>(A.eql .i a1 x4).bind λx5=>A.cond x5 ((A.append sz most a0 a2 σ).bind λr6=>A.renew [a0,a1,a2] σ r6.1 r6.2) ((A.add x4 x2).bind λx7=>A.oz (A.qZ a0) (λx8=>(A.gtr x7 x8).bind λx9=>A.cond x9 ((A.bl sz a0 none (some a1) σ).bind λaS=>(A.add x4 x2).bind λbI=>(A.sub bI a1).bind λbD=>(A.kF sz most zs aS bD σ).bind λgG=>(A.bl sz gG.1 (some a1) none gG.2).bind λbG=>(A.fq sz bG a2 gG.2).bind λig=>(A.add a1 x2).bind λbE=>(A.bl sz gG.1 (some bE) none ig.2).bind λbJ=>(A.bl sz a0 (some a1) none ig.2).bind λbz=>(A.fq sz bJ bz ig.2).bind λeZ=>A.renew [a0,a1,a2] σ gG.1 eZ.2) ((A.add x4 x2).bind λbZ=>(A.bl sz a0 none (some bZ) σ).bind λaT=>(A.add a1 x2).bind λbO=>(A.bl sz aT (some bO) none σ).bind λcg=>(n7 [a2,cg] σ).bind λij=>(A.not ij.1).bind λck=>A.cond ck ((A.add a1 x2).bind λcH=>(A.bl sz aT (some cH) none ij.2).bind λcQ=>(A.bl sz aT (some a1) none ij.2).bind λef=>(A.fq sz cQ ef ij.2).bind λnP=>(A.bl sz aT (some a1) none nP.2).bind λcA=>(A.fq sz cA a2 nP.2).bind λlU=>A.renew [a0,a1,a2] σ aT lU.2) ((A.bl sz aT (some x4) none ij.2).bind λcK=>(A.fq sz cK a2 ij.2).bind λkX=>(A.bl sz aT (some a1) none kX.2).bind λgn=>(tO [gn,x2] kX.2).bind λrS=>A.renew [a0,a1,a2] σ aT rS.2))) (A.qw a0 σ λC2 mE=>(A.gtr x7 (AV.aj C2)).bind λdU=>A.cond dU ((A.bl sz a0 none (some a1) mE).bind λeR=>(A.add x4 x2).bind λjL=>(A.sub jL a1).bind λfK=>(A.kF sz most zs eR fK mE).bind λgm=>(A.bl sz gm.1 (some a1) none gm.2).bind λnU=>(A.fq sz nU a2 gm.2).bind λrT=>(A.add a1 x2).bind λjq=>(A.bl sz gm.1 (some jq) none rT.2).bind λqL=>(A.bl sz a0 (some a1) none rT.2).bind λiE=>(A.fq sz qL iE rT.2).bind λwR=>A.renew [a0,a1,a2] σ gm.1 wR.2) ((A.add x4 x2).bind λgp=>(A.bl sz a0 none (some gp) mE).bind λdJ=>(A.add a1 x2).bind λdV=>(A.bl sz dJ (some dV) none mE).bind λfE=>(n7 [a2,fE] mE).bind λiq=>(A.not iq.1).bind λje=>A.cond je ((A.add a1 x2).bind λiF=>(A.bl sz dJ (some iF) none iq.2).bind λiG=>(A.bl sz dJ (some a1) none iq.2).bind λnV=>(A.fq sz iG nV iq.2).bind λwT=>(A.bl sz dJ (some a1) none wT.2).bind λiV=>(A.fq sz iV a2 wT.2).bind λC7=>A.renew [a0,a1,a2] σ dJ C7.2) ((A.bl sz dJ (some x4) none iq.2).bind λiW=>(A.fq sz iW a2 iq.2).bind λfJ=>(A.bl sz dJ (some a1) none fJ.2).bind λdG=>(tO [dG,x2] fJ.2).bind λr64=>A.renew [a0,a1,a2] σ dJ r64.2)))))
section
variable {σ : Heap} {id g sz off len : Nat} {es : List aq}
theorem cx{α:Type}{X Y:Option α}:A.cond (.bool true) X Y=X:=rfl
theorem bT{α:Type}{X Y:Option α}:A.cond (.bool false) X Y=Y:=rfl
theorem WR{R:Type}{k:AV→Option R}{u:Option R}:A.oz (A.qZ (.os id g sz off len)) k u=u:=rfl
theorem oW{y d k:Nat}(h:k≤y):A.bound y d (some (.aj (k:Int)))=some k:=by
 have:(k:Int)≤y:=by omega
 simp [A.bound,this]
theorem oh{y d:Nat}:A.bound y d none=some d:=rfl
theorem sK(h:σ[id]? =some (.arr g sz es))(hl:off+len≤es.length):A.room σ id g sz off len=es.length-off:=by simp [A.room,h,hl]
theorem MR(h:σ[id]? =some (.kR g sz es)):A.room σ id g sz off len=len:=by simp [A.room,h]
theorem qK{lo hi:Option AV}{r h l:Nat}(hr:A.room σ id g sz off len=r)(hh:A.bound r len hi=some h)(hl:A.bound h 0 lo=some l):A.bl sz (.os id g sz off len) lo hi σ=some (.os id g sz (off+l) (h-l)):=by simp [A.bl,hr,hh,hl]
theorem Iq{a b:Nat}(h:a+b<9223372036854775808):A.add (.aj (a:Int)) (.aj (b:Int))=some (.aj ((a+b:Nat):Int)):=by rw[Ak,cW (by unfold bp;omega)];simp
theorem YJ{a b:Nat}(h:b≤a)(h2:a<9223372036854775808):A.sub (.aj (a:Int)) (.aj (b:Int))=some (.aj ((a-b:Nat):Int)):=by rw[Al,cW (by unfold bp;omega),Int.ofNat_sub h]
theorem Pq(a b:Nat):A.eql .i (.aj (a:Int)) (.aj (b:Int))=some (.bool (decide (a=b))):=by rw[rE];have:((a:Int)=(b:Int))=(a=b):=propext ⟨λh=>by omega,λh=>by omega⟩;simp only[this]
theorem X4{R:Type}{p:Nat→Prop}{k:Nat→Option R}{r:R}(n:Nat)(hn:p n)(h:∀n,p n→k n=some r):A.all p k=some r:=by
 have hx:∃r,∀n,p n→k n=some r:=⟨r,h⟩
 unfold A.all;rw[dif_pos hx];have:=Classical.choose_spec hx n hn;rw[h n hn]at this;injection this with this
 rw[←this]
theorem EB{σ:Heap}{y:AV}{ys:List aq}(h:σ[id]? =some (.arr g sz es))(hl:off+len≤es.length)(hy:A.elems sz y σ=some ys)(h0:ys.length≠0)(h1:len≠0):
  A.fq sz (.os id g sz off len) y σ=some (.aj (ys.take len).length,σ.set id (.arr g sz (es.take off++ys.take len++es.drop (off+(ys.take len).length)))):=by
 simp only[A.fq,hy,aM,h];rw[aP (by simp [hl]),aQ (by simp only[not_or];exact⟨h0,h1⟩)]
theorem Wb(h:σ[id]? =some (.arr g sz es))(hl:off+len≤es.length):A.elems sz (.os id g sz off len) σ=some ((es.drop off).take len):=by simp [A.elems,h,hl]
theorem Vt(h:σ[id]? =some (.kR g sz es))(hl:off+len≤es.length):A.elems sz (.os id g sz off len) σ=some ((es.drop off).take len):=by simp [A.elems,h,hl]
end
section
variable {α : Type} {E : aq → α → HP} {aO σ : Heap} {R : HP} {sz most : Nat} {zs : aq} {tO : aq → Heap → aB} {v : AV} {l : List α} {y : α} {ye : aq} {i : Nat}
theorem NZ(id g n:Nat)(i:AV)(hi:∃k:Int,i=.aj k):A.gen [.os id g sz 0 n,i,.sl sz [ye]]=g+n+1:=by obtain⟨k,rfl⟩:=hi;simp [A.gen]
theorem Xk{id g n:Nat}{seg:List aq}(hs:σ[id]? =some (.arr g sz seg))(hl:seg.length=n)(hi:i<n)(hm:n+1≤most)(hb:n<4611686018427387904):
  wv sz most zs tO (.os id g sz 0 n) (.aj (i:Int)) (.sl sz [ye]) σ=some (.os id (g+n+2) sz 0 (n+1),σ.set id (.arr (g+n+2) sz (seg.take i++[ye]++seg.drop i))):=by
 have hid:=(cq.1 hs).1;have xR:A.gen [.os id g sz 0 n,.aj (i:Int),.sl sz [ye]]=g+n+1:=NZ id g n _ ⟨_,rfl⟩;unfold wv;rw[qK (sK hs (by omega)) oh (oW (k:=i) (by omega)),aM];rw[show A.aY (.sl sz [ye])=some (.aj ((1:Nat):Int))from rfl,aM];rw[show A.eql .i (.aj ((1:Nat):Int)) (.aj 0)=some (.bool false)from rfl,aM];rw[bT];rw[show A.aY (.os id g sz 0 n)=some (.aj (n:Int))from rfl,aM,Pq,aM,cB (by omega)];rw[bT,Iq (by omega),aM,WR];simp only[A.qw,hs];rw[aP (by simp;omega)];refine X4 n (by omega) λc hc=>?_
 obtain⟨qF,mX⟩:=hc;by_cases ht:c=n
 ·subst ht;rw[aP rfl];obtain⟨σ1,uG⟩:∃σ1,σ1=σ.set id (.kR g sz seg):=⟨_,rfl⟩
  have h1:σ1[id]? =some (.kR g sz seg):=by rw[uG,l8 hid]
  have mA:σ1.length=σ.length:=by rw[uG,List.length_set]
  rw[←uG];rw[show A.gtr (.aj ((c+1:Nat):Int)) (.aj (c:Int))=some (.bool true) by simp [A.gtr];omega,aM];rw[cx,qK (MR h1) (oW (k:=i) (by omega)) oh,aM,Iq (by omega),aM,YJ (by omega) (by omega),aM];obtain⟨rows,hrows⟩:∃rows,rows=seg.take i++List.replicate (c+1-i) zs:=⟨_,rfl⟩
  have hrl:rows.length=c+1:=by rw[hrows];simp;omega
  have e1:A.kF sz most zs (.os id g sz (0+0) (i-0)) (.aj ((c+1-i:Nat):Int)) σ1=some (.os σ1.length (c+1) sz 0 (c+1),σ1++[.arr (c+1) sz rows]):=by
   have q1:(0:Int)≤((c+1-i:Nat):Int)∧((c+1-i:Nat):Int)≤most:=by omega
   have q2:i+(c+1-i)=c+1:=by omega
   simp only[A.kF];rw[aP q1];simp only[A.kE,Nat.zero_add,Nat.sub_zero,h1,Int.toNat_natCast,List.length_replicate,List.drop_zero,←hrows];rw[aP (by simp;omega),q2]
  rw[e1,aM];simp only;have h2:(σ1++[bu.arr (c+1) sz rows])[σ1.length]? =some (.arr (c+1) sz rows):=by simp
  rw[qK (sK h2 (by omega)) oh (oW (k:=i) (by omega)),aM];rw[EB (ys:=[ye]) h2 (by omega) (by simp [A.elems]) (by simp) (by omega),aM];have e2:([ye]:List aq).take (c+1-i)=[ye]:=jh (by simp;omega);rw[e2];simp only[Nat.zero_add,List.length_singleton];rw[aM];obtain⟨oZ,Iv⟩:∃oZ,oZ=rows.take i++[ye]++rows.drop (i+1):=⟨_,rfl⟩
  have aa1:oZ.length=c+1:=by rw[Iv];simp;omega
  rw[←Iv];have nB:(σ1++[bu.arr (c+1) sz rows]).set σ1.length (.arr (c+1) sz oZ)=σ1++[.arr (c+1) sz oZ]:=by simp
  rw[nB];have h3:(σ1++[bu.arr (c+1) sz oZ])[σ1.length]? =some (.arr (c+1) sz oZ):=by simp
  have h3':(σ1++[bu.arr (c+1) sz oZ])[id]? =some (.kR g sz seg):=by rw[fH (by omega)];exact h1
  rw[qK (sK h3 (by omega)) oh (oW (k:=i+1) (by omega)),aM];rw[qK (MR h3') oh (oW (k:=i) (by omega)),aM];rw[EB h3 (by omega) (Vt h3' (by omega)) (by simp;omega) (by omega),aM]
  have e3:((seg.drop (0+i)).take (c-i)).take (c+1-(i+1))=seg.drop i:=by rw[Nat.zero_add,jh (by simp;omega),jh (by simp;omega)]
  rw[e3]
  have e4:oZ.take (0+(i+1))++seg.drop i++oZ.drop (0+(i+1)+(seg.drop i).length)=seg.take i++[ye]++seg.drop i:=by
   have q1:oZ.drop (0+(i+1)+(seg.drop i).length)=[]:=List.drop_of_length_le (by simp;omega);have q2:rows.take i=seg.take i:=by rw[hrows,List.take_append_of_le_length (by simp;omega),List.take_take,Nat.min_self]
   have q3:oZ.take (0+(i+1))=seg.take i++[ye]:=by rw[Iv,q2,Nat.zero_add,List.take_append_of_le_length (by simp;omega),jh (by simp;omega)]
   rw[q1,q3];simp
  rw[e4];have Y3:(σ1++[bu.arr (c+1) sz oZ]).set σ1.length (.arr (c+1) sz (seg.take i++[ye]++seg.drop i))=σ1++[.arr (c+1) sz (seg.take i++[ye]++seg.drop i)]:=by simp
  simp only;rw[Y3];have h4:(σ1++[bu.arr (c+1) sz (seg.take i++[ye]++seg.drop i)])[σ1.length]? =some (.arr (c+1) sz (seg.take i++[ye]++seg.drop i)):=by simp
  have iA:(seg.take i++[ye]++seg.drop i).length=c+1:=by simp;omega
  have e5:((seg.take i++[ye]++seg.drop i).drop 0).take (c+1)=seg.take i++[ye]++seg.drop i:=by rw[List.drop_zero,jh (by omega)]
  simp only[A.renew,h4];rw[xR,aP (by simp only[true_and];omega),aQ (by simp [A.PY,mA]),e5];simp only[A.merge,hs,xR];rw[aP]
  ·rw[iA]
  refine⟨by omega,by simp [mA],rfl,by omega,λj hj hne=>?_,by rw[fH (by omega)];exact h1,λz hz=>?_⟩
  ·rw[fH (by omega),uG,List.getElem?_set_ne (λe=>hne e.symm)]
  ·simp only[ew,List.mem_singleton]at hz;rcases hz with(hz|hz)|hz
   ·exact .inl (uC hz)
   ·right;simp [A.rowsOf,hz]
   ·exact .inl (List.mem_of_mem_drop hz)
 ·rw[aQ ht];obtain⟨es,wM⟩:∃es,es=seg++List.replicate (0+c-seg.length) (List.replicate sz AV.undef):=⟨_,rfl⟩
  have hel:es.length=c:=by rw[wM];simp;omega
  have het:∀k,k≤n→es.take k=seg.take k:=λk hk=>by rw[wM,List.take_append_of_le_length (by omega)]
  obtain⟨σ1,uG⟩:∃σ1,σ1=σ.set id (.arr g sz es):=⟨_,rfl⟩
  have h1:σ1[id]? =some (.arr g sz es):=by rw[uG,l8 hid]
  have mA:id<σ1.length:=by rw[uG,List.length_set];exact hid
  rw[←wM,←uG];rw[show A.gtr (.aj ((n+1:Nat):Int)) (.aj (c:Int))=some (.bool false) by simp [A.gtr];omega,aM];rw[bT,Iq (by omega),aM];rw[qK (sK h1 (by omega)) (oW (k:=n+1) (by omega)) oh,aM,aM];simp only[Nat.zero_add,Nat.sub_zero];rw[qK (sK h1 (by omega)) oh (oW (k:=i+1) (by omega)),aM]
  have e1:n7 [.sl sz [ye],.os id g sz (0+(i+1)) (n+1-(i+1))] σ1=some (.bool false,σ1):=by simp only[n7,A.dA,h1];rw[aP];refine⟨by simp,trivial,λe=>?_,by omega⟩;rw[e]at hel;simp at hel;omega
  rw[e1,aM,show A.not (.bool false)=some (.bool true)from rfl,aM,cx,aM];simp only;rw[qK (sK h1 (by omega)) oh (oW (k:=i+1) (by omega)),aM];rw[qK (sK h1 (by omega)) oh (oW (k:=i) (by omega)),aM];rw[EB h1 (by omega) (Wb h1 (by omega)) (by simp;omega) (by omega),aM]
  have e2:((es.drop (0+i)).take (n+1-i)).take (n+1-(i+1))=seg.drop i:=by rw[List.take_take,Nat.zero_add,show min (n+1-(i+1)) (n+1-i)=n-i by omega,List.take_drop,show i+(n-i)=n by omega,het n (bU _),jh (by omega)]
  rw[e2];obtain⟨mW,Fi⟩:∃mW,mW=es.take (0+(i+1))++seg.drop i++es.drop (0+(i+1)+(seg.drop i).length):=⟨_,rfl⟩
  have aaW:mW.length=c:=by rw[Fi];simp;omega
  rw[←Fi];have h2:(σ1.set id (.arr g sz mW))[id]? =some (.arr g sz mW):=l8 mA;simp only;rw[qK (sK h2 (by omega)) oh (oW (k:=i) (by omega)),aM];rw[EB (ys:=[ye]) h2 (by omega) (by simp [A.elems]) (by simp) (by omega),aM];have e3:([ye]:List aq).take (n+1-i)=[ye]:=jh (by simp;omega);rw[e3];simp only[Nat.zero_add,List.length_singleton,List.set_set];obtain⟨Ax,Jg⟩:∃Ax,Ax=mW.take i++[ye]++mW.drop (i+1):=⟨_,rfl⟩
  have aaX:Ax.length=c:=by rw[Jg];simp;omega
  rw[←Jg];have h3:(σ1.set id (.arr g sz Ax))[id]? =some (.arr g sz Ax):=l8 mA
  have e4:(Ax.drop 0).take (n+1)=seg.take i++[ye]++seg.drop i:=by
   have q1:mW.take i=seg.take i:=by rw[Fi,jg,List.take_append_of_le_length (by simp;omega),List.take_take,show min i (0+(i+1))=i by omega,het i (by omega)]
   have q2:mW.drop (i+1)=seg.drop i++es.drop (i+1+(seg.drop i).length):=by rw[Fi,Nat.zero_add,jg,List.drop_append_of_le_length (by simp;omega),List.drop_of_length_le (by simp;omega),List.nil_append]
   rw[List.drop_zero,Jg,q1,q2,←jg,List.take_append_of_le_length (by simp;omega),jh (by simp;omega)]
  simp only[A.renew,h3];rw[xR,aP (by simp only[true_and];omega),aP (.inl hid),e4,List.set_set,uG,List.set_set]
theorem Xj{id g n:Nat}{seg:List aq}(hs:σ[id]? =some (.arr g sz seg))(hl:seg.length=n)(hm:n+1≤most):
  wv sz most zs tO (.os id g sz 0 n) (.aj (n:Int)) (.sl sz [ye]) σ=some (.os id (g+n+2) sz 0 (n+1),σ.set id (.arr (g+n+2) sz (seg++[ye]))):=by
 have hid:=(cq.1 hs).1;have xR:A.gen [.os id g sz 0 n,.aj (n:Int),.sl sz [ye]]=g+n+1:=NZ id g n _ ⟨_,rfl⟩;unfold wv;rw[qK (sK hs (by omega)) oh (oW (k:=n) (by omega)),aM];rw[show A.aY (.sl sz [ye])=some (.aj ((1:Nat):Int))from rfl,aM];rw[show A.eql .i (.aj ((1:Nat):Int)) (.aj 0)=some (.bool false)from rfl,aM];rw[bT];rw[show A.aY (.os id g sz 0 n)=some (.aj (n:Int))from rfl,aM,Pq,aM,cy rfl,cx]
 have e1:A.append sz most (.os id g sz 0 n) (.sl sz [ye]) σ=some (.os id (g+1) sz 0 (n+1),σ.set id (.arr (g+1) sz (seg++[ye]))):=by have q:seg.take n=seg:=jh (by omega);simp [A.append,A.elems,A.kE,hs,hl,hm,q]
 rw[e1,aM];have h2:(σ.set id (.arr (g+1) sz (seg++[ye])))[id]? =some (.arr (g+1) sz (seg++[ye])):=l8 hid;simp only[A.renew,h2];rw[xR,aP (by simp;omega),aP (.inl hid),List.set_set,List.drop_zero,jh (by simp;omega)]
theorem Xl(hv:v=.au∨v=.ez)(hm:1≤most):wv sz most zs tO v (.aj 0) (.sl sz [ye]) σ=some (.os σ.length 2 sz 0 1,σ++[.arr 2 sz [ye]]):=by
 have xR:∀w:AV,(w=.au∨w=.ez)→A.gen [w,.aj 0,.sl sz [ye]]=1:=by rintro w (rfl|rfl)<;>simp [A.gen]
 have hbd:A.bound 0 0 (some (AV.aj 0))=some 0:=oW (y:=0) (d:=0) (k:=0) (bU _)
 have key:∀w:AV,(w=.au∨w=.ez)→A.renew [w,.aj 0,.sl sz [ye]] σ (.os σ.length 1 sz 0 1) (σ++[.arr 1 sz [ye]])=some (.os σ.length 2 sz 0 1,σ++[.arr 2 sz [ye]]):=by
  intro w hw;have h2:(σ++[bu.arr 1 sz [ye]])[σ.length]? =some (.arr 1 sz [ye]):=by simp
  simp only[A.renew,h2];rw[xR w hw,aP (by simp),aP (.inr (by rcases hw with rfl|rfl<;>rfl))];simp
 unfold wv;rw[show A.aY (.sl sz [ye])=some (.aj ((1:Nat):Int))from rfl];rcases hv with rfl|rfl
 ·rw[show A.bl sz .au (some (.aj 0)) none σ=some .au by simp [A.bl,oh,hbd],aM,aM];rw[show A.eql .i (.aj ((1:Nat):Int)) (.aj 0)=some (.bool false)from rfl,aM,bT];rw[show A.aY .au=some (.aj 0)from rfl,aM,show A.eql .i (.aj 0) (.aj 0)=some (.bool true)from rfl,aM,cx];rw[show A.append sz most .au (.sl sz [ye]) σ=some (.os σ.length 1 sz 0 1,σ++[.arr 1 sz [ye]]) by simp [A.append,A.elems,A.kE,hm],aM];exact key _ (.inl rfl)
 ·rw[show A.bl sz .ez (some (.aj 0)) none σ=some .ez by simp [A.bl,oh,hbd],aM,aM];rw[show A.eql .i (.aj ((1:Nat):Int)) (.aj 0)=some (.bool false)from rfl,aM,bT];rw[show A.aY .ez=some (.aj 0)from rfl,aM,show A.eql .i (.aj 0) (.aj 0)=some (.bool true)from rfl,aM,cx];rw[show A.append sz most .ez (.sl sz [ye]) σ=some (.os σ.length 1 sz 0 1,σ++[.arr 1 sz [ye]]) by simp [A.append,A.elems,A.kE,hm],aM];exact key _ (.inr rfl)
theorem O2{B:bu→Prop}(H:Hs B aO σ (Sl E sz v l*(E ye y*R)))(hi:i≤l.length)(hm:l.length+1≤most)(hb:l.length<4611686018427387904)(hB:∀g g' seg k,(seg=[]∨B (.arr g sz seg))→B (.arr g' sz (seg.take k++[ye]++seg.drop k))):
  ∃v' σ',wv sz most zs tO v (.aj (i:Int)) (.sl sz [ye]) σ=some (v',σ')∧Hs B aO σ' (Sl E sz v' (l.take i++[y]++l.drop i)*R):=by
 rcases By H with⟨rfl,hv,H⟩|⟨id,g,seg,rfl,hl,H⟩
 ·have hi0:i=0:=by simpa using hi
  subst hi0;refine⟨_,_,Xl hv (by simpa using hm),?_⟩;have H2:=OO (b:=.arr 2 sz [ye]) H (by simpa using hB 0 2 [] 0 (.inl rfl));exact xI (id:=σ.length) (g:=2) (seg:=[ye]) (kI (by simp only[List.take_nil,List.drop_nil,List.nil_append,List.append_nil,NS]) H2) rfl
 ·obtain⟨h1,h2⟩:=qj H
  have e:∃g',wv sz most zs tO (.os id g sz 0 l.length) (.aj (i:Int)) (.sl sz [ye]) σ=some (.os id g' sz 0 (l.length+1),σ.set id (.arr g' sz (seg.take i++[ye]++seg.drop i))):=by
   by_cases hil:i=l.length
   ·subst hil;refine⟨g+l.length+2,?_⟩;rw[Xj h2 hl hm,jh (by omega),List.drop_of_length_le (by omega),List.append_nil]
   ·exact⟨_,Xk h2 hl (by omega) hm hb⟩
  obtain⟨g',e⟩:=e;refine⟨_,_,e,?_⟩;have H2:=BL (b':=.arr g' sz (seg.take i++[ye]++seg.drop i)) H (hB g g' seg i (.inr (P8 H)));refine xI (id:=id) (g:=g') (seg:=seg.take i++[ye]++seg.drop i) (kI ?_ H2) (by simp;omega)
  have q:els E seg l=els E (seg.take i) (l.take i)*els E (seg.drop i) (l.drop i):=by rw[←BB (by simp;omega),List.take_append_drop,List.take_append_drop]
  rw[BB (qC:=seg.take i++[ye]) (l1:=l.take i++[y]) (by simp;omega),BB (by simp;omega),NS,q];ac_rfl
end
end
section
def qx{α:Type}(f:Nat→α→Int):List α→Nat→Int
 |[],_=>0
 |x::l,i=>if f i x=0 then qx f l (i+1)else f i x
section
variable {α β γ S B R : Type}
theorem D5{f:Nat→α→Int}:∀(l:List α)(i:Nat),qx f l i=0↔∀j x,l[j]? =some x→f (i+j) x=0
 |[],i=>by simp [qx]
 |y::l,i=>by
  rw[qx];by_cases h:f i y=0
  ·rw[aP h,D5 l (i+1)];constructor
   ·intro k j x hx;cases j with
    |zero=>simp at hx;subst hx;exact h
    |succ j=>have:=k j x (by simpa using hx);rwa[show i+1+j=i+(j+1) by omega]at this
   ·intro k j x hx;have:=k (j+1) x (by simpa using hx);rwa[show i+(j+1)=i+1+j by omega]at this
  ·rw[aQ h];exact⟨λe=>absurd e h,λk=>absurd (k 0 y rfl) h⟩
theorem H9{l:List α}{body:Nat→α→S→Option (Lr S B R)}{fin:S→Option B}{s:S}{K1:B→Option γ}{K2:R→Option γ}(hl:l.length≤bX):oB l body fin s K1 K2=(nw body fin l 0 s).bind λq=>q.elim K1 K2:=aP hl
theorem En{f:Nat→α→Int}{l:List α}{body:Nat→α→Unit→Option (Lr Unit Unit Int)}{fin:Unit→Option Unit}{s:Unit}{K1:Unit→Option γ}{K2:Int→Option γ}(hl:l.length≤bX)(hb:∀i x,l[i]? =some x→body i x ()=some (if f i x=0 then .go ()else .ret (f i x)))(hf:fin ()=some ():=by rfl):oB l body fin s K1 K2=if qx f l 0=0 then K1 ()else K2 (qx f l 0):=by
 rw[H9 hl]
 have key:∀(rest pre:List α),l=pre++rest→nw body fin rest pre.length ()=some (if qx f rest pre.length=0 then .inl ()else .inr (qx f rest pre.length)):=by
  intro rest;induction rest with
  |nil=>intro pre _;simp [nw,hf,qx]
  |cons x rest ih=>
   intro pre hp;rw[nw,hb pre.length x (by rw[hp];simp),aM,qx];by_cases h:f pre.length x=0
   ·simp only[h,if_true];have:=ih (pre++[x]) (by simpa using hp);simpa using this
   ·simp only[h,if_false]
 have k:=key l [] rfl;rw[List.length_nil]at k;rw[show s=()from rfl,k,aM];split<;>rfl
theorem EE{p:Prop}[Decidable p]{k f:Int}{Y:Option (Lr Unit Unit Int)}(hk:k≠0)(h:Y=some (if f=0 then .go ()else .ret f)):(if p then some (.ret k)else Y)=some (if(if p then k else f)=0 then .go ()else .ret (if p then k else f)):=by
 by_cases hp:p
 ·simp [hp,hk]
 ·simp [hp,h]
theorem go_ret:(some (.go ()):Option (Lr Unit Unit Int))=some (if(0:Int)=0 then .go ()else .ret 0):=rfl
theorem Ng(k:Int):(if k=0 then some (.go ())else some (.ret k):Option (Lr Unit Unit Int))=some (if k=0 then .go ()else .ret k):=by split<;>rfl
theorem Mz{p:α→Bool}{l:List α}{body:Nat→α→Unit→Option (Lr Unit Unit R)}{r:α→R}{fin:Unit→Option Unit}{s:Unit}{K1:Unit→Option γ}{K2:R→Option γ}(hl:l.length≤bX)(hb:∀i x,l[i]? =some x→body i x ()=some (if p x=true then .ret (r x)else .go ()))(hf:fin ()=some ():=by rfl):oB l body fin s K1 K2=match l.find? p with|some x=>K2 (r x)|none=>K1 ():=by
 rw[H9 hl]
 have key:∀(rest pre:List α),l=pre++rest→nw body fin rest pre.length ()=some (match rest.find? p with|some x=>.inr (r x)|none=>.inl ()):=by
  intro rest;induction rest with
  |nil=>intro pre _;simp [nw,hf]
  |cons x rest ih=>
   intro pre hp;rw[nw,hb pre.length x (by rw[hp];simp),aM,List.find?_cons];cases h:p x
   ·simp only[Bool.false_eq_true,if_false];have:=ih (pre++[x]) (by simpa using hp);simpa using this
   ·simp only[if_true]
 have k:=key l [] rfl;rw[List.length_nil]at k;rw[show s=()from rfl,k,aM];cases l.find? p<;>rfl
theorem MA{l:List α}{body:Nat→α→S→Option (Lr S B R)}{fin:S→Option B}{s:S}{K1:B→Option γ}{K2:R→Option γ}(g:S→α→S)(P:Nat→S→Prop)(hl:l.length≤bX)(h0:P 0 s)(hP:∀i x s,l[i]? =some x→P i s→P (i+1) (g s x))(hb:∀i x s,l[i]? =some x→P i s→body i x s=some (.go (g s x))):oB l body fin s K1 K2=(fin (l.foldl g s)).bind K1:=by
 rw[H9 hl]
 have key:∀(rest pre:List α)(s:S),l=pre++rest→P pre.length s→nw body fin rest pre.length s=(fin (rest.foldl g s)).map .inl:=by
  intro rest;induction rest with
  |nil=>intro pre s _ _;simp [nw]
  |cons x rest ih=>
   intro pre s hp hq;have hx:l[pre.length]? =some x:=by rw[hp];simp
   rw[nw,hb pre.length x s hx hq,aM,List.foldl_cons];have:=ih (pre++[x]) (g s x) (by simpa using hp) (by simpa using hP _ _ _ hx hq);simpa using this
 have k:=key l [] s rfl h0;rw[List.length_nil]at k;rw[k];cases fin (l.foldl g s)<;>rfl
def pv [Inhabited α](l:List α)(i:Nat):α:=if 0<i then l.getD (i-1) default else default
theorem Ov{l:List α}{i:Int}{x:α}(h0:0≤i)(h:l[i.toNat]? =some x):tQ l i=some x:=by rw[tQ,aP h0,h]
theorem EI [Inhabited α]{l:List α}{i:Nat}{x:α}(h:l[i]? =some x)(hl:l.length≤bX):(if decide (0<(i:Int))=true then tQ l (IntKind.i64.wrap ((i:Int) -1))else some default)=some (pv l i):=by
 have hi:=(cq.1 h).1;unfold pv;by_cases h0:0<i
 ·rw[aP (by simpa using h0),aP h0,cW (by unfold bp;unfold bX at hl;omega)];refine Ov (by omega) ?_;have:((i:Int) -1).toNat=i-1:=by omega
  rw[this,List.getD,cu (by omega)];rfl
 ·rw[aQ (by simpa using h0),aQ h0]
theorem YO{a b:Int}:(([a,b]:List Int).find? λn=>decide (¬n=0)).getD 0=if ¬(a=0)then a else b:=by
 by_cases ha:a=0
 ·by_cases hb:b=0<;>simp [ha,hb,List.find?]
 ·simp [ha,List.find?]
end
theorem Bz(s:ByteArray):s.toList=s.data.toList:=ByteArray.toList_eq s
theorem HY:∀(a b:List UInt8),Lib.compareBytes a b<0↔Op.bytesLess a b=true
 |[],[]=>by simp [Lib.compareBytes,Op.bytesLess]
 |[],_::_=>by simp [Lib.compareBytes,Op.bytesLess]
 |_::_,[]=>by simp [Lib.compareBytes,Op.bytesLess]
 |a::x,b::y=>by
  rw[Lib.compareBytes,Op.bytesLess];by_cases h1:a<b
  ·simp [h1]
  ·by_cases h2:b<a
   ·have:a≠b:=by rintro rfl;exact h1 h2
    simp [h1,h2,this]
   ·have:a=b:=UInt8.le_antisymm (UInt8.not_lt.1 h2) (UInt8.not_lt.1 h1);subst this;simp [UInt8.lt_irrefl,HY x y]
theorem HX:∀(a b:List UInt8),Lib.compareBytes a b=0↔a=b
 |[],[]=>by simp [Lib.compareBytes]
 |[],_::_=>by simp [Lib.compareBytes]
 |_::_,[]=>by simp [Lib.compareBytes]
 |a::x,b::y=>by
  rw[Lib.compareBytes];by_cases h1:a<b
  ·have:a≠b:=by rintro rfl;exact UInt8.lt_irrefl _ h1
   simp [h1,this]
  ·by_cases h2:b<a
   ·have:a≠b:=by rintro rfl;exact UInt8.lt_irrefl _ h2
    simp [h1,h2,this]
   ·have:a=b:=UInt8.le_antisymm (UInt8.not_lt.1 h2) (UInt8.not_lt.1 h1);subst this;simp [UInt8.lt_irrefl,HX x y]
def iT(a b:bP):Bool:=decide (a.unit<b.unit)||(decide (a.unit=b.unit)&&Op.bytesLess a.param.toList b.param.toList)
def wm(a b:bP):Int:=if ¬(a.unit=b.unit)then(if a.unit<b.unit then -1 else 1)else Lib.compareBytes a.param.data.toList b.param.data.toList
theorem NP(a b:bP):wm a b<0↔iT a b=true:=by
 unfold wm iT;by_cases h:a.unit=b.unit
 ·simp [h,Bz,HY]
 ·by_cases h2:a.unit<b.unit<;>simp [h,h2]
theorem WV(a b:bP):wm a b=0↔a=b:=by
 obtain⟨u,p⟩:=a;obtain⟨v,q⟩:=b;unfold wm;by_cases h:u=v
 ·subst h;simp only[not_true_eq_false,if_false,HX,bP.mk.injEq,true_and];exact⟨λe=>by obtain⟨⟨p⟩⟩:=p;obtain⟨⟨q⟩⟩:=q;simp at e;subst e;rfl,λe=>by rw[e]⟩
 ·by_cases h2:u<v<;>simp [h,h2]
end
def bK(n lo hi:Int):Bool:=decide (lo≤n∧n≤hi)
def yU(c:UInt8):Bool:=decide (97≤c.toNat∧c.toNat≤122)||decide (48≤c.toNat∧c.toNat≤57)||decide (c.toNat=45)
def uM(s:ByteArray):Bool:=s.data.toList.all yU&&decide (0<s.size)
def l7(s:ByteArray):Bool:=uM s&&decide (s.size≤20)&&decide (97≤(s.data.toList.getD 0 0).toNat)&&decide ((s.data.toList.getD 0 0).toNat≤122)
def pc(c:UInt8):Bool:=decide (32≤c.toNat∧c.toNat≤126)
def uu(s:ByteArray):Bool:=decide (0<s.size)&&decide (s.size≤60)&&(decide ((s.data.toList.getD 0 0).toNat≠32)&&decide ((s.data.toList.getD (s.size-1) 0).toNat≠32))
def sX(s:ByteArray):Bool:=s.data.toList.all pc&&uu s
theorem Vz(s:ByteArray)(i:Nat)(h:i<s.size):s.data.toList.getD i 0=s[i]:=by rw[List.getD_eq_getElem?_getD,cu (by simpa using h)];rfl
def xO(pre:List jW):List jW→Int
 |[]=>0
 |r::rest=>
  if bK r.low 0 65535=false∨bK r.high 0 65535=false∨r.high<r.low then 1
  else if 0<pre.length∧r.low≤(pre.getLast?.map (·.high)).getD 0 then 7
  else if l7 r.name=false then 5
  else if dw r.name (pre.map (·.name))=true then 6
  else xO (pre++[r]) rest
def vQ(l:List jW):Int:=if 30<l.length then 2 else xO [] l
def slotsOf(l:List dW):List Int:=l.flatMap λx=>if 0<x.dc then[x.eA,x.dc]else[x.eA]
theorem Lu(l:List dW)(x:dW):slotsOf (l++[x])=slotsOf l++(if 0<x.dc then[x.eA,x.dc]else[x.eA]):=by simp [slotsOf]
def wj(size:Int)(pre:List dW):List dW→Int
 |[]=>0
 |x::rest=>
  if l7 x.name=false then 5
  else if dw x.name (pre.map (·.name))=true then 6
  else if bK x.group 1 4=false then 4
  else if bK x.eA 1 size=false∨bK x.dc 0 size=false∨bK x.default 0 65535=false then 1
  else if x.eA=x.dc∨dw x.eA (slotsOf pre)=true∨(0<x.dc∧dw x.dc (slotsOf pre)=true)then 12
  else if vQ x.ranges=0 then wj size (pre++[x]) rest else vQ x.ranges
def kD(p:cm):Int:=
 if l7 p.name=false then 5 else if bK p.size 1 512=false then 1 else if p.params.length=0 then 8 else if 40<p.params.length then 2 else wj p.size [] p.params
def kL(xa xf:Int):List Int:=if xf=0 then[xa]else[xa,xf]
def tu(size:Int)(pre:List dW)(x:dW):Int:=
 if l7 x.name=false then 5
 else if dw x.name (pre.map (·.name))=true then 6
 else if bK x.group 1 4=false then 4
 else if bK x.eA 1 size=false∨bK x.dc 0 size=false∨bK x.default 0 65535=false then 1
 else if x.eA=x.dc∨dw x.eA (slotsOf pre)=true∨(0<x.dc∧dw x.dc (slotsOf pre)=true)then 12
 else vQ x.ranges
theorem Vm(size:Int)(pre:List dW)(x:dW)(rest:List dW):wj size pre (x::rest)=if tu size pre x=0 then wj size (pre++[x]) rest else tu size pre x:=by
 rw[wj,tu];split<;>first|(simp;done)|skip
 split<;>first|(simp;done)|skip
 split<;>first|(simp;done)|skip
 split<;>first|(simp;done)|skip
 split<;>first|(simp;done)|skip
def zX(xa xf ya yf:Int):Bool:=(kL xa xf).any λs=>dw s (kL ya yf)
def OE(xa xf:Int)(l:List dW):Bool:=l.any λy=>zX xa xf y.eA y.dc
theorem Ul{s:Int}{l:List dW}(h:∀y∈l,0≤y.dc):s∈slotsOf l↔∃y∈l,s∈kL y.eA y.dc:=by
 simp only[slotsOf,List.mem_flatMap];constructor
 ·rintro⟨y,hy,hs⟩;refine⟨y,hy,?_⟩;have:=h y hy;unfold kL;split at hs
  ·rw[aQ (by omega)];exact hs
  ·split
   ·exact hs
   ·simp at hs;simp [hs]
 ·rintro⟨y,hy,hs⟩;refine⟨y,hy,?_⟩;have:=h y hy;unfold kL at hs;split at hs
  ·rw[aQ (by omega)];exact hs
  ·rw[aP (by omega)];exact hs
theorem Vo{xa xf:Int}{l:List dW}(h:∀y∈l,0≤y.dc)(hx:0≤xf):OE xa xf l=true↔(dw xa (slotsOf l)=true∨(0<xf∧dw xf (slotsOf l)=true)):=by
 simp only[Er,Ul h,OE,zX,List.any_eq_true];constructor
 ·rintro⟨y,hy,s,hs,hm⟩;unfold kL at hs;split at hs
  ·simp at hs;subst hs;exact .inl ⟨y,hy,hm⟩
  ·simp at hs;rcases hs with rfl|rfl
   ·exact .inl ⟨y,hy,hm⟩
   ·exact .inr ⟨by omega,y,hy,hm⟩
 ·rintro(⟨y,hy,hm⟩|⟨h0,y,hy,hm⟩)
  ·exact⟨y,hy,xa,by unfold kL;split<;>simp,hm⟩
  ·exact⟨y,hy,xf,by unfold kL;rw[aQ (by omega)];simp,hm⟩
theorem Vn{size:Int}{pre:List dW}{x:dW}(h:tu size pre x=0):0≤x.dc:=by
 unfold tu at h;split at h
 ·cases h
 split at h
 ·cases h
 split at h
 ·cases h
 split at h
 ·cases h
 rename_i h4;cases hf:bK x.dc 0 size
 ·exact absurd (.inr (.inl hf)) h4
 ·simp [bK]at hf;exact hf.1
def tj(pre:List cm):List cm→Int
 |[]=>0
 |p::rest=>if kD p=0 then(if dw p.name (pre.map (·.name))=true then 6 else tj (pre++[p]) rest)else kD p
def pq(l:List cm):Int:=if 60<l.length then 2 else tj [] l
def eE(nm:ByteArray):List cm→cm×Bool
 |[]=>(⟨⟨#[]⟩,0,[]⟩,false)
 |p::rest=>if p.name=nm then(p,true)else eE nm rest
def qm(f:Nat→Bool):Nat→Nat→Bool
 |0,_=>true
 |n+1,a=>if 512<a∨f a=true then false else qm f n (a+1)
def kJ(f:Int→Nat→Bool)(u:Int)(a s:Nat):Int→Nat→Bool:=λv k=>if v=u∧a≤k∧k<a+s then true else f v k
def wA(pre:List Int)(n:Int):Bool:=match pre.getLast? with|some m=>decide (n≤m)|none=>false
def fL(eX:List cm)(u:eM):Int:=u.address+(eE u.fB eX).1.size-1
def vS(eX:List cm)(u:eM)(pre:List eM):Bool:=pre.any λx=>decide (x.univ=u.univ∧x.address≤fL eX u∧u.address≤fL eX x)
def wk(eX:List cm)(pre:List eM):List eM→Int
 |[]=>0
 |u::rest=>
  if bK u.aF 1 9999=false then 1
  else if wA (pre.map (·.aF)) u.aF=true then 7
  else if(eE u.fB eX).2=false then 5
  else if bK u.univ 1 64=false∨bK u.address 1 512=false∨512<fL eX u then 1
  else if vS eX u pre=true then 12
  else wk eX (pre++[u]) rest
def ga(r:cN):Int:=if pq r.bQ=0 then(if 400<r.fG.length then 2 else wk r.bQ [] r.fG)else pq r.bQ
def zP(eX:List cm)(pre:List eM):Prop:=∀x∈pre,1≤x.address∧x.address≤fL eX x∧fL eX x≤512
def vR(eX:List cm)(pre:List eM)(f:Int→Nat→Bool):Prop:=∀v k,f v k=true↔∃x∈pre,x.univ=v∧x.address≤(k:Int)∧(k:Int)≤fL eX x
theorem vR.nil(eX:List cm):vR eX [] (λ_ _=>false):=λv k=>by simp
theorem vR.snoc{eX:List cm}{pre:List eM}{f:Int→Nat→Bool}(h:vR eX pre f)(u:eM)(a s:Nat)(ha:u.address=a)(hs:fL eX u=(a:Int)+s-1):vR eX (pre++[u]) (kJ f u.univ a s):=by
 intro v k;unfold kJ;by_cases e:v=u.univ∧a≤k∧k<a+s
 ·rw[aP e];refine⟨λ_=>⟨u,by simp,e.1.symm,by omega,by omega⟩,λ_=>rfl⟩
 ·rw[aQ e,h v k];constructor
  ·rintro⟨x,hx,h1⟩;exact⟨x,by simp [hx],h1⟩
  ·rintro⟨x,hx,h1,h2,h3⟩;simp only[ew,List.mem_singleton]at hx;rcases hx with hx|rfl
   ·exact⟨x,hx,h1,h2,h3⟩
   ·exact absurd ⟨h1.symm,by omega,by omega⟩ e
theorem Hq(f:Nat→Bool):∀(s a:Nat),qm f s a=true↔∀k,a≤k→k<a+s→k≤512∧f k=false
 |0,a=>by simp [qm];intro k h1 h2;omega
 |s+1,a=>by
  rw[qm];by_cases e:512<a∨f a=true
  ·rw[aP e];simp only[Bool.false_eq_true,false_iff];intro h;have:=h a (bU _) (by omega);rcases e with e|e
   ·omega
   ·rw[e]at this;simp at this
  ·rw[aQ e,Hq f s (a+1)];constructor
   ·intro h k h1 h2;by_cases hk:k=a
    ·subst hk;refine⟨by omega,?_⟩;cases hf:f k
     ·rfl
     ·exact absurd (.inr hf) e
    ·exact h k (by omega) (by omega)
   ·intro h k h1 h2;exact h k (by omega) (by omega)
theorem UK{eX:List cm}{pre:List eM}{f:Int→Nat→Bool}(h:vR eX pre f)(hok:zP eX pre)(u:eM)(a s:Nat)(ha:u.address=a)(h1:1≤s)(hs:fL eX u=(a:Int)+s-1)(h2:fL eX u≤512):qm (f u.univ) s a=!vS eX u pre:=by
 rw[kO,Hq];simp only[Bool.not_eq_true',vS,List.any_eq_false,decide_eq_true_eq,not_and];constructor
 ·intro hf x hx e1 e2 e3;have hx':=hok x hx;obtain⟨k,hk⟩:∃k:Nat,(k:Int)=max x.address a:=⟨(max x.address (a:Int)).toNat,by omega⟩
  have hf':=(hf k (by omega) (by omega)).2;have:f u.univ k=true:=(h u.univ k).2 ⟨x,hx,e1,by omega,by omega⟩;rw[this]at hf';simp at hf'
 ·intro hf k h3 h4;refine⟨by omega,?_⟩;cases hfk:f u.univ k
  ·rfl
  ·obtain⟨x,hx,e1,e2,e3⟩:=(h u.univ k).1 hfk;exact absurd (show u.address≤fL eX x by omega) (hf x hx e1 (by omega))
theorem TC{p:cm}(h:kD p=0):1≤p.size∧p.size≤512:=by
 unfold kD at h;by_cases h1:l7 p.name=false
 ·rw[aP h1]at h;simp at h
 ·rw[aQ h1]at h;by_cases h2:bK p.size 1 512=false
  ·rw[aP h2]at h;simp at h
  ·simpa [bK]using h2
theorem L1:∀(l pre:List cm),tj pre l=0→∀p∈l,1≤p.size∧p.size≤512
 |[],pre,h,p,hp=>by simp at hp
 |q::rest,pre,h,p,hp=>by
  rw[tj]at h;by_cases e:kD q=0
  ·rw[aP e]at h;by_cases e2:dw q.name (pre.map (·.name))=true
   ·rw[aP e2]at h;simp at h
   ·rw[aQ e2]at h;simp only[eu]at hp;rcases hp with rfl|hp
    ·exact TC e
    ·exact L1 rest _ h p hp
  ·rw[aQ e]at h;exact absurd h e
theorem L8{l:List cm}(h:pq l=0):∀p∈l,1≤p.size∧p.size≤512:=by
 unfold pq at h;by_cases e:60<l.length
 ·rw[aP e]at h;simp at h
 ·rw[aQ e]at h;exact L1 l [] h
theorem Bl(nm:ByteArray):∀(l:List cm),(eE nm l).2=true→(eE nm l).1∈l
 |[],h=>by simp [eE]at h
 |p::r,h=>by
  rw[eE]at h ⊢;by_cases e:p.name=nm
  ·rw[aP e];simp
  ·rw[aQ e]at h ⊢;exact uB _ (Bl nm r h)
theorem zP.snoc{eX:List cm}{pre:List eM}(h:zP eX pre){u:eM}(h1:1≤u.address∧u.address≤fL eX u∧fL eX u≤512):zP eX (pre++[u]):=λx hx=>by
 simp only[ew,List.mem_singleton]at hx;rcases hx with hx|rfl
 ·exact h x hx
 ·exact h1
theorem qg(n lo hi:Int)(σ:Heap):n8 [.aj n,.aj lo,.aj hi] σ=some (.bool (bK n lo hi),σ):=by refine wrap_eq rfl ?_ rfl;show Gw _ _ _ σ=_;unfold Gw bK;by_cases h:lo≤n<;>simp only[az,reduceCtorEq,h,true_and,false_and]
theorem oS(n lo hi:Int)(σ:Heap):qd [.aj n,.aj lo,.aj hi] σ=some (.bool (bK n lo hi),σ):=by refine wrap_eq rfl ?_ rfl;show GU _ _ _ σ=_;unfold GU bK;by_cases h:lo≤n<;>simp only[az,reduceCtorEq,h,true_and,false_and]
theorem Ey(b:Bool)(n:Int)(σ:Heap):xe [.bool b,.aj n] σ=some (.aj (if b=true then n else 0),σ):=by refine wrap_eq rfl ?_ rfl;show GZ _ _ σ=_;unfold GZ;cases b<;>simp [az,reduceCtorEq]
theorem zV(s:ByteArray){i:Nat}(h:i<s.size):A.jA (.str s) (.aj (i:Int))=some (.int .u8 (s.data.toList.getD i 0).toNat):=by
 have h1:s[i]? =some s[i]:=by simp [h]
 simp [A.jA,A.idx,h,Vz s i h];rfl
theorem DW(s:ByteArray):(decide (¬s=⟨#[]⟩))=decide (0<s.size):=by
 rw[decide_eq_decide];constructor
 ·intro h;rcases Nat.eq_zero_or_pos s.size with e|e
  ·exact absurd (ByteArray.ext (Array.eq_empty_of_size_eq_zero e)) h
  ·exact e
 ·rintro h rfl;exact absurd h (by decide)
theorem XY(s:ByteArray)(hs:eB s)(σ:Heap):He [.str s] σ=some (.bool (uM s),σ):=by
 refine wrap_eq rfl ?_ rfl;show Hi _ σ=_;unfold Hi;simp only[az,reduceCtorEq];refine(Ec (p:=yU) s (some (.bool false,σ)) ?_ ?_ ?_).trans ?_
 ·intro i c hi hc;have h1:bp ((i:Int)+1):=by unfold eB bX at hs;unfold bp;omega
  have h2:(i:Int)<s.size:=by omega
  simp only[az,reduceCtorEq,h2,hc,cW h1,yU];clear hc h1
  repeat' ((first|rw[iS]|rw[iR]|rw[iP]|rw[iL]|rw[iO]|rw[iN]);split<;>try simp only[az,reduceCtorEq, *])
  all_goals first|rfl|(refine(aP ?_).symm;simp;omega)|(refine(aQ ?_).symm;simp;omega)|(refine congrArg some (congrArg (λb=>(AV.bool b,σ)) ?_);rw[kO];simp;omega)
 ·simp only[az,reduceCtorEq,Int.lt_irrefl]
 ·intro i;simp only[az,reduceCtorEq]
 ·simp only[az,reduceCtorEq,DW,uM];cases s.data.toList.all yU<;>simp
theorem UB(s:ByteArray)(hs:eB s)(σ:Heap):GQ [.str s] σ=some (.bool (uM s),σ):=by
 refine wrap_eq rfl ?_ rfl;show GS _ σ=_;unfold GS;simp only[az,reduceCtorEq];refine(Ec (p:=yU) s (some (.bool false,σ)) ?_ ?_ ?_).trans ?_
 ·intro i c hi hc;have h1:bp ((i:Int)+1):=by unfold eB bX at hs;unfold bp;omega
  have h2:(i:Int)<s.size:=by omega
  simp only[az,reduceCtorEq,h2,hc,cW h1,yU];clear hc h1
  repeat' ((first|rw[iS]|rw[iR]|rw[iP]|rw[iL]|rw[iO]|rw[iN]);split<;>try simp only[az,reduceCtorEq, *])
  all_goals first|rfl|(refine(aP ?_).symm;simp;omega)|(refine(aQ ?_).symm;simp;omega)|(refine congrArg some (congrArg (λb=>(AV.bool b,σ)) ?_);rw[kO];simp;omega)
 ·simp only[az,reduceCtorEq,Int.lt_irrefl]
 ·intro i;simp only[az,reduceCtorEq]
 ·simp only[az,reduceCtorEq,DW,uM];cases s.data.toList.all yU<;>simp
theorem NB{s:ByteArray}(h:uM s=true):0<s.size:=by simp only[uM,eN,decide_eq_true_eq]at h;exact h.2
theorem HU(s:ByteArray)(hs:eB s)(σ:Heap):Bh [.str s] σ=some (.bool (l7 s),σ):=by
 refine wrap_eq rfl ?_ rfl;show GY _ σ=_;unfold GY;simp only[az,reduceCtorEq,XY s hs];cases h:uM s
 ·simp [az,reduceCtorEq,l7,h]
 ·have h0:=NB h;have:=zV s h0;simp only[Int.ofNat_zero]at this;simp only[az,reduceCtorEq,this];simp only[l7,h,Bool.true_and];generalize s.data.toList.getD 0 0=c0 at *
  repeat' ((first|rw[iS]|rw[iR]|rw[iP]|rw[iL]|rw[iO]|rw[iN]);split<;>try simp only[az,reduceCtorEq, *])
  all_goals first|rfl|(refine(aP ?_).symm;simp;omega)|(refine(aQ ?_).symm;simp;omega)|(refine congrArg some (congrArg (λb=>(AV.bool b,σ)) ?_);rw[kO];simp;omega)
theorem G4(s:ByteArray)(hs:eB s)(σ:Heap):Bf [.str s] σ=some (.bool (l7 s),σ):=by
 refine wrap_eq rfl ?_ rfl;show GR _ σ=_;unfold GR;simp only[az,reduceCtorEq,UB s hs];cases h:uM s
 ·simp [az,reduceCtorEq,l7,h]
 ·have h0:=NB h;have:=zV s h0;simp only[Int.ofNat_zero]at this;simp only[az,reduceCtorEq,this];simp only[l7,h,Bool.true_and];generalize s.data.toList.getD 0 0=c0 at *
  repeat' ((first|rw[iS]|rw[iR]|rw[iP]|rw[iL]|rw[iO]|rw[iN]);split<;>try simp only[az,reduceCtorEq, *])
  all_goals first|rfl|(refine(aP ?_).symm;simp;omega)|(refine(aQ ?_).symm;simp;omega)|(refine congrArg some (congrArg (λb=>(AV.bool b,σ)) ?_);rw[kO];simp;omega)
theorem VY(s:ByteArray)(hs:eB s)(σ:Heap):Gz [.str s] σ=some (.bool (sX s),σ):=by
 refine wrap_eq rfl ?_ rfl;show GI _ σ=_;unfold GI;simp only[az,reduceCtorEq];refine(Ec (p:=pc) s (some (.bool false,σ)) ?_ ?_ ?_).trans ?_
 ·intro i c hi hc;have h1:bp ((i:Int)+1):=by unfold eB bX at hs;unfold bp;omega
  have h2:(i:Int)<s.size:=by omega
  simp only[az,reduceCtorEq,h2,hc,cW h1,pc];clear h1
  repeat' ((first|rw[iS]|rw[iR]|rw[iP]|rw[iL]|rw[iO]|rw[iN]);split<;>try simp only[az,reduceCtorEq, *])
  all_goals first|rfl|(refine(aP ?_).symm;simp;omega)|(refine(aQ ?_).symm;simp;omega)|(refine congrArg some (congrArg (λb=>(AV.bool b,σ)) ?_);rw[kO];simp;omega)
 ·simp only[az,reduceCtorEq,Int.lt_irrefl]
 ·intro i;simp only[az,reduceCtorEq]
 ·simp only[az,reduceCtorEq,DW,sX];cases s.data.toList.all pc
  ·simp
  ·simp only[if_true,Bool.true_and];by_cases h0:0<s.size
   ·by_cases pQ:s.size≤60
    ·have e0:=zV s h0;have e1:=zV s (i:=s.size-1) (by omega);simp only[Int.ofNat_zero]at e0;rw[show((s.size-1:Nat):Int)=(s.size:Int) -1 by omega]at e1;have h1:bp ((s.size:Int) -1):=by unfold eB bX at hs;unfold bp;omega
     have kS:(s.size:Int)≤60:=by omega
     have hw:=cW h1;simp only[uu,h0,pQ];generalize s.data.toList.getD 0 0=c0 at *
     generalize s.data.toList.getD (s.size-1) 0=c1 at *
     simp only[az,reduceCtorEq,h0,kS,e0,e1,hw]
     repeat' ((first|rw[iS]|rw[iR]|rw[iP]|rw[iL]|rw[iO]|rw[iN]);split<;>try simp only[az,reduceCtorEq, *])
     all_goals first|rfl|(refine(aP ?_).symm;simp;omega)|(refine(aQ ?_).symm;simp;omega)|(refine congrArg some (congrArg (λb=>(AV.bool b,σ)) ?_);rw[kO];simp;omega)
    ·have kS:¬(s.size:Int)≤60:=by omega
     simp [az,reduceCtorEq,h0,kS,uu,pQ]
   ·simp [az,reduceCtorEq,h0,uu]
theorem Lx(s:ByteArray)(hs:eB s)(σ:Heap):Ba [.str s] σ=some (.bool (sX s),σ):=by
 refine wrap_eq rfl ?_ rfl;show GC _ σ=_
 have e:(s=⟨#[]⟩)↔¬0<s.size:=by have:=DW s;rw[decide_eq_decide]at this;rw[←this];simp
 have tail:sX s=(uu s&&s.data.toList.all pc):=by unfold sX;exact Bool.and_comm _ _
 unfold GC;simp only[az,reduceCtorEq,e];by_cases h0:0<s.size
 ·by_cases pQ:s.size≤60
  ·have e0:=zV s h0;have e1:=zV s (i:=s.size-1) (by omega);simp only[Int.ofNat_zero]at e0;rw[show((s.size-1:Nat):Int)=(s.size:Int) -1 by omega]at e1;have h1:bp ((s.size:Int) -1):=by unfold eB bX at hs;unfold bp;omega
   have kS:¬(60:Int)<(s.size:Int):=by omega
   have hw:=cW h1;have Pu:uu s=(decide (¬(s.data.toList.getD 0 0).toNat=32)&&decide (¬(s.data.toList.getD (s.size-1) 0).toNat=32)):=by simp [uu,h0,pQ]
   rw[tail,Pu];clear tail Pu;generalize s.data.toList.getD 0 0=c0 at *
   generalize s.data.toList.getD (s.size-1) 0=c1 at *
   by_cases k0:c0.toNat=32
   ·have FB:(c0.toNat:Int)=32:=by omega
    simp [az,reduceCtorEq,h0,kS,e0,FB,k0]
   ·have FB:¬(c0.toNat:Int)=32:=by omega
    by_cases k1:c1.toNat=32
    ·have C1:(c1.toNat:Int)=32:=by omega
     simp [az,reduceCtorEq,h0,kS,e0,FB,hw,e1,C1,k1]
    ·have C1:¬(c1.toNat:Int)=32:=by omega
     simp only[az,reduceCtorEq,h0,kS,e0,FB,hw,e1,C1,k0,k1];refine(Ec (p:=pc) s (some (.bool false,σ)) ?_ ?_ ?_).trans ?_
     ·intro i c hi hc;have h1:bp ((i:Int)+1):=by unfold eB bX at hs;unfold bp;omega
      have h2:(i:Int)<s.size:=by omega
      simp only[az,reduceCtorEq,h2,hc,cW h1,pc];clear h1
      repeat' ((first|rw[iS]|rw[iR]|rw[iP]|rw[iL]|rw[iO]|rw[iN]);split<;>try simp only[az,reduceCtorEq, *])
      all_goals first|rfl|(refine(aP ?_).symm;simp;omega)|(refine(aQ ?_).symm;simp;omega)|(refine congrArg some (congrArg (λb=>(AV.bool b,σ)) ?_);rw[kO];simp;omega)
     ·simp only[az,reduceCtorEq,Int.lt_irrefl]
     ·intro i;simp only[az,reduceCtorEq]
     ·simp only[az,reduceCtorEq];cases s.data.toList.all pc<;>simp
  ·have kS:(60:Int)<(s.size:Int):=by omega
   simp [az,reduceCtorEq,h0,kS,tail,uu,pQ]
 ·simp [az,reduceCtorEq,h0,tail,uu]
theorem M7(l:List Int)(hl:l.length≤bX)(σ:Heap):Bd [sl 1 nu l] σ=some (.aj ((l.find? λn=>decide (¬n=0)).getD 0),σ):=by
 refine wrap_eq rfl ?_ rfl;show GH (sl 1 nu l) σ=_;unfold GH;simp only[az,reduceCtorEq];refine(MK l (λn=>decide (¬n=0)) (λi=>[.aj 0,.aj (i:Int)]) σ (.exit 0,[.aj 0,.aj (l.length:Int)],σ) (λi n=>(.ret,[.aj n,.aj (i:Int)],σ)) (some (AV.aj 0,σ)) (λn=>some (AV.aj n,σ)) ?_ ?_ ?_ ?_).trans ?_
 ·intro i x hx;obtain⟨g1,g2,g3⟩:=sJ 1 nu hx;have g3:=g3 hl;simp only[az,reduceCtorEq,g1,g2,g3]
  repeat' ((first|rw[iS]|rw[iR]|rw[iP]|rw[iL]|rw[iO]|rw[iN]);split<;>try simp only[az,reduceCtorEq, *])
  all_goals first|with_reducible rfl|(simp [*];done)|(simp_all;done)|(simp_all;omega)|rfl
 ·exact qR _ _ _
 ·simp only[az,reduceCtorEq]
 ·intro i n;simp only[az,reduceCtorEq]
 ·cases l.find? (λn=>decide (¬n=0))<;>rfl
theorem zy(n:Int)(σ:Heap):AZ [.aj n] σ=some (.bool (bK n 0 65535),σ):=by refine wrap_eq rfl ?_ rfl;show Gd _ σ=_;unfold Gd;simp only[az,reduceCtorEq,qg]
theorem Tp(l:List jW)(hok:eY Ij l)(σ:Heap):F0 [sl 3 gC l] σ=some (.aj (vQ l),σ):=by
 refine wrap_eq rfl ?_ rfl;show F1 (sl 3 gC l) σ=_;unfold F1 vQ;simp only[az,reduceCtorEq];by_cases u6:30<l.length
 ·have rj:(30:Int)<l.length:=by omega
  simp only[az,reduceCtorEq,u6,rj]
 ·have rj:¬(30:Int)<l.length:=by omega
  simp only[az,reduceCtorEq,u6,rj]
  refine(kC (S:=Unit) (R:=Int) l (λpre x _=>
    if bK x.low 0 65535=false∨bK x.high 0 65535=false∨x.high<x.low then .out 1
    else if 0<pre.length∧x.low≤(pre.getLast?.map (·.high)).getD 0 then .out 7
    else if l7 x.name=false then .out 5
    else if dw x.name (pre.map (·.name))=true then .out 6 else .go ())
   (λpre _=>[.aj 0,.aj (pre.length:Int)]) (λpre _=>σ++[bu.map (jk (·.name) pre)])
   (λ_=>(.exit 0,[.aj 0,.aj (l.length:Int)],σ++[bu.map (jk (·.name) l)])) (λpre _ r=>(.ret,[.aj r,.aj (pre.length:Int)],σ++[bu.map (jk (·.name) pre)]))
   (λ_ _=>True) () (λ_=>some (AV.aj 0,σ)) (λr=>some (AV.aj r,σ)) ?_ ?_ trivial (λ_ _ _ _ _ _ _ _=>trivial) ?_ ?_).trans ?_
  ·intro pre x rest u hl _;have hx:=kH hl;have hlt:=mL hl;have hi1:IntKind.i64.wrap ((pre.length:Int)+1)=(pre.length:Int)+1:=cW (by unfold bp;omega);have hi2:IntKind.i64.wrap ((pre.length:Int) -1)=(pre.length:Int) -1:=cW (by unfold bp;omega);have hlt':(pre.length:Int)<(l.length:Int):=by omega
   have hnm:=(hok.2 x (by rw[hl];simp)).2.2;have gj:=gJ 3 gC l hx;have hN:=HU _ hnm;by_cases h0:0<pre.length
   ·obtain⟨y,hy,hy2⟩:=HM hl h0;have xS:=DV 3 gC l h0 hy2;have gh:(0:Int)<pre.length:=by omega
    clear hl hx hlt hok u6 rj hy2 hnm;simp only[az,reduceCtorEq,sA,sB,sC,sF,sE,sG,hlt',gj,zy,hi1,hi2,hN,gh,hy,h0]
    repeat' ((first|rw[iS]|rw[iR]|rw[iP]|rw[iL]|rw[iO]|rw[iN]);split<;>try simp only[az,reduceCtorEq,sA,sB,sC,sF,sE,sG,zy, *])
    all_goals first|with_reducible rfl|(simp [*];done)|(simp_all;done)|(simp_all;omega)|rfl
   ·have gh:¬(0:Int)<pre.length:=by omega
    clear hl hx hlt hok u6 rj hnm;simp only[az,reduceCtorEq,sA,sB,sC,sF,sE,sG,hlt',gj,zy,hi1,hi2,hN,gh,h0]
    repeat' ((first|rw[iS]|rw[iR]|rw[iP]|rw[iL]|rw[iO]|rw[iN]);split<;>try simp only[az,reduceCtorEq,sA,sB,sC,sF,sE,sG,zy, *])
    all_goals first|with_reducible rfl|(simp [*];done)|(simp_all;done)|(simp_all;omega)|rfl
  ·intro u _;simp only[az,reduceCtorEq,Int.lt_irrefl]
  ·intro u _;simp only[az,reduceCtorEq]
  ·intros;simp only[az,reduceCtorEq]
  ·refine(vI (mz:=xO) ?_ ?_ (λn=>some (AV.aj n,σ)) l []).trans ?_
   ·intro pre;rfl
   ·intro pre x rest;rw[xO];simp only[sP,qi,ql]
   ·rfl
theorem Th(p:cm)(hok:xj p)(σ:Heap):FX [.agg (cE p)] σ=some (.aj (kD p),σ):=by
 refine wrap_eq rfl ?_ rfl;show FZ (.agg (cE p)) σ=_;obtain⟨pn,ps,l⟩:=p;obtain⟨hnm,hps,xT⟩:=hok;simp only at hnm hps xT;have hN:=HU _ hnm;unfold FZ kD;simp only[az,reduceCtorEq,gR,gS,gU,gW,gV,gX,hN,qg];cases hn:l7 pn
 ·simp only[az,reduceCtorEq]
 cases hz:bK ps 1 512
 ·simp only[az,reduceCtorEq]
 by_cases h0:l.length=0
 ·obtain rfl:l=[]:=uA h0;simp [az,reduceCtorEq]
 have gh:¬(l.length:Int)=0:=by omega
 by_cases yI:40<l.length
 ·have uF:(40:Int)<l.length:=by omega
  simp only[az,reduceCtorEq,h0,gh,yI,uF]
 have uF:¬(40:Int)<l.length:=by omega
 simp only[az,reduceCtorEq,h0,gh,yI,uF]
 refine(kC (S:=Unit) (R:=Int) l (λpre x _=>
   if l7 x.name=false then .out 5
   else if dw x.name (pre.map (·.name))=true then .out 6
   else if bK x.group 1 4=false then .out 4
   else if bK x.eA 1 ps=false∨bK x.dc 0 ps=false∨bK x.default 0 65535=false then .out 1
   else if x.eA=x.dc∨dw x.eA (slotsOf pre)=true∨(0<x.dc∧dw x.dc (slotsOf pre)=true)then .out 12
   else if vQ x.ranges=0 then .go ()else .out (vQ x.ranges))
  (λpre _=>[.lbx (cE ⟨pn,ps,l⟩),.aj 0,.aj (pre.length:Int)]) (λpre _=>σ++[bu.map (jk (·.name) pre),bu.map (mT id (slotsOf pre))])
  (λ_=>(.exit 1,[.lbx (cE ⟨pn,ps,l⟩),.aj 0,.aj (l.length:Int)],σ++[bu.map (jk (·.name) l),bu.map (mT id (slotsOf l))]))
  (λpre _ r=>(.ret,[.lbx (cE ⟨pn,ps,l⟩),.aj r,.aj (pre.length:Int)],σ++[bu.map (jk (·.name) pre),bu.map (mT id (slotsOf pre))]))
  (λ_ _=>True) () (λ_=>some (AV.aj 0,σ)) (λr=>some (AV.aj r,σ)) ?_ ?_ trivial (λ_ _ _ _ _ _ _ _=>trivial) ?_ ?_).trans ?_
 ·intro pre x rest u hl _;have hx:=kH hl;have hlt:=mL hl;have hi1:IntKind.i64.wrap ((pre.length:Int)+1)=(pre.length:Int)+1:=cW (by unfold bp;omega);have hi2:IntKind.i64.wrap ((pre.length:Int) -1)=(pre.length:Int) -1:=cW (by unfold bp;omega);have hlt':(pre.length:Int)<(l.length:Int):=by omega
  obtain⟨k1,k2,k3,k4,k5,k6⟩:=xT.2 x (by rw[hl];simp);have hNx:=HU _ k1;have hRx:=Tp _ k6;have gj:=gJ 7 b8 l hx;clear hl hx hlt xT yI uF h0 gh k1 k2 k3 k4 k5 k6 hnm hps hN hn hz;simp only[az,reduceCtorEq,jM,jN,jO,jP,jQ,jR,jS,jT,ju,jv,gR,gS,gU,gW,gV,gX,hlt',gj,qg,zy,hi1,hi2,hNx,hRx,List.map_id]
  repeat' ((first|rw[iS]|rw[iR]|rw[iP]|rw[iL]|rw[iO]|rw[iN]);split<;>try simp only[az,reduceCtorEq,jM,jN,jO,jP,jQ,jR,jS,jT,ju,jv,gR,gS,gU,gW,gV,gX,qg,zy,List.map_id,MT,VH,Bool.or_false, *])
  all_goals first|rfl|(simp_all;done)|(simp_all [Lu,MT];done)|(simp only[Lu,ite_false,ite_true,if_false,if_true, *]<;>simp_all)
 ·intro u _;simp only[az,reduceCtorEq,Int.lt_irrefl]
 ·intro u _;simp only[az,reduceCtorEq]
 ·intros;simp only[az,reduceCtorEq]
 ·refine(vI (mz:=wj ps) ?_ ?_ (λn=>some (AV.aj n,σ)) l []).trans ?_
  ·intro pre;rfl
  ·intro pre x rest;rw[wj];simp only[sP,qi,ql]
  ·rfl
theorem Tg(l:List cm)(hok:eY xj l)(σ:Heap):FW [sl 3 cE l] σ=some (.aj (pq l),σ):=by
 refine wrap_eq rfl ?_ rfl;show FY (sl 3 cE l) σ=_;unfold FY pq;simp only[az,reduceCtorEq];by_cases pQ:60<l.length
 ·have kS:(60:Int)<l.length:=by omega
  simp only[az,reduceCtorEq,pQ,kS]
 have kS:¬(60:Int)<l.length:=by omega
 simp only[az,reduceCtorEq,pQ,kS]
 refine(kC (S:=Unit) (R:=Int) l (λpre x _=>if kD x=0 then(if dw x.name (pre.map (·.name))=true then .out 6 else .go ())else .out (kD x))
  (λpre _=>[.aj 0,.aj (pre.length:Int)]) (λpre _=>σ++[bu.map (jk (·.name) pre)])
  (λ_=>(.exit 0,[.aj 0,.aj (l.length:Int)],σ++[bu.map (jk (·.name) l)])) (λpre _ r=>(.ret,[.aj r,.aj (pre.length:Int)],σ++[bu.map (jk (·.name) pre)]))
  (λ_ _=>True) () (λ_=>some (AV.aj 0,σ)) (λr=>some (AV.aj r,σ)) ?_ ?_ trivial (λ_ _ _ _ _ _ _ _=>trivial) ?_ ?_).trans ?_
 ·intro pre x rest u hl _;have hx:=kH hl;have hlt:=mL hl;have hi1:IntKind.i64.wrap ((pre.length:Int)+1)=(pre.length:Int)+1:=cW (by unfold bp;omega);have hi2:IntKind.i64.wrap ((pre.length:Int) -1)=(pre.length:Int) -1:=cW (by unfold bp;omega);have hlt':(pre.length:Int)<(l.length:Int):=by omega
  have hP:=Th x (hok.2 x (by rw[hl];simp));have gj:=gJ 3 cE l hx;clear hl hx hlt hok pQ kS;simp only[az,reduceCtorEq,gR,gS,gU,gW,gV,gX,hlt',gj,hi1,hP]
  repeat' ((first|rw[iS]|rw[iR]|rw[iP]|rw[iL]|rw[iO]|rw[iN]);split<;>try simp only[az,reduceCtorEq,gR,gS,gU,gW,gV,gX, *])
  all_goals first|with_reducible rfl|(simp [*];done)|(simp_all;done)|(simp_all;omega)|rfl
 ·intro u _;simp only[az,reduceCtorEq,Int.lt_irrefl]
 ·intro u _;simp only[az,reduceCtorEq]
 ·intros;simp only[az,reduceCtorEq]
 ·refine(vI (mz:=tj) ?_ ?_ (λn=>some (AV.aj n,σ)) l []).trans ?_
  ·intro pre;rfl
  ·intro pre x rest;rw[tj];simp only[sP,qi,ql]
  ·rfl
theorem Wg{α:Type}(p:α→Bool)(l:List α):decide (0≤nC p l)=l.any p:=by
 rcases Bk p l with⟨h1,h2,_⟩|⟨k,x,h1,h2,h3,_⟩
 ·rw[h1,kO];simp only[decide_eq_true_eq,List.any_eq_true];exact⟨λh=>by omega,λ⟨x,hx,hp⟩=>by rw[h2 x hx]at hp;cases hp⟩
 ·rw[h3,kO];simp only[decide_eq_true_eq,List.any_eq_true];exact⟨λ_=>⟨x,cM h1,h2⟩,λ_=>by omega⟩
theorem R8(dyn:Nat→aq→Heap→aB)(l:List cm)(hl:l.length≤bX)(n:Nat)(caps:aq)(p:cm→Bool)(σ:Heap)(hd:∀x∈l,dyn n ((.agg (cE x):AV)::caps) σ=some (.bool (p x),σ)):Dv dyn [sl 3 cE l,.fn n caps] σ=some (.aj (nC p l),σ):=by
 refine wrap_eq rfl ?_ rfl;show Dw dyn (sl 3 cE l) (.fn n caps) σ=_;unfold Dw;simp only[az,reduceCtorEq]
 refine(kC (S:=Unit) (R:=Int) l (λpre x _=>if p x=true then .out (pre.length:Int)else .go ())
  (λpre _=>[.aj 0,.aj (pre.length:Int)]) (λ_ _=>σ) (λ_=>(.exit 0,[.aj 0,.aj (l.length:Int)],σ)) (λpre _ r=>(.ret,[.aj (pre.length:Int),.aj (pre.length:Int)],σ))
  (λ_ _=>True) () (λ_=>some (AV.aj (-1),σ)) (λr=>some (AV.aj r,σ)) ?_ ?_ trivial (λ_ _ _ _ _ _ _ _=>trivial) ?_ ?_).trans ?_
 ·intro pre x rest u hl' _;have hx:=kH hl';have hlt:=mL hl';have hi1:IntKind.i64.wrap ((pre.length:Int)+1)=(pre.length:Int)+1:=cW (by unfold bp;unfold bX at hl;omega);have hlt':(pre.length:Int)<(l.length:Int):=by omega
  have gj:=gJ 3 cE l hx;have wL:=hd x (by rw[hl'];simp);simp only[az,reduceCtorEq,gR,gS,gU,gW,gV,gX,hlt',gj,A.fC,nr,List.nil_append,wL,hi1];cases p x<;>simp [az,reduceCtorEq]
 ·intro u _;simp only[az,reduceCtorEq,Int.lt_irrefl]
 ·intro u _;simp only[az,reduceCtorEq]
 ·intro pre x rest s q hl' _ hb
  have:q=(pre.length:Int):=by
   cases hpx:p x
   ·rw[hpx]at hb;cases hb
   ·rw[hpx]at hb;simp at hb;exact hb.symm
  simp only[az,reduceCtorEq,this]
 ·rw[Ep p _ _ l [] (by simp)];simp only[List.nil_append];split
  ·rename_i h;rw[h]
  ·rfl
theorem SZ(l:List Int)(hl:l.length≤bX)(k:Int)(σ:Heap):F5 [sl 1 nu l,.aj k] σ=some (.aj (nC (λx=>decide (k=x)) l),σ):=by
 refine wrap_eq rfl ?_ rfl;show F7 (sl 1 nu l) (.aj k) σ=_;unfold F7;simp only[az,reduceCtorEq]
 refine(kC (S:=Unit) (R:=Int) l (λpre x _=>if(λx=>decide (k=x)) x=true then .out (pre.length:Int)else .go ())
  (λpre _=>[.aj 0,.aj (pre.length:Int)]) (λ_ _=>σ) (λ_=>(.exit 0,[.aj 0,.aj (l.length:Int)],σ)) (λpre _ r=>(.ret,[.aj (pre.length:Int),.aj (pre.length:Int)],σ))
  (λ_ _=>True) () (λ_=>some (AV.aj (-1),σ)) (λr=>some (AV.aj r,σ)) ?_ ?_ trivial (λ_ _ _ _ _ _ _ _=>trivial) ?_ ?_).trans ?_
 ·intro pre x rest u hl' _;have hx:=kH hl';have hlt:=mL hl';have hi1:IntKind.i64.wrap ((pre.length:Int)+1)=(pre.length:Int)+1:=cW (by unfold bp;unfold bX at hl;omega);have hlt':(pre.length:Int)<(l.length:Int):=by omega
  have gj:=gJ 1 nu l hx;simp only[az,reduceCtorEq,hlt',gj,hi1];by_cases hk:k=x<;>simp [az,reduceCtorEq,hk]
 ·intro u _;simp only[az,reduceCtorEq,Int.lt_irrefl]
 ·intro u _;simp only[az,reduceCtorEq]
 ·intro pre x rest s q hl' _ hb
  have:q=(pre.length:Int):=by
   by_cases hk:k=x
   ·simp [hk]at hb;exact hb.symm
   ·simp [hk]at hb
  simp only[az,reduceCtorEq,this]
 ·rw[Ep (λx=>decide (k=x)) _ _ l [] (by simp)];simp only[List.nil_append];split
  ·rename_i h;rw[h]
  ·rfl
theorem SW(l:List Int)(hl:l.length≤bX)(k:Int)(σ:Heap):DB [sl 1 nu l,.aj k] σ=some (.bool (l.any λx=>decide (k=x)),σ):=by refine wrap_eq rfl ?_ rfl;show F3 (sl 1 nu l) (.aj k) σ=_;unfold F3;simp only[az,reduceCtorEq,SZ l hl k σ];refine congrArg some (congrArg (λb=>(AV.bool b,σ)) ?_);exact Wg _ l
theorem zz(nm:ByteArray):∀(l:List cm),eE nm l=match l.find? (λx:cm=>decide (x.name=nm))with|some p=>(p,true)|none=>(⟨⟨#[]⟩,0,[]⟩,false)
 |[]=>rfl
 |p::l=>by
  rw[eE];by_cases h:p.name=nm
  ·simp [h]
  ·simp [h,zz nm l]
theorem Tr(x:cm)(nm:ByteArray)(σ:Heap):AT [.agg (cE x),.rp [.str nm]] σ=some (.bool (decide (x.name=nm)),σ):=by refine wrap_eq rfl ?_ rfl;show F2 (.agg (cE x)) (.rp [.str nm]) σ=_;unfold F2;simp only[az,reduceCtorEq,gR,gS,gU,gW,gV,gX];show(some (AV.str nm)).bind _=_;simp only[az,reduceCtorEq]
theorem nnP(x:dW):A.cj pG (b8 x)=b8 x:=rfl
theorem OR(p:cm)(b:Bool):A.nn (.t [(.a [.k,.k,(.e 7 pG)]),.k]) (.aD [.agg (cE p),.bool b])=.aD [.agg (cE p),.bool b]:=by show AV.aD [.agg [.str p.name,.aj p.size,A.nn (.e 7 pG) (sl 7 b8 p.params)],.bool b]=_;rw[Qj nnP];rfl
theorem Md(l:List cm)(hl:l.length≤bX)(nm:ByteArray)(σ:Heap):DD [sl 3 cE l,.str nm] σ=some (.aD [.agg (cE (eE nm l).1),.bool (eE nm l).2],σ):=by
 have key:∃w,DF (sl 3 cE l) (.str nm) σ=some (w,σ)∧A.nn (.t [(.a [.k,.k,(.e 7 pG)]),.k]) w=.aD [.agg (cE (eE nm l).1),.bool (eE nm l).2]:=by
  unfold DF;simp only[az,reduceCtorEq];rw[R8 _ l hl 64 [.rp [.str nm]] (λx=>decide (x.name=nm)) σ (λx _=>Tr x nm σ)];simp only[az,reduceCtorEq];rw[zz];rcases Bk (λx:cm=>decide (x.name=nm)) l with⟨h1,_,h3⟩|⟨k,x,h1,h2,h3,h4,_⟩
  ·refine⟨.aD [.agg [.str ⟨#[]⟩,.aj 0,.au],.bool false],?_,?_⟩
   ·rw[h1];simp only[az,reduceCtorEq,show((-1:Int)<0)from by decide];rfl
   ·rw[h3];rfl
  ·refine⟨.aD [.agg (cE x),.bool true],?_,?_⟩
   ·rw[h3];simp only[az,reduceCtorEq,gR,gS,gU,gW,gV,gX,show ¬((k:Int)<0)from by omega,gJ 3 cE l h1]
   ·rw[h4];exact OR x true
 obtain⟨w,h1,h2⟩:=key;exact wrap_eq rfl h1 h2
theorem GO(l:List cm)(hl:l.length≤bX)(nm:ByteArray)(σ:Heap):Bb [sl 3 cE l,.str nm] σ=some (.aD [.agg (cE (eE nm l).1),.bool (eE nm l).2],σ):=by
 refine wrap_eq (v:=.aD [.agg (match l.find? (λx:cm=>decide (x.name=nm))with|some p=>cE p|none=>[.str ⟨#[]⟩,.aj 0,.au]),.bool (eE nm l).2]) rfl ?_ ?_
 ·show GF (sl 3 cE l) (.str nm) σ=_;rw[zz];unfold GF;simp only[az,reduceCtorEq]
  refine(kC (S:=Unit) (R:=cm) l (λpre x _=>if x.name=nm then .out x else .go ())
   (λpre _=>[.lbx [.str ⟨#[]⟩,.aj 0,.au],.bool false,.aj (pre.length:Int)]) (λ_ _=>σ)
   (λ_=>(.exit 0,[.lbx [.str ⟨#[]⟩,.aj 0,.au],.bool false,.aj (l.length:Int)],σ)) (λpre _ r=>(.ret,[.lbx (cE r),.bool true,.aj (pre.length:Int)],σ))
   (λ_ _=>True) () (λ_=>some (AV.aD [.agg [.str ⟨#[]⟩,.aj 0,.au],.bool false],σ)) (λr=>some (AV.aD [.agg (cE r),.bool true],σ)) ?_ ?_ trivial (λ_ _ _ _ _ _ _ _=>trivial) ?_ ?_).trans ?_
  ·intro pre x rest u hl' _;have hx:=kH hl';have hlt:=mL hl';have hi1:IntKind.i64.wrap ((pre.length:Int)+1)=(pre.length:Int)+1:=cW (by unfold bp;unfold bX at hl;omega);have hlt':(pre.length:Int)<(l.length:Int):=by omega
   have gj:=gJ 3 cE l hx;clear hl' hx hlt hl;simp only[az,reduceCtorEq,gR,gS,gU,gW,gV,gX,hlt',gj,hi1]
   repeat' ((first|rw[iS]|rw[iR]|rw[iP]|rw[iL]|rw[iO]|rw[iN]);split<;>try simp only[az,reduceCtorEq,gR,gS,gU,gW,gV,gX, *])
   all_goals first|with_reducible rfl|(simp [*];done)|(simp_all;done)|(simp_all;omega)|rfl
  ·intro u _;simp only[az,reduceCtorEq,Int.lt_irrefl]
  ·intro u _;simp only[az,reduceCtorEq];rfl
  ·intros;simp only[az,reduceCtorEq,gR,gS,gU,gW,gV,gX]
  ·have key:∀(l pre:List cm),(fW (λ(_:List cm)(x:cm)(_:Unit)=>if x.name=nm then(Rd.out x:Rd Unit cm)else .go ()) pre l ()).el (λ_=>some (AV.aD [.agg [.str ⟨#[]⟩,.aj 0,.au],.bool false],σ)) (λr=>some (AV.aD [.agg (cE r),.bool true],σ))=some (.aD [.agg (match l.find? (λx:cm=>decide (x.name=nm))with|some p=>cE p|none=>[.str ⟨#[]⟩,.aj 0,.au]),.bool (match l.find? (λx:cm=>decide (x.name=nm))with|some p=>(p,true)|none=>(⟨⟨#[]⟩,0,[]⟩,false)).2],σ):=by
    intro l;induction l with
    |nil=>intro pre;rfl
    |cons x l ih=>
     intro pre;rw[fW];by_cases h:x.name=nm
     ·simp [h,Rd.el]
     ·simp only[aQ h,ih];simp [h]
   exact key l []
 ·rw[zz];cases hf:l.find? (λx:cm=>decide (x.name=nm))with
  |none=>rfl
  |some p=>exact OR p true
def marks(f:Nat→Bool):aq:=(List.range 513).map λk=>.bool (f k)
theorem zH(f:Nat→Bool){k:Nat}(h:k<513):(marks f)[k]? =some (.bool (f k)):=by simp [marks,h]
theorem xh(f:Nat→Bool):(marks f).length=513:=by simp [marks]
theorem MB(f:Nat→Bool){γ:Type}(K1 K2:γ):∀(s a:Nat)(pre:List Nat),(fW (λ_ k(_:Unit)=>if 512<k∨f k=true then(Rd.out ():Rd Unit Unit)else .go ()) pre (List.range' a s) ()).el (λ_=>K1) (λ_=>K2)=if qm f s a=true then K1 else K2
 |0,a,pre=>by simp [fW,qm,Rd.el]
 |s+1,a,pre=>by
  rw[List.range'_succ,fW,qm];by_cases h:512<a∨f a=true
  ·simp only[aP h,Rd.el];simp
  ·simp only[aQ h];exact MB f K1 K2 s (a+1) _
theorem W6(a s:Int)(h:bp (a+s))(h':bp (a+s-1))(σ:Heap):zl [.np,.aj a,.aj s] σ=some (.bool (decide (a+s-1≤512)),σ):=by refine wrap_eq rfl ?_ rfl;show AU .np (.aj a) (.aj s) σ=_;unfold AU;simp only[az,reduceCtorEq,show A.eql .p AV.np AV.np=some (.bool true)from rfl,cW h,cW h']
theorem VZ(cs:aq){k:Nat}(h:k<513):A.sY 513 1 (.rp cs) (.aj (k:Int))=some (.rp (cs.drop k)):=by
 have h1:A.idx 513 (.aj (k:Int))=some k:=by show(if(0:Int)≤(k:Int)∧(k:Int)<((513:Nat):Int)then some (k:Int).toNat else none)=some k;rw[aP ⟨by omega,by omega⟩];rfl
 unfold A.sY;rw[h1];simp only[aM,Nat.mul_one]
theorem W8(f:Nat→Bool)(a s:Nat)(hs:a≤1024∧s≤1024)(σ:Heap):zl [.rp (marks f),.aj (a:Int),.aj (s:Int)] σ=some (.bool (qm f s a),σ):=by
 refine wrap_eq rfl ?_ rfl;show AU (.rp (marks f)) (.aj (a:Int)) (.aj (s:Int)) σ=_;unfold AU;have hw:IntKind.i64.wrap ((a:Int)+s)=(a:Int)+s:=cW (by unfold bp;omega);simp only[az,reduceCtorEq,show A.eql .p (AV.rp (marks f)) AV.np=some (.bool false)from rfl,hw]
 refine(kC (S:=Unit) (R:=Unit) (List.range' a s) (λ_ k(_:Unit)=>if 512<k∨f k=true then(Rd.out ():Rd Unit Unit)else .go ())
  (λpre _=>[.bool false,.aj ((a:Int)+(pre.length:Int))]) (λ_ _=>σ) (λ_=>(.exit 0,[.bool false,.aj ((a:Int)+s)],σ)) (λpre _ _=>(.ret,[.bool false,.aj ((a:Int)+(pre.length:Int))],σ))
  (λ_ _=>True) () (λ_=>some (AV.bool true,σ)) (λ_=>some (AV.bool false,σ)) ?_ ?_ trivial (λ_ _ _ _ _ _ _ _=>trivial) ?_ ?_ (hv:=by simp)).trans ?_
 ·intro pre k rest u hl _;have hx:=kH hl;have hlt:=mL hl;rw[List.length_range']at hlt
  obtain rfl:a+pre.length=k:=by have:=(cq.1 hx).2;simpa [List.getElem_range']using this
  have hlt':(a:Int)+(pre.length:Int)<(a:Int)+s:=by omega
  have hi1:IntKind.i64.wrap ((a:Int)+(pre.length:Int)+1)=(a:Int)+((pre.length:Int)+1):=by rw[cW (by unfold bp;omega)];omega
  have Ad:(a:Int)+(pre.length:Int)=((a+pre.length:Nat):Int):=by omega
  clear hl hx;by_cases h5:512<a+pre.length
  ·have JL:(512:Int)<(a:Int)+(pre.length:Int):=by omega
   simp only[az,reduceCtorEq,hlt',h5,JL]
  have JL:¬(512:Int)<(a:Int)+(pre.length:Int):=by omega
  have hp:A.ay 0 ((marks f).drop (a+pre.length))=some (.bool (f (a+pre.length))):=by rw[Kg];simp only[A.ay,Nat.add_zero,zH f (show a+pre.length<513 by omega)];rfl
  simp only[az,reduceCtorEq,hlt',h5,JL,show A.lD (AV.rp (marks f))=some (.rp (marks f))from rfl];rw[Ad,VZ _ (by omega)];simp only[az,reduceCtorEq,hp];cases hf:f (a+pre.length)
  ·simp only[az,reduceCtorEq,←Ad,hi1]
  ·simp only[az,reduceCtorEq,←Ad]
 ·intro u _;rw[List.length_range'];exact qR _ _ _
 ·intro u _;simp only[az,reduceCtorEq]
 ·intros;simp only[az,reduceCtorEq]
 ·rw[MB];cases qm f s a<;>rfl
theorem W7(f:Nat→Bool)(a s:Nat)(hs:a≤1024∧s≤1024){σ:Heap}{id:Nat}(h:σ[id]? =some (.box (marks f))):zl [.op id 0,.aj (a:Int),.aj (s:Int)] σ=some (.bool (qm f s a),σ):=by
 refine NL (args':=[.rp (marks f),.aj (a:Int),.aj (s:Int)]) rfl ?_ rfl (W8 f a s hs []) rfl
 have e:A.tc σ 0 7 (marks f)=some (marks f):=by
  have key:∀(l:List Nat),A.tc σ 0 7 (l.map λk=>AV.bool (f k))=some (l.map λk=>AV.bool (f k)):=by
   intro l;induction l with
   |nil=>simp [A.tc]
   |cons x l ih=>simp [A.tc,A.bM,ih]
  exact key _
 simp [A.dr,A.bM,h,e]
def oQ(b:Nat):List Int→List (AV×AV)
 |[]=>[]
 |v::r=>(.int .i64 v,.op b 0)::oQ (b+1) r
def fc(σ:Heap)(vs:List Int)(f:Int→Nat→Bool):Heap:=σ++(bu.map (oQ (σ.length+1) vs)::vs.map λv=>bu.box (marks (f v)))
theorem NK(v:Int):∀(vs:List Int)(b:Nat),oQ b (vs++[v])=oQ b vs++[(.aj v,.op (b+vs.length) 0)]
 |[],b=>rfl
 |w::r,b=>by simp only[nr,oQ,NK v r (b+1),List.length_cons];rw[show b+1+r.length=b+(r.length+1) by omega]
theorem Ex(v:Int):∀(vs:List Int)(b:Nat),A.find .i (.aj v) (oQ b vs)=some (if v∈vs then some (.op (b+vs.idxOf v) 0)else none)
 |[],b=>rfl
 |w::r,b=>by
  simp only[oQ,A.find,A.dO,A.lQ,if_true,aM];by_cases h:v=w
  ·subst h;simp
  ·have h1:(v==w)=false:=by simpa using h
   have h2:(w==v)=false:=by simpa using λe:w=v=>h e.symm
   simp only[h1,aV,Ex v r (b+1),eu,h,false_or,List.idxOf_cons,h2];rw[show b+1+r.idxOf v=b+(r.idxOf v+1) by omega]
theorem Ox(v:Int)(w:AV):∀(vs:List Int)(b:Nat),v∉vs→A.upd .i (.aj v) w (oQ b vs)=some (oQ b vs++[(.aj v,w)])
 |[],b,_=>rfl
 |x::r,b,h=>by
  simp only[eu,not_or]at h;have h1:(v==x)=false:=by simpa using h.1
  simp only[oQ,A.upd,A.dO,A.lQ,if_true,aM,h1,aV,Ox v w r (b+1) h.2,eO,nr]
theorem Oz(σ:Heap)(vs:List Int)(f:Int→Nat→Bool):(fc σ vs f).length=σ.length+1+vs.length:=by simp [fc];omega
theorem EL(σ:Heap)(vs:List Int)(f:Int→Nat→Bool):(fc σ vs f)[σ.length]? =some (.map (oQ (σ.length+1) vs)):=by simp [fc]
theorem Oy(σ:Heap){vs:List Int}(f:Int→Nat→Bool){v:Int}(h:v∈vs):(fc σ vs f)[σ.length+1+vs.idxOf v]? =some (.box (marks (f v))):=by
 unfold fc;rw[fD (by omega),show σ.length+1+vs.idxOf v-σ.length=vs.idxOf v+1 by omega,List.getElem?_cons_succ,Aj]
 have:vs[vs.idxOf v]? =some v:=by have hl:=List.idxOf_lt_length_of_mem h;rw[cu hl,List.getElem_idxOf hl]
 rw[this];rfl
theorem XV(σ:Heap){vs:List Int}(hn:vs.Nodup){f f':Int→Nat→Bool}{v:Int}(h:v∈vs)(ho:∀w,w≠v→f' w=f w):(fc σ vs f).set (σ.length+1+vs.idxOf v) (.box (marks (f' v)))=fc σ vs f':=by
 unfold fc;rw[qt _ _ (by omega),show σ.length+1+vs.idxOf v-σ.length=vs.idxOf v+1 by omega,List.set_cons_succ];refine congrArg (λz=>σ++(bu.map (oQ (σ.length+1) vs)::z)) ?_;clear σ;induction vs with
 |nil=>cases h
 |cons w r ih=>
  rw[List.nodup_cons]at hn;rw[List.idxOf_cons];by_cases e:w=v
  ·subst e;simp only[beq_self_eq_true,bA,fP,List.set_cons_zero];exact congrArg (bu.box (marks (f' w))::·) (List.map_congr_left λx hx=>by rw[ho x (λe=>hn.1 (e▸hx))])
  ·have e2:(w==v)=false:=by simpa using e
   simp only[e2,aV,fP,List.set_cons_succ];rw[ih hn.2 ((eu.1 h).resolve_left λq=>e q.symm),ho w e]
theorem XU(σ:Heap)(vs:List Int){f:Int→Nat→Bool}{v:Int}(h:∀k,f v k=false):((fc σ vs f)++[bu.box (List.replicate 513 aU)]).set σ.length (.map (oQ (σ.length+1) (vs++[v])))=fc σ (vs++[v]) f:=by
 have e:marks (f v)=List.replicate 513 aU:=by rw[show f v=λ_=>false from funext h];refine List.eq_replicate_iff.2 ⟨xh _,λb hb=>?_⟩;obtain⟨k,_,rfl⟩:=l9.1 hb;rfl
 unfold fc;simp only[jg,nr];rw[qt _ _ (bU _),Nat.sub_self,List.set_cons_zero,List.map_append,fP,e];rfl
theorem VG(g g':Nat→Bool){k:Nat}(hk:k<513)(h1:g' k=true)(h2:∀j,j≠k→g' j=g j):A.aH k [AV.bool true] (marks g)=some (marks g'):=by
 unfold A.aH;rw[aP (by rw[xh];simp;omega)];refine congrArg some (List.ext_getElem? λj=>?_);simp only[jg,nr,List.nil_append,List.length_cons,List.length_nil];by_cases hj:j<k
 ·rw[fH (by rw[kP,xh];omega),List.getElem?_take_of_lt hj,zH _ (by omega),zH _ (by omega),h2 j (by omega)]
 ·rw[fD (by rw[kP,xh];omega),kP,xh,Nat.min_eq_left (by omega)];by_cases e:j=k
  ·subst e;rw[Nat.sub_self,List.getElem?_cons_zero,zH _ hk,h1]
  ·rw[show j-k=(j-k-1)+1 by omega,List.getElem?_cons_succ,List.getElem?_drop,show k+(0+1)+(j-k-1)=j by omega];by_cases hj2:j<513
   ·rw[zH _ hj2,zH _ hj2,h2 j e]
   ·rw[kN (by rw[xh];omega),kN (by rw[xh];omega)]
theorem EU{α γ:Type}(K1:Unit→γ)(K2:Unit→γ):∀(l pre:List α),(fW (λ_(x:α)(_:Unit)=>(Rd.go ():Rd Unit Unit)) pre l ()).el K1 K2=K1 ()
 |[],pre=>rfl
 |x::l,pre=>by rw[fW];exact EU K1 K2 l _
theorem Mg{α S:Type}{body:List α→α→S→Rd S Int}{mz:List α→List α→Int}(h0:∀pre,mz pre []=0)(h:∀pre x rest s,mz pre (x::rest)=(body pre x s).el (λ_=>mz (pre++[x]) rest) (λr=>r)) {γ:Type} (K:Int→γ):
  ∀(l pre:List α)(s:S),(fW body pre l s).el (λ_=>K 0) K=K (mz pre l)
 |[],pre,s=>by rw[fW,h0];rfl
 |x::l,pre,s=>by
  rw[fW,h pre x l s];cases body pre x s with
  |go s'=>exact Mg h0 h K l (pre++[x]) s'
  |out r=>rfl
theorem UR(f:Int→Nat→Bool)(v:Int)(a:Nat):kJ f v a 0=f:=by funext w k;unfold kJ;rw[aQ (by omega)]
theorem M6{γ:Type}(σ:Heap){vs:List Int}(hn:vs.Nodup)(f:Int→Nat→Bool)(u:eM)(a s:Nat)(ha:u.address=a)(hs:a+s≤513)(hm:u.univ∈vs)(K:aq→Heap→Option γ):
  (A.loop (λv11 e9=>
   ((A.lb (ah v11 0)).bind λ_=>some (3)).bind λp13=>
   ((A.lb (ah v11 0)).bind λgf=>A.ay p13 gf).bind λaW=>
   (A.add aW (.aj (s:Int))).bind λbE=>
   (A.lss (ah v11 1) bE).bind λbJ=>
   A.cond bJ (
    ((A.lb (ah v11 0)).bind λ_=>some (2)).bind λp18=>
    ((A.lb (ah v11 0)).bind λnJ=>A.ay p18 nJ).bind λbZ=>
    (A.look .i (.om σ.length) bZ AV.np e9).bind λaT=>
    (A.lD aT).bind λbO=>
    (A.sY 513 1 bO (ah v11 1)).bind λcg=>
    (A.storeAt cg [AV.bool true] e9).bind λlO=>
    (A.add (ah v11 1) (AV.aj 1)).bind λcH=>
    some (AX.normal,[(ah v11 0),cH],lO)) (
    some (AX.exit 0,[(ah v11 0),(ah v11 1)],e9))) [.lbx (eF u),.aj (a:Int)] (fc σ vs f)).bind (λfT=>
 bif decide (fT.1=AX.exit 0)then K fT.2.1 fT.2.2 else none)=K [.lbx (eF u),.aj ((a:Int)+s)] (fc σ vs (kJ f u.univ a s)):=by
 have hw:IntKind.i64.wrap ((a:Int)+s)=(a:Int)+s:=cW (by unfold bp;omega)
 refine(kC (S:=Unit) (R:=Unit) (List.range' a s) (λ_ k(_:Unit)=>(Rd.go ():Rd Unit Unit))
  (λpre _=>[.lbx (eF u),.aj ((a:Int)+(pre.length:Int))]) (λpre _=>fc σ vs (kJ f u.univ a pre.length)) (λ_=>(.exit 0,[.lbx (eF u),.aj ((a:Int)+s)],fc σ vs (kJ f u.univ a s))) (λpre _ _=>(.ret,[],σ))
  (λ_ _=>True) () (λ_=>K [.lbx (eF u),.aj ((a:Int)+s)] (fc σ vs (kJ f u.univ a s))) (λ_=>none) ?_ ?_ trivial (λ_ _ _ _ _ _ _ _=>trivial) ?_ ?_ (hv:=by simp) (dH:=by rw[List.length_nil,UR])).trans (EU _ _ _ _)
 ·intro pre k rest t hl _;have hx:=kH hl;have hlt:=mL hl;rw[List.length_range']at hlt
  obtain rfl:a+pre.length=k:=by have:=(cq.1 hx).2;simpa [List.getElem_range']using this
  have hlt':(a:Int)+(pre.length:Int)<(a:Int)+s:=by omega
  have hi1:IntKind.i64.wrap ((a:Int)+(pre.length:Int)+1)=(a:Int)+((pre.length:Int)+1):=by rw[cW (by unfold bp;omega)];omega
  have Ad:(a:Int)+(pre.length:Int)=((a+pre.length:Nat):Int):=by omega
  clear hl hx
  have IQ:A.look .i (.om σ.length) (.aj u.univ) AV.np (fc σ vs (kJ f u.univ a pre.length))=some (.op (σ.length+1+vs.idxOf u.univ) 0):=by rw[xw .i rfl (EL σ vs _),Ex,aP hm];rfl
  have Zy:A.sY 513 1 (.op (σ.length+1+vs.idxOf u.univ) 0) (.aj ((a+pre.length:Nat):Int))=some (.op (σ.length+1+vs.idxOf u.univ) (a+pre.length)):=by
   have h1:A.idx 513 (.aj ((a+pre.length:Nat):Int))=some (a+pre.length):=by show(if(0:Int)≤((a+pre.length:Nat):Int)∧((a+pre.length:Nat):Int)<((513:Nat):Int)then some ((a+pre.length:Nat):Int).toNat else none)=_;rw[aP ⟨by omega,by omega⟩];rfl
   unfold A.sY;rw[h1];simp only[aM,Nat.mul_one,Nat.zero_add]
  have hst:A.storeAt (.op (σ.length+1+vs.idxOf u.univ) (a+pre.length)) [.bool true] (fc σ vs (kJ f u.univ a pre.length))=some (fc σ vs (kJ f u.univ a (pre.length+1))):=by
   simp only[A.storeAt,Oy σ _ hm]
   rw[VG _ (kJ f u.univ a (pre.length+1) u.univ) (by omega) (by unfold kJ;rw[aP ⟨rfl,by omega,by omega⟩]) (λj hj=>by
    unfold kJ;by_cases q:a≤j∧j<a+pre.length
    ·rw[aP ⟨rfl,by omega,by omega⟩,aP ⟨rfl,q.1,q.2⟩]
    ·rw[aQ (by omega),aQ (by omega)])]
   simp only[eO];rw[XV σ hn hm (λw hw=>by funext j;unfold kJ;rw[aQ (λq=>hw q.1),aQ (λq=>hw q.1)])]
  simp only[az,reduceCtorEq,gq,gr,gu,gy,gA,gz,gB,ha,hw,hlt',IQ,show A.lD (.op (σ.length+1+vs.idxOf u.univ) 0)=some (.op (σ.length+1+vs.idxOf u.univ) 0)from rfl];rw[Ad,Zy];simp only[az,reduceCtorEq,hst,←Ad,hi1]
 ·intro t _;rw[List.length_range'];simp only[az,reduceCtorEq,gq,gr,gu,gy,gA,gz,gB,ha,hw,Int.lt_irrefl]
 ·intro t _;simp only[az,reduceCtorEq]
 ·intro pre x rest t r _ _ hb;cases hb
theorem XT(σ:Heap){vs:List Int}(hn:vs.Nodup)(f:Int→Nat→Bool)(u:eM)(a s:Nat)(ha:u.address=a)(hs:a+s≤513)(hf:u.univ∉vs→∀k,f u.univ k=false):
  DH [.om σ.length,.agg (eF u),.aj (s:Int)] (fc σ vs f)=some (.aD [],fc σ (if u.univ∈vs then vs else vs++[u.univ]) (kJ f u.univ a s)):=by
 have e:A6 (.om σ.length) (.agg (eF u)) (.aj (s:Int)) (fc σ vs f)=some (.aD [],fc σ (if u.univ∈vs then vs else vs++[u.univ]) (kJ f u.univ a s)):=by
  unfold A6
  have IQ:A.look .i (.om σ.length) (.aj u.univ) AV.np (fc σ vs f)=some (if u.univ∈vs then .op (σ.length+1+vs.idxOf u.univ) 0 else .np):=by rw[xw .i rfl (EL σ vs _),Ex];by_cases hm:u.univ∈vs<;>simp [hm]
  simp only[az,reduceCtorEq,gq,gr,gu,gy,gA,gz,gB,IQ];by_cases hm:u.univ∈vs
  ·simp only[aP hm,show A.eql .p (.op (σ.length+1+vs.idxOf u.univ) 0) AV.np=some (.bool false)from rfl,az,reduceCtorEq,gq,gr,gu,gy,gA,gz,gB,ha];exact M6 σ hn f u a s ha hs hm λ_ h=>some (AV.aD [],h)
  ·have hup:A.ji .i (.om σ.length) (.aj u.univ) (.op (fc σ vs f).length 0) (fc σ vs f++[bu.box (List.replicate 513 aU)])=some (fc σ (vs++[u.univ]) f):=by rw[BE .i rfl (es:=oQ (σ.length+1) vs) (by rw[fH (by rw[Oz];omega)];exact EL σ vs f),Ox _ _ _ _ hm];rw[eO,Oz,←NK,XU σ vs (hf hm)]
   simp only[aQ hm,show A.eql .p AV.np AV.np=some (.bool true)from rfl,az,reduceCtorEq,gq,gr,gu,gy,gA,gz,gB,hup,ha];exact M6 σ (by rw[List.nodup_append];exact⟨hn,by simp,λx hx y hy e=>hm (by simp at hy;rw[←hy,←e];exact hx)⟩) f u a s ha hs (by simp) λ_ h=>some (AV.aD [],h)
 unfold DH A.wrap;rw[Bool.false_and,aV];show(A6 (.om σ.length) (.agg (eF u)) (.aj (s:Int)) (fc σ vs f)).map _=_;rw[e];rfl
theorem tZ(n:Int)(σ:Heap):tY [.aj n] σ=some (.bool (bK n 0 65535),σ):=by refine wrap_eq rfl ?_ rfl;show GB (.aj n) σ=_;unfold GB;simp only[az,reduceCtorEq,oS]
theorem M3(x:dW)(σ:Heap):DX [.agg (b8 x)] σ=some (sl 1 nu (kL x.eA x.dc),σ):=by
 refine wrap_eq (v:=sl 1 nu (kL x.eA x.dc)) rfl ?_ rfl;show Hh (.agg (b8 x)) σ=_;unfold Hh kL;simp only[az,reduceCtorEq,jM,jN,jO,jP,jQ,jR,jS,jT,ju,jv]
 repeat' ((first|rw[iS]|rw[iR]|rw[iP]|rw[iL]|rw[iO]|rw[iN]);split<;>try simp only[az,reduceCtorEq, *])
 all_goals rfl
theorem V5(σ:Heap)(l:List jW):(fW (λpre(x:jW)(_:Unit)=>
    if bK x.low 0 65535=false∨bK x.high 0 65535=false∨x.high<x.low then(.out 1:Rd Unit Int)
    else if 0<pre.length∧x.low≤(pre.getLast?.map (·.high)).getD 0 then .out 7
    else if l7 x.name=false then .out 5
    else if dw x.name (pre.map (·.name))=true then .out 6 else .go ()) [] l ()).el (λ_=>some (AV.aj 0,σ)) (λr=>some (AV.aj r,σ))=some (.aj (xO [] l),σ):=by
 refine(vI (mz:=xO) ?_ ?_ (λn=>some (AV.aj n,σ)) l []).trans ?_
 ·intro pre;rfl
 ·intro pre x rest;rw[xO];simp only[sP,qi,ql]
 ·rfl
theorem To(x:dW)(hx:Ii x)(l:List dW)(hl:l.length≤bX)(size:Int)(hf:∀y∈l,0≤y.dc)(σ:Heap):Gf [.agg (b8 x),sl 7 b8 l,.aj size] σ=some (.aj (tu size l x),σ):=by
 refine wrap_eq rfl ?_ rfl;show Gg (.agg (b8 x)) (sl 7 b8 l) (.aj size) σ=_;obtain⟨k1,k2,k3,k4,k5,k6⟩:=hx;have hN:=G4 _ k1;unfold Gg tu;simp only[az,reduceCtorEq,jM,jN,jO,jP,jQ,jR,jS,jT,ju,jv,hN];cases hn:l7 x.name
 ·simp only[az,reduceCtorEq]
 simp only[az,reduceCtorEq];refine(xq l (λy=>decide (y.name=x.name)) (λi=>[.lbx (b8 x),.aj 0,.aj (i:Int)]) σ (.exit 0,[.lbx (b8 x),.aj 0,.aj (l.length:Int)],σ) (λi=>(.ret,[.lbx (b8 x),.aj 6,.aj (i:Int)],σ)) _ (some (.aj 6,σ)) ?_ ?_ rfl ?_).trans ?_
 ·intro i y hy;obtain⟨h1,h2,h3⟩:=sJ 7 b8 hy;have h3:=h3 hl;simp only[az,reduceCtorEq,jM,jN,jO,jP,jQ,jR,jS,jT,ju,jv,h1,h2,h3]
  repeat' ((first|rw[iS]|rw[iR]|rw[iP]|rw[iL]|rw[iO]|rw[iN]);split<;>try simp only[az,reduceCtorEq, *])
 ·simp only[az,reduceCtorEq,Int.lt_irrefl]
 ·intro i;simp only[az,reduceCtorEq]
 rw[←Es x.name (λy:dW=>y.name)];cases hm:dw x.name (l.map (·.name))
 ·simp only[az,reduceCtorEq,jM,jN,jO,jP,jQ,jR,jS,jT,ju,jv,oS,tZ];cases hg:bK x.group 1 4
  ·simp only[az,reduceCtorEq]
  simp only[az,reduceCtorEq];by_cases hw:bK x.eA 1 size=false∨bK x.dc 0 size=false∨bK x.default 0 65535=false
  ·rw[aP hw];cases ha:bK x.eA 1 size
   ·simp only[az,reduceCtorEq]
   cases hb:bK x.dc 0 size
   ·simp only[az,reduceCtorEq,oS,hb]
   ·have hc:bK x.default 0 65535=false:=by simpa [ha,hb]using hw
    simp only[az,reduceCtorEq,oS,tZ,hb,hc]
  ·rw[aQ hw];simp only[not_or,Bool.not_eq_false]at hw;obtain⟨ha,hb,hc⟩:=hw;have hx0:0≤x.dc:=by simp [bK]at hb;exact hb.1
   simp only[az,reduceCtorEq,oS,tZ,ha,hb,hc];by_cases he:x.eA=x.dc
   ·simp only[az,reduceCtorEq,he]
   simp only[az,reduceCtorEq,he];refine(xq l (λy=>zX x.eA x.dc y.eA y.dc) (λi=>[.lbx (b8 x),.aj 0,.aj (i:Int)]) σ (.exit 3,[.lbx (b8 x),.aj 0,.aj (l.length:Int)],σ) (λi=>(.ret,[.lbx (b8 x),.aj 12,.aj (i:Int)],σ)) _ (some (.aj 12,σ)) ?_ ?_ rfl ?_).trans ?_
   ·intro i y hy;obtain⟨h1,h2,h3⟩:=sJ 7 b8 hy;have h3:=h3 hl;have iA:∀a b:Int,(kL a b).length≤bX:=by intro a b;unfold kL bX;split<;>simp
    simp only[az,reduceCtorEq,jM,jN,jO,jP,jQ,jR,jS,jT,ju,jv,h1,h2,h3,M3];refine(xq (kL x.eA x.dc) (λs=>dw s (kL y.eA y.dc)) (λj=>[.lbx (b8 x),.aj 0,.lbx (b8 y),.aj (j:Int)]) σ (.exit 5,[.lbx (b8 x),.aj 0,.lbx (b8 y),.aj ((kL x.eA x.dc).length:Int)],σ) (λj=>(.ret,[.lbx (b8 x),.aj 12,.lbx (b8 y),.aj (j:Int)],σ)) _ (some (.ret,[.lbx (b8 x),.aj 12,.aj (i:Int)],σ)) ?_ ?_ rfl ?_).trans ?_
    ·intro j s hs;obtain⟨g1,g2,g3⟩:=sJ 1 nu hs;have g3:=g3 (iA _ _)
     have hc:∀σ,DB [sl 1 nu (kL y.eA y.dc),.aj s] σ=some (.bool (dw s (kL y.eA y.dc)),σ):=by intro σ;rw[SW _ (iA _ _) s σ];simp only[dw];congr 4;funext z;rw[decide_eq_decide];exact eq_comm
     simp only[az,reduceCtorEq,jM,jN,jO,jP,jQ,jR,jS,jT,ju,jv,g1,g2,g3,M3,hc];cases dw s (kL y.eA y.dc)<;>simp only[az,reduceCtorEq]
    ·simp only[az,reduceCtorEq,Int.lt_irrefl]
    ·intro j;simp only[az,reduceCtorEq]
    ·simp only[az,reduceCtorEq,zX,h3];rfl
   ·simp only[az,reduceCtorEq,Int.lt_irrefl]
   ·intro i;simp only[az,reduceCtorEq]
   have fI:(l.any λy=>zX x.eA x.dc y.eA y.dc)=true↔(dw x.eA (slotsOf l)=true∨(0<x.dc∧dw x.dc (slotsOf l)=true)):=Vo hf hx0;by_cases wJ:(l.any λy=>zX x.eA x.dc y.eA y.dc)=true
   ·rw[aP wJ,aP (fI.1 wJ)]
   rw[aQ wJ,aQ (λh=>wJ (fI.2 h))];clear fI wJ;simp only[az,reduceCtorEq,jM,jN,jO,jP,jQ,jR,jS,jT,ju,jv];unfold vQ;by_cases u6:30<x.ranges.length
   ·have rj:(30:Int)<x.ranges.length:=by omega
    simp only[az,reduceCtorEq,u6,rj]
   have rj:¬(30:Int)<x.ranges.length:=by omega
   simp only[az,reduceCtorEq,u6,rj]
   refine(kC (S:=Unit) (R:=Int) x.ranges _
    (λpre _=>[.lbx (b8 x),.aj 0,.aj (pre.length:Int)]) (λpre _=>σ)
    (λ_=>(.exit 7,[.lbx (b8 x),.aj 0,.aj (x.ranges.length:Int)],σ)) (λpre _ r=>(.ret,[.lbx (b8 x),.aj r,.aj (pre.length:Int)],σ))
    (λ_ _=>True) () (λ_=>some (AV.aj 0,σ)) (λr=>some (AV.aj r,σ)) ?_ ?_ trivial (λ_ _ _ _ _ _ _ _=>trivial) ?_ ?_).trans (V5 σ x.ranges)
   ·intro pre r rest u hl' _;have hr:=kH hl';have hlt:=mL hl';have hi1:IntKind.i64.wrap ((pre.length:Int)+1)=(pre.length:Int)+1:=cW (by unfold bp;omega);have hi2:IntKind.i64.wrap ((pre.length:Int) -1)=(pre.length:Int) -1:=cW (by unfold bp;omega);have hlt':(pre.length:Int)<(x.ranges.length:Int):=by omega
    have hnm:=(k6.2 r (by rw[hl'];simp)).2.2;have gj:=gJ 3 gC x.ranges hr;have Q1:=G4 _ hnm;have hst:=λσ=>DS 3 gC x.ranges (k:=pre.length) (by omega) (σ:=σ)
    rw[Eu hl']at hst;have hpl:pre.length≤bX:=by unfold bX;omega
    by_cases h0:0<pre.length
    ·obtain⟨y,hy,hy2⟩:=HM hl' h0;have xS:=DV 3 gC x.ranges h0 hy2;have gh:(0:Int)<pre.length:=by omega
     clear hl' hr hlt u6 rj hy2 hnm k1 k2 k3 k4 k5 k6 hN hn hm hg ha hb hc hx0 he hf;simp only[az,reduceCtorEq,sA,sB,sC,sF,sE,sG,jM,jN,jO,jP,jQ,jR,jS,jT,ju,jv,hlt',gj,tZ,hi1,hi2,Q1,gh,hy,h0]
     repeat' ((first|rw[iS]|rw[iR]|rw[iP]|rw[iL]|rw[iO]|rw[iN]);split<;>try simp only[az,reduceCtorEq,sA,sB,sC,sF,sE,sG,jM,jN,jO,jP,jQ,jR,jS,jT,ju,jv,tZ, *])
     all_goals first|rfl|(simp_all;done)|skip
     all_goals
      refine(xq pre (λz=>decide (z.name=r.name)) (λj=>[.lbx (b8 x),.aj 0,.lbx (gC r),.aj (j:Int)]) σ (.exit 10,[.lbx (b8 x),.aj 0,.lbx (gC r),.aj (pre.length:Int)],σ) (λj=>(.ret,[.lbx (b8 x),.aj 6,.lbx (gC r),.aj (j:Int)],σ)) _ (some (.ret,[.lbx (b8 x),.aj 6,.aj (pre.length:Int)],σ)) ?_ ?_ rfl ?_).trans ?_
      ·intro j z hz;obtain⟨g1,g2,g3⟩:=sJ 3 gC hz;have g3:=g3 hpl;simp only[az,reduceCtorEq,sA,sB,sC,sF,sE,sG,g1,g2,g3]
       repeat' ((first|rw[iS]|rw[iR]|rw[iP]|rw[iL]|rw[iO]|rw[iN]);split<;>try simp only[az,reduceCtorEq, *])
      ·simp only[az,reduceCtorEq,Int.lt_irrefl]
      ·intro j;simp only[az,reduceCtorEq]
      ·rw[←Es r.name (λz:jW=>z.name)]
       simp_all [az,reduceCtorEq]
       try (split<;>simp_all)
    ·have gh:¬(0:Int)<pre.length:=by omega
     clear hl' hr hlt u6 rj hnm k1 k2 k3 k4 k5 k6 hN hn hm hg ha hb hc hx0 he hf;simp only[az,reduceCtorEq,sA,sB,sC,sF,sE,sG,jM,jN,jO,jP,jQ,jR,jS,jT,ju,jv,hlt',gj,tZ,hi1,hi2,Q1,gh,h0]
     repeat' ((first|rw[iS]|rw[iR]|rw[iP]|rw[iL]|rw[iO]|rw[iN]);split<;>try simp only[az,reduceCtorEq,sA,sB,sC,sF,sE,sG,jM,jN,jO,jP,jQ,jR,jS,jT,ju,jv,tZ, *])
     all_goals first|rfl|(simp_all;done)|skip
     all_goals
      refine(xq pre (λz=>decide (z.name=r.name)) (λj=>[.lbx (b8 x),.aj 0,.lbx (gC r),.aj (j:Int)]) σ (.exit 10,[.lbx (b8 x),.aj 0,.lbx (gC r),.aj (pre.length:Int)],σ) (λj=>(.ret,[.lbx (b8 x),.aj 6,.lbx (gC r),.aj (j:Int)],σ)) _ (some (.ret,[.lbx (b8 x),.aj 6,.aj (pre.length:Int)],σ)) ?_ ?_ rfl ?_).trans ?_
      ·intro j z hz;obtain⟨g1,g2,g3⟩:=sJ 3 gC hz;have g3:=g3 hpl;simp only[az,reduceCtorEq,sA,sB,sC,sF,sE,sG,g1,g2,g3]
       repeat' ((first|rw[iS]|rw[iR]|rw[iP]|rw[iL]|rw[iO]|rw[iN]);split<;>try simp only[az,reduceCtorEq, *])
      ·simp only[az,reduceCtorEq,Int.lt_irrefl]
      ·intro j;simp only[az,reduceCtorEq]
      ·rw[←Es r.name (λz:jW=>z.name)]
       simp_all [az,reduceCtorEq]
       try (split<;>simp_all)
   ·intro u _;simp only[az,reduceCtorEq,Int.lt_irrefl]
   ·intro u _;simp only[az,reduceCtorEq]
   ·intros;simp only[az,reduceCtorEq]
 ·simp only[az,reduceCtorEq]
theorem Tf(p:cm)(hok:xj p)(σ:Heap):F9 [.agg (cE p)] σ=some (.aj (kD p),σ):=by
 refine wrap_eq rfl ?_ rfl;show Gb (.agg (cE p)) σ=_;obtain⟨pn,ps,l⟩:=p;obtain⟨hnm,hps,xT⟩:=hok;simp only at hnm hps xT;have hN:=G4 _ hnm;unfold Gb kD;simp only[az,reduceCtorEq,gR,gS,gU,gW,gV,gX,hN,oS];cases hn:l7 pn
 ·simp only[az,reduceCtorEq]
 cases hz:bK ps 1 512
 ·simp only[az,reduceCtorEq]
 by_cases h0:l.length=0
 ·obtain rfl:l=[]:=uA h0;simp [az,reduceCtorEq]
 have gh:¬(l.length:Int)=0:=by omega
 by_cases yI:40<l.length
 ·have uF:(40:Int)<l.length:=by omega
  simp only[az,reduceCtorEq,h0,gh,yI,uF]
 have uF:¬(40:Int)<l.length:=by omega
 simp only[az,reduceCtorEq,h0,gh,yI,uF]
 refine(kC (S:=Unit) (R:=Int) l (λpre x _=>if tu ps pre x=0 then .go ()else .out (tu ps pre x))
  (λpre _=>[.lbx (cE ⟨pn,ps,l⟩),.aj 0,.aj (pre.length:Int)]) (λpre _=>σ)
  (λ_=>(.exit 1,[.lbx (cE ⟨pn,ps,l⟩),.aj 0,.aj (l.length:Int)],σ))
  (λpre _ r=>(.ret,[.lbx (cE ⟨pn,ps,l⟩),.aj r,.aj (pre.length:Int)],σ))
  (λpre _=>∀y∈pre,0≤y.dc) () (λ_=>some (AV.aj 0,σ)) (λr=>some (AV.aj r,σ)) ?_ ?_ (by simp) ?_ ?_ ?_).trans ?_
 ·intro pre x rest u hl hpre;have hx:=kH hl;have hlt:=mL hl;have hi1:IntKind.i64.wrap ((pre.length:Int)+1)=(pre.length:Int)+1:=cW (by unfold bp;omega);have hi2:IntKind.i64.wrap ((pre.length:Int) -1)=(pre.length:Int) -1:=cW (by unfold bp;omega);have hlt':(pre.length:Int)<(l.length:Int):=by omega
  have hX:=To x (xT.2 x (by rw[hl];simp)) pre (by unfold bX;omega) ps hpre σ;have gj:=gJ 7 b8 l hx;have hst:=λσ=>DS 7 b8 l (k:=pre.length) (by omega) (σ:=σ)
  rw[Eu hl]at hst;clear hl hx hlt xT yI uF h0 gh hnm hps hN hn hz hpre;simp only[az,reduceCtorEq,jM,jN,jO,jP,jQ,jR,jS,jT,ju,jv,gR,gS,gU,gW,gV,gX,hlt',gj,hst,hX,hi1]
  repeat' ((first|rw[iS]|rw[iR]|rw[iP]|rw[iL]|rw[iO]|rw[iN]);split<;>try simp only[az,reduceCtorEq,jM,jN,jO,jP,jQ,jR,jS,jT,ju,jv, *])
  all_goals first|with_reducible rfl|(simp [*];done)|(simp_all;done)|(simp_all;omega)|rfl
 ·intro u _;exact qR _ _ _
 ·intro pre x rest s s' hl hpre hb y hy;rcases ew.1 hy with hy|hy
  ·exact hpre y hy
  ·simp at hy;subst hy;by_cases h:tu ps pre y=0
   ·exact Vn h
   ·rw[aQ h]at hb;cases hb
 ·intro u _;simp only[az,reduceCtorEq]
 ·intros;simp only[az,reduceCtorEq]
 ·refine(vI (mz:=wj ps) ?_ ?_ (λn=>some (AV.aj n,σ)) l []).trans ?_
  ·intro pre;rfl
  ·intro pre x rest;rw[Vm];simp only[sP,qi,ql]
  ·rfl
theorem Te(l:List cm)(hok:eY xj l)(σ:Heap):F8 [sl 3 cE l] σ=some (.aj (pq l),σ):=by
 refine wrap_eq rfl ?_ rfl;show Ga (sl 3 cE l) σ=_;unfold Ga pq;simp only[az,reduceCtorEq];by_cases pQ:60<l.length
 ·have kS:(60:Int)<l.length:=by omega
  simp only[az,reduceCtorEq,pQ,kS]
 have kS:¬(60:Int)<l.length:=by omega
 simp only[az,reduceCtorEq,pQ,kS]
 refine(kC (S:=Unit) (R:=Int) l (λpre x _=>if kD x=0 then(if dw x.name (pre.map (·.name))=true then .out 6 else .go ())else .out (kD x))
  (λpre _=>[.aj 0,.aj (pre.length:Int)]) (λpre _=>σ)
  (λ_=>(.exit 0,[.aj 0,.aj (l.length:Int)],σ)) (λpre _ r=>(.ret,[.aj r,.aj (pre.length:Int)],σ))
  (λ_ _=>True) () (λ_=>some (AV.aj 0,σ)) (λr=>some (AV.aj r,σ)) ?_ ?_ trivial (λ_ _ _ _ _ _ _ _=>trivial) ?_ ?_).trans ?_
 ·intro pre x rest u hl _;have hx:=kH hl;have hlt:=mL hl;have hi1:IntKind.i64.wrap ((pre.length:Int)+1)=(pre.length:Int)+1:=cW (by unfold bp;omega);have hi2:IntKind.i64.wrap ((pre.length:Int) -1)=(pre.length:Int) -1:=cW (by unfold bp;omega);have hlt':(pre.length:Int)<(l.length:Int):=by omega
  have hP:=Tf x (hok.2 x (by rw[hl];simp));have gj:=gJ 3 cE l hx;have hst:=λσ=>DS 3 cE l (k:=pre.length) (by omega) (σ:=σ)
  rw[Eu hl]at hst;have hpl:pre.length≤bX:=by unfold bX;omega
  clear hl hx hlt hok pQ kS;simp only[az,reduceCtorEq,gR,gS,gU,gW,gV,gX,hlt',gj,hi1,hst,hP];by_cases hp:kD x=0
  ·simp only[az,reduceCtorEq,hp];refine(xq pre (λz=>decide (z.name=x.name)) (λj=>[.aj 0,.lbx (cE x),.aj (j:Int)]) σ (.exit 2,[.aj 0,.lbx (cE x),.aj (pre.length:Int)],σ) (λj=>(.ret,[.aj 6,.lbx (cE x),.aj (j:Int)],σ)) _ (some (.ret,[.aj 6,.aj (pre.length:Int)],σ)) ?_ ?_ rfl ?_).trans ?_
   ·intro j z hz;obtain⟨g1,g2,g3⟩:=sJ 3 cE hz;have g3:=g3 hpl;simp only[az,reduceCtorEq,gR,gS,gU,gW,gV,gX,g1,g2,g3]
    repeat' ((first|rw[iS]|rw[iR]|rw[iP]|rw[iL]|rw[iO]|rw[iN]);split<;>try simp only[az,reduceCtorEq, *])
   ·simp only[az,reduceCtorEq,Int.lt_irrefl]
   ·intro j;simp only[az,reduceCtorEq]
   ·rw[←Es x.name (λz:cm=>z.name)];simp only[az,reduceCtorEq,hi1];cases dw x.name (pre.map (·.name))<;>simp [Rd.el]
  ·simp only[az,reduceCtorEq,hp]
 ·intro u _;exact qR _ _ _
 ·intro u _;simp only[az,reduceCtorEq]
 ·intros;simp only[az,reduceCtorEq]
 ·refine(vI (mz:=tj) ?_ ?_ (λn=>some (AV.aj n,σ)) l []).trans ?_
  ·intro pre;rfl
  ·intro pre x rest;rw[tj];simp only[sP,qi,ql]
  ·rfl
theorem Nt(r:cN)(u:eM)(hl:r.bQ.length≤bX)(h:bp (u.address+(eE u.fB r.bQ).1.size))(h':bp (fL r.bQ u))(σ:Heap):Bn [.agg (bW r),.agg (eF u)] σ=some (.aj (fL r.bQ u),σ):=by refine wrap_eq rfl ?_ rfl;show Hv (.agg (bW r)) (.agg (eF u)) σ=_;unfold Hv;unfold fL at h' ⊢;simp only[az,reduceCtorEq,iH,iI,gL,gK,iJ,gq,gr,gu,gy,gA,gz,gB,gR,gS,gU,gW,gV,gX,GO _ hl,cW h,cW h']
theorem L9{α:Type}(f:α→Int){l pre rest:List α}{x:α}(h:l=pre++x::rest)(n:Int):(∃y,0<pre.length∧l[pre.length-1]? =some y∧wA (pre.map f) n=decide (n≤f y))∨(¬0<pre.length∧wA (pre.map f) n=false):=by
 by_cases h0:0<pre.length
 ·obtain⟨y,hy,hy2⟩:=HM h h0;exact .inl ⟨y,h0,hy2,by simp [wA,List.getLast?_map,hy]⟩
 ·obtain rfl:pre=[]:=uA (by omega);exact .inr ⟨h0,rfl⟩
theorem Ym{r:cN}{x:eM}(h:1≤x.address∧x.address≤fL r.bQ x∧fL r.bQ x≤512):bp (x.address+(eE x.fB r.bQ).1.size)∧bp (fL r.bQ x):=by unfold fL at h ⊢;unfold bp;omega
theorem TR(r:cN)(hok:lF r)(σ:Heap):Gp [.agg (bW r)] σ=some (.aj (ga r),σ):=by
 refine wrap_eq rfl ?_ rfl;show Gt (.agg (bW r)) σ=_;obtain⟨Ao,J7⟩:=hok;have yO:=Ao.1;unfold Gt ga;simp only[az,reduceCtorEq,iH,iI,gL,gK,iJ,Te _ Ao];by_cases hf:pq r.bQ=0;case neg=>simp only[az,reduceCtorEq,hf]
 by_cases h4:400<r.fG.length
 ·have h4':(400:Int)<r.fG.length:=by omega
  simp only[az,reduceCtorEq,iH,iI,gL,gK,iJ,hf,h4,h4']
 have h4':¬(400:Int)<r.fG.length:=by omega
 simp only[az,reduceCtorEq,iH,iI,gL,gK,iJ,hf,h4,h4'];have z8:=L8 hf;generalize u9:r.fG=l at *
 refine(kC (S:=Unit) (R:=Int) l (λpre u _=>if bK u.aF 1 9999=false then .out 1
    else if wA (pre.map (·.aF)) u.aF=true then .out 7
    else if(eE u.fB r.bQ).2=false then .out 5
    else if bK u.univ 1 64=false∨bK u.address 1 512=false∨512<fL r.bQ u then .out 1
    else if vS r.bQ u pre=true then .out 12 else .go ())
  (λpre _=>[.lbx (bW r),.aj 0,.aj (pre.length:Int)]) (λpre _=>σ)
  (λ_=>(.exit 0,[.lbx (bW r),.aj 0,.aj (l.length:Int)],σ)) (λpre _ n=>(.ret,[.lbx (bW r),.aj n,.aj (pre.length:Int)],σ))
  (λpre _=>zP r.bQ pre) () (λ_=>some (AV.aj 0,σ)) (λn=>some (AV.aj n,σ)) ?_ ?_ (by intro x hx;simp at hx) ?_ ?_ ?_).trans ?_
 ·intro pre u rest s hl hP;have hx:=kH hl;have hlt:=mL hl;have hi1:IntKind.i64.wrap ((pre.length:Int)+1)=(pre.length:Int)+1:=cW (by unfold bp;omega);have hi2:IntKind.i64.wrap ((pre.length:Int) -1)=(pre.length:Int) -1:=cW (by unfold bp;omega);have hlt':(pre.length:Int)<(l.length:Int):=by omega
  have hmp:pre.length≤bX:=by unfold bX;omega
  have gj:=gJ 4 eF l hx;have hst:=λσ=>DS 4 eF l (k:=pre.length) (by omega) (σ:=σ)
  rw[Eu hl]at hst;have AB:=GO r.bQ yO u.fB;have ho:=L9 (·.aF) hl u.aF;clear J7 h4 h4' hl hx;simp only[az,reduceCtorEq,gq,gr,gu,gy,gA,gz,gB,iH,iI,gL,gK,iJ,u9,hlt',gj,AB,gR,gS,gU,gW,gV,gX,oS];cases h1:bK u.aF 1 9999
  ·simp only[az,reduceCtorEq]
  simp only[az,reduceCtorEq];rcases ho with⟨y,h0,hy,ho⟩|⟨h0,ho⟩
  case' inl=>
   have gh:(0:Int)<pre.length:=by omega
   have xS:=DV 4 eF l h0 hy;by_cases hq:u.aF≤y.aF
   ·simp only[az,reduceCtorEq,gq,gr,gu,gy,gA,gz,gB,iH,iI,gL,gK,iJ,u9,gh,hi2,xS,ho,hq]
   simp only[az,reduceCtorEq,gq,gr,gu,gy,gA,gz,gB,iH,iI,gL,gK,iJ,u9,gh,hi2,xS,ho,hq]
  case' inr=>
   have gh:¬(0:Int)<pre.length:=by omega
   simp only[az,reduceCtorEq,gh,ho]
  all_goals
   cases hp:(eE u.fB r.bQ).2
   ·simp only[az,reduceCtorEq]
   have hsz:=z8 _ (Bl _ _ hp);cases hu:bK u.univ 1 64
   ·simp only[az,reduceCtorEq,gq,gr,gu,gy,gA,gz,gB,oS,hu]
   cases ha:bK u.address 1 512
   ·simp only[az,reduceCtorEq,gq,gr,gu,gy,gA,gz,gB,oS,hu,ha]
   have ha':1≤u.address∧u.address≤512:=by simpa [bK]using ha
   have JN:=Nt r u yO (by unfold bp;omega) (by unfold fL bp;omega);by_cases h5:512<fL r.bQ u
   ·simp only[az,reduceCtorEq,gq,gr,gu,gy,gA,gz,gB,iH,iI,gL,gK,iJ,oS,hu,ha,JN,h5]
   simp only[az,reduceCtorEq,gq,gr,gu,gy,gA,gz,gB,iH,iI,gL,gK,iJ,oS,hu,ha,JN,h5,u9,hst];refine(xq pre (λx=>decide (x.univ=u.univ∧x.address≤fL r.bQ u∧u.address≤fL r.bQ x)) (λj=>[.lbx (bW r),.aj 0,.lbx (eF u),.aj (j:Int)]) σ (.exit 3,[.lbx (bW r),.aj 0,.lbx (eF u),.aj (pre.length:Int)],σ) (λj=>(.ret,[.lbx (bW r),.aj 12,.lbx (eF u),.aj (j:Int)],σ)) _ (some (.ret,[.lbx (bW r),.aj 12,.aj (pre.length:Int)],σ)) ?_ ?_ rfl ?_).trans ?_
   ·intro j z hz;obtain⟨g1,g2,g3⟩:=sJ 4 eF hz;have g3:=g3 hmp;have Rq:=Ym (hP z (cM hz));have hLz:=Nt r z yO Rq.1 Rq.2;clear hP z8 hz;simp only[az,reduceCtorEq,gq,gr,gu,gy,gA,gz,gB,iH,iI,gL,gK,iJ,g1,g2,g3]
    repeat' ((first|rw[iS]|rw[iR]|rw[iP]|rw[iL]|rw[iO]|rw[iN]);split<;>try simp only[az,reduceCtorEq,gq,gr,gu,gy,gA,gz,gB,iH,iI,gL,gK,iJ,JN,hLz, *])
    all_goals first|with_reducible rfl|(simp [*];done)|(simp_all;done)|(simp_all;omega)|rfl
   ·exact qR _ _ _
   ·intro j;simp only[az,reduceCtorEq]
   ·unfold vS;simp only[az,reduceCtorEq,hi1];cases pre.any (λx=>decide (x.univ=u.univ∧x.address≤fL r.bQ u∧u.address≤fL r.bQ x))<;>simp [Rd.el]
 ·intro u _;exact qR _ _ _
 ·intro pre u rest s s' hl hP hb;split at hb
  ·cases hb
  split at hb
  ·cases hb
  split at hb
  ·cases hb
  rename_i hp;split at hb
  ·cases hb
  rename_i hw;simp only[not_or,Bool.not_eq_false,bK,eN,decide_eq_true_eq]at hw hp;have hsz:=z8 _ (Bl _ _ (by simpa using hp));exact hP.snoc ⟨hw.2.1.1,by unfold fL;omega,by omega⟩
 ·intro u _;simp only[az,reduceCtorEq]
 ·intros;simp only[az,reduceCtorEq]
 ·refine(vI (mz:=wk r.bQ) ?_ ?_ (λn=>some (AV.aj n,σ)) l []).trans ?_
  ·intro pre;rfl
  ·intro pre x rest;rw[wk];simp only[sP,qi,ql]
  ·rfl
theorem WE(σ:Heap)(vs:List Int)(f:Int→Nat→Bool)(v:Int):A.look .i (.om σ.length) (.aj v) AV.np (fc σ vs f)=some (if v∈vs then .op (σ.length+1+vs.idxOf v) 0 else .np):=by rw[xw .i rfl (EL σ vs _),Ex];by_cases hm:v∈vs<;>simp [hm]
theorem NV(σ:Heap)(vs:List Int)(f:Int→Nat→Bool)(n:Int):A.fin σ (.aj n) (fc σ vs f)=some (.aj n,σ):=H7 _ _ _ _
theorem GN(r:cN)(hok:lF r)(σ:Heap):DC [.agg (bW r)] σ=some (.aj (ga r),σ):=by
 refine wrap_eq rfl ?_ rfl;show F6 (.agg (bW r)) σ=_;obtain⟨Ao,J7⟩:=hok;have yO:=Ao.1;unfold F6 ga;simp only[az,reduceCtorEq,iH,iI,gL,gK,iJ,Tg _ Ao];by_cases hf:pq r.bQ=0;case neg=>simp only[az,reduceCtorEq,hf]
 by_cases h4:400<r.fG.length
 ·have h4':(400:Int)<r.fG.length:=by omega
  simp only[az,reduceCtorEq,iH,iI,gL,gK,iJ,hf,h4,h4']
 have h4':¬(400:Int)<r.fG.length:=by omega
 simp only[az,reduceCtorEq,iH,iI,gL,gK,iJ,hf,h4,h4'];have z8:=L8 hf;generalize u9:r.fG=l at *
 refine(kC (S:=List Int×(Int→Nat→Bool)) (R:=Int) l (λpre u s=>if bK u.aF 1 9999=false then .out 1
    else if wA (pre.map (·.aF)) u.aF=true then .out 7
    else if(eE u.fB r.bQ).2=false then .out 5
    else if bK u.univ 1 64=false∨bK u.address 1 512=false∨512<fL r.bQ u then .out 1
    else if vS r.bQ u pre=true then .out 12 else .go (if u.univ∈s.1 then s.1 else s.1++[u.univ],kJ s.2 u.univ u.address.toNat (eE u.fB r.bQ).1.size.toNat))
  (λpre _=>[.lbx (bW r),.aj 0,.aj (pre.length:Int)]) (λpre s=>fc σ s.1 s.2)
  (λs=>(.exit 0,[.lbx (bW r),.aj 0,.aj (l.length:Int)],fc σ s.1 s.2)) (λpre s n=>(.ret,[.lbx (bW r),.aj n,.aj (pre.length:Int)],fc σ s.1 s.2))
  (λpre s=>zP r.bQ pre∧vR r.bQ pre s.2∧s.1.Nodup∧∀v,v∉s.1→∀k,s.2 v k=false) ([],λ_ _=>false) (λ_=>some (AV.aj 0,σ)) (λn=>some (AV.aj n,σ)) ?_ ?_ ⟨(by intro x hx;simp at hx),vR.nil _,List.nodup_nil,λ_ _ _=>rfl⟩ ?_ ?_ ?_).trans ?_
 ·intro pre u rest s hl hP;have hx:=kH hl;have hlt:=mL hl;have hi1:IntKind.i64.wrap ((pre.length:Int)+1)=(pre.length:Int)+1:=cW (by unfold bp;omega);have hi2:IntKind.i64.wrap ((pre.length:Int) -1)=(pre.length:Int) -1:=cW (by unfold bp;omega);have hlt':(pre.length:Int)<(l.length:Int):=by omega
  have hmp:pre.length≤bX:=by unfold bX;omega
  have gj:=gJ 4 eF l hx;have AB:=Md r.bQ yO u.fB;have ho:=L9 (·.aF) hl u.aF;obtain⟨vs,f⟩:=s;obtain⟨CJ,CK,Az,AA⟩:=hP;dsimp only at CJ CK Az AA ⊢;clear J7 h4 h4' hl hx;simp only[az,reduceCtorEq,gq,gr,gu,gy,gA,gz,gB,iH,iI,gL,gK,iJ,u9,hlt',gj,AB,gR,gS,gU,gW,gV,gX,qg];cases h1:bK u.aF 1 9999
  ·simp only[az,reduceCtorEq]
  simp only[az,reduceCtorEq];rcases ho with⟨y,h0,hy,ho⟩|⟨h0,ho⟩
  case' inl=>
   have gh:(0:Int)<pre.length:=by omega
   have xS:=DV 4 eF l h0 hy;by_cases hq:u.aF≤y.aF
   ·simp only[az,reduceCtorEq,gq,gr,gu,gy,gA,gz,gB,iH,iI,gL,gK,iJ,u9,gh,hi2,xS,ho,hq]
   simp only[az,reduceCtorEq,gq,gr,gu,gy,gA,gz,gB,iH,iI,gL,gK,iJ,u9,gh,hi2,xS,ho,hq]
  case' inr=>
   have gh:¬(0:Int)<pre.length:=by omega
   simp only[az,reduceCtorEq,gh,ho]
  all_goals
   try simp only[az,reduceCtorEq,gq,gr,gu,gy,gA,gz,gB,iH,iI,gL,gK,iJ,u9,AB]
   cases hp:(eE u.fB r.bQ).2
   ·simp only[az,reduceCtorEq,gR,gS,gU,gW,gV,gX]
   have hsz:=z8 _ (Bl _ _ hp);try simp only[az,reduceCtorEq,gq,gr,gu,gy,gA,gz,gB,gR,gS,gU,gW,gV,gX,qg]
   cases hu:bK u.univ 1 64
   ·simp only[az,reduceCtorEq]
   cases ha:bK u.address 1 512
   ·simp only[az,reduceCtorEq,gq,gr,gu,gy,gA,gz,gB,qg,ha]
   have ha':1≤u.address∧u.address≤512:=by simpa [bK]using ha
   have hw1:IntKind.i64.wrap (u.address+(eE u.fB r.bQ).1.size)=u.address+(eE u.fB r.bQ).1.size:=cW (by unfold bp;omega);have Rl:IntKind.i64.wrap (u.address+(eE u.fB r.bQ).1.size-1)=fL r.bQ u:=cW (by unfold bp;omega);have hlu:fL r.bQ u=u.address+(eE u.fB r.bQ).1.size-1:=rfl;by_cases h5:512<fL r.bQ u
   ·simp only[az,reduceCtorEq,gq,gr,gu,gy,gA,gz,gB,gR,gS,gU,gW,gV,gX,qg,ha,hw1,Rl,h5]
   obtain⟨a,JP⟩:∃a:Nat,u.address=a:=⟨u.address.toNat,by omega⟩
   obtain⟨n,hne⟩:∃n:Nat,(eE u.fB r.bQ).1.size=n:=⟨(eE u.fB r.bQ).1.size.toNat,by omega⟩
   have Fw:=UK CK CJ u a n JP (by omega) (by omega) (by omega)
   have hfree:zl [if u.univ∈vs then .op (σ.length+1+vs.idxOf u.univ) 0 else .np,.aj (a:Int),.aj (n:Int)] (fc σ vs f)=some (.bool (!vS r.bQ u pre),fc σ vs f):=by
    by_cases hm:u.univ∈vs
    ·rw[aP hm,W7 (f u.univ) a n (by omega) (Oy σ f hm),Fw]
    ·rw[aQ hm,W6 a n (by unfold bp;omega) (by unfold bp;omega),←Fw];have e:qm (f u.univ) n a=true:=(Hq _ _ _).2 λk h1 h2=>⟨by omega,AA _ hm k⟩
     rw[e,show decide ((a:Int)+n-1≤512)=true from cy (by omega)]
   have jH:=XT σ Az f u a n JP (by omega) (AA u.univ);simp only[az,reduceCtorEq,gq,gr,gu,gy,gA,gz,gB,gR,gS,gU,gW,gV,gX,qg,ha,hw1,Rl,h5,WE];rw[JP,hne];simp only[az,reduceCtorEq,hfree];cases hc:vS r.bQ u pre
   ·simp only[az,reduceCtorEq,gq,gr,gu,gy,gA,gz,gB,gR,gS,gU,gW,gV,gX,hne,jH,hi1,Int.toNat_natCast]
   ·simp only[az,reduceCtorEq]
 ·intro s _;exact qR _ _ _
 ·intro pre u rest s s' hl hP hb;obtain⟨vs,f⟩:=s;obtain⟨CJ,CK,Az,AA⟩:=hP;dsimp only at CJ CK Az AA hb;split at hb
  ·cases hb
  split at hb
  ·cases hb
  split at hb
  ·cases hb
  rename_i hp;split at hb
  ·cases hb
  rename_i hw;split at hb
  ·cases hb
  injection hb with hb
  subst hb;simp only[not_or,Bool.not_eq_false,bK,eN,decide_eq_true_eq]at hw hp;have hsz:=z8 _ (Bl _ _ (by simpa using hp));have hlu:fL r.bQ u=u.address+(eE u.fB r.bQ).1.size-1:=rfl;refine⟨CJ.snoc ⟨hw.2.1.1,by omega,by omega⟩,CK.snoc u u.address.toNat _ (by omega) (by omega),?_,?_⟩
  ·dsimp only;split
   ·exact Az
   ·rename_i hm;rw[List.nodup_append];exact⟨Az,by simp,λx hx y hy e=>hm (by simp at hy;rw[←hy,←e];exact hx)⟩
  ·intro v hv k;dsimp only at hv ⊢
   have h1:v≠u.univ∧v∉vs:=by
    split at hv
    ·rename_i hm;exact⟨λe=>hv (e▸hm),hv⟩
    ·simp only[ew,List.mem_singleton,not_or]at hv;exact⟨hv.2,hv.1⟩
   unfold kJ;rw[aQ (λq=>h1.1 q.1)];exact AA v h1.2 k
 ·intro s _;simp only[az,reduceCtorEq,NV]
 ·intros;simp only[az,reduceCtorEq,NV]
 ·refine(Mg (mz:=wk r.bQ) ?_ ?_ (λn=>some (AV.aj n,σ)) l [] _).trans ?_
  ·intro pre;rfl
  ·intro pre x rest s;rw[wk];simp only[sP,qi,ql]
  ·rfl
def nj(eX:List cm)(u:eM):List bP:=(eE u.fB eX).1.params.map λx=>⟨u.aF,x.name⟩
def oc(r:cN):List bP:=r.fG.flatMap (nj r.bQ)
theorem Tj{p:cm}(h:kD p=0):p.params.length≤40:=by
 unfold kD at h
 repeat' split at h
 all_goals first|(simp at h;done)|omega
theorem LZ:∀(l pre:List cm),tj pre l=0→∀p∈l,kD p=0
 |[],pre,h,p,hp=>by simp at hp
 |q::rest,pre,h,p,hp=>by
  rw[tj]at h;by_cases e:kD q=0
  ·rw[aP e]at h;by_cases e2:dw q.name (pre.map (·.name))=true
   ·rw[aP e2]at h;simp at h
   ·rw[aQ e2]at h;simp only[eu]at hp;rcases hp with rfl|hp
    ·exact e
    ·exact LZ rest _ h p hp
  ·rw[aQ e]at h;exact absurd h e
theorem Ws{r:cN}(h:ga r=0):pq r.bQ=0:=by
 unfold ga at h;split at h
 ·assumption
 ·rename_i h2;exact absurd h h2
theorem UP{l:List cm}(h:pq l=0):∀p∈l,kD p=0:=by
 unfold pq at h;by_cases e:60<l.length
 ·rw[aP e]at h;simp at h
 ·rw[aQ e]at h;exact LZ l [] h
theorem Mc{r:cN}(h:ga r=0)(nm:ByteArray):(eE nm r.bQ).1.params.length≤40:=by
 rw[zz];cases hf:r.bQ.find? (λx:cm=>decide (x.name=nm))with
 |none=>exact lH _
 |some p=>exact Tj (UP (Ws h) p (BW hf))
theorem GM{r:cN}(h:ga r=0):∀(l:List eM),(l.flatMap (nj r.bQ)).length≤l.length*40
 |[]=>by simp
 |u::l=>by
  have h1:=Mc h u.fB;have h2:=GM h l;rw[List.flatMap_cons,List.length_append,List.length_cons,Nat.succ_mul];have h3:(nj r.bQ u).length=(eE u.fB r.bQ).1.params.length:=by simp [nj]
  omega
theorem Yu(l:List bP)(n:Int):A.nn (.t [(.s 2),.k]) (.aD [if l=[]then .au else sl 2 bV l,.aj n])=.aD [sl 2 bV l,.aj n]:=by show AV.aD [A.nn (.s 2) (if l=[]then .au else sl 2 bV l),.aj n]=_;rw[Yv]
theorem Me{r:cN}(h:ga r=0):r.fG.length≤400:=by
 unfold ga at h;split at h
 ·split at h
  ·cases h
  ·omega
 ·rename_i h2;exact absurd h h2
theorem WK(r:cN)(hok:lF r)(σ:Heap):Gi [.agg (bW r)] σ=some (.aD [sl 2 bV (if ga r=0 then oc r else[]),.aj (ga r)],σ):=by
 by_cases hf:ga r=0
 ·refine wrap_eq rfl (v:=.aD [if oc r=[]then .au else sl 2 bV (oc r),.aj 0]) ?_ (by rw[aP hf,hf];exact Yu _ _);show A5 (.agg (bW r)) σ=_;unfold A5;have hu:=Me hf;have Ao:=hok.1.2;simp only[az,reduceCtorEq,iH,iI,gL,gK,iJ,GN r hok,hf]
  refine(kC (S:=Unit) (R:=Unit) r.fG (λpre u _=>(Rd.go ():Rd Unit Unit))
   (λpre _=>[.lbx (bW r),qy σ.length 2 (pre.flatMap (nj r.bQ)),.aj (pre.length:Int)]) (λpre _=>σ++nD 2 bV (pre.flatMap (nj r.bQ)))
   (λ_=>(.exit 0,[.lbx (bW r),qy σ.length 2 (oc r),.aj (r.fG.length:Int)],σ++nD 2 bV (oc r))) (λpre _ _=>(.ret,[],σ))
   (λ_ _=>True) () (λ_=>some (AV.aD [if oc r=[]then .au else sl 2 bV (oc r),.aj 0],σ)) (λ_=>none) ?_ ?_ trivial (λ_ _ _ _ _ _ _ _=>trivial) ?_ ?_ (dH:=by simp [Wl])).trans (EU _ _ _ _)
  ·intro pre u rest s hl _;have hx:=kH hl;have hlt:=mL hl;have hi1:IntKind.i64.wrap ((pre.length:Int)+1)=(pre.length:Int)+1:=cW (by unfold bp;omega);have hlt':(pre.length:Int)<(r.fG.length:Int):=by omega
   have gj:=gJ 4 eF r.fG hx;have AB:=Md r.bQ hok.1.1 u.fB;have hps:=Mc hf u.fB;have wN:=GM hf pre;have hsn:(pre++[u]).flatMap (nj r.bQ)=pre.flatMap (nj r.bQ)++nj r.bQ u:=by simp
   have aaB:pre.length≤399:=by omega
   generalize hK:pre.flatMap (nj r.bQ)=K at *
   generalize hq:(eE u.fB r.bQ).1=p at *
   simp only[az,reduceCtorEq,gq,gr,gu,gy,gA,gz,gB,iH,iI,gL,gK,iJ,hlt',gj,AB,hq,gR,gS,gU,gW,gV,gX]
   refine(kC (S:=Unit) (R:=Unit) p.params (λpre u _=>(Rd.go ():Rd Unit Unit))
    (λrQ _=>[.lbx (bW r),qy σ.length 2 (K++rQ.map λx=>(⟨u.aF,x.name⟩:bP)),.lbx (eF u),.aj (rQ.length:Int)]) (λrQ _=>σ++nD 2 bV (K++rQ.map λx=>(⟨u.aF,x.name⟩:bP)))
    (λ_=>(.exit 2,[.lbx (bW r),qy σ.length 2 (K++nj r.bQ u),.lbx (eF u),.aj (p.params.length:Int)],σ++nD 2 bV (K++nj r.bQ u))) (λpre _ _=>(.ret,[],σ))
    (λ_ _=>True) () (λ_=>some (.normal,[.lbx (bW r),qy σ.length 2 (K++nj r.bQ u),.aj ((pre.length:Int)+1)],σ++nD 2 bV (K++nj r.bQ u))) (λ_=>none) ?_ ?_ trivial (λ_ _ _ _ _ _ _ _=>trivial) ?_ ?_ (hv:=by simp) (dH:=by simp)).trans ((EU _ _ _ _).trans ?_)
   ·intro rQ x rest' s hl' _;have gx:=kH hl';have glt:=mL hl';have QV:IntKind.i64.wrap ((rQ.length:Int)+1)=(rQ.length:Int)+1:=cW (by unfold bp;omega);have Zx:(rQ.length:Int)<(p.params.length:Int):=by omega
    have gia:=gJ 7 b8 p.params gx
    have hap:=UU (most:=140737488355328 / 24) (sz:=2) bV (K++rQ.map λx=>(⟨u.aF,x.name⟩:bP)) ⟨u.aF,x.name⟩ σ (by
     rw[List.length_append,List.length_map]
     omega)
    have ZL:(K++(rQ++[x]).map λx=>(⟨u.aF,x.name⟩:bP))=(K++rQ.map λx=>(⟨u.aF,x.name⟩:bP))++[⟨u.aF,x.name⟩]:=by simp
    clear hl gx glt hx hlt wN hl';rw[ZL];have hch:AV.sl 2 (dK 2 1 [AV.aj u.aF,AV.str x.name])=.sl 2 [bV ⟨u.aF,x.name⟩]:=rfl;simp only[az,reduceCtorEq,jM,jN,jO,jP,jQ,jR,jS,jT,ju,jv,gq,gr,gu,gy,gA,gz,gB,Zx,gia,QV];show(A.append 2 _ _ (AV.sl 2 [bV ⟨u.aF,x.name⟩]) _).bind _=_;rw[hap];simp only[az,reduceCtorEq,QV]
   ·intro s _;refine(qR _ _ _).trans ?_;subst hq;rfl
   ·intro s _;simp only[az,reduceCtorEq,hi1]
   ·intros;rename_i hb;cases hb
   ·rw[hsn]
  ·intro s _;exact qR _ _ _
  ·intro s _;simp only[az,reduceCtorEq,Wd NY]
  ·intros;rename_i hb;cases hb
 ·refine wrap_eq rfl (v:=.aD [.au,.aj (ga r)]) ?_ (by rw[aQ hf];rfl);show A5 (.agg (bW r)) σ=_;unfold A5;simp only[az,reduceCtorEq,iH,iI,gL,gK,iJ,GN r hok,hf]
theorem LI(n:Int)(σ:Heap):w8 [.aj n] σ=some (.bool (bK n 0 65535),σ):=by refine wrap_eq rfl ?_ rfl;show Gl (.aj n) σ=_;unfold Gl;simp only[az,reduceCtorEq,qg]
def oU(s:ByteArray):Bool:=if s=⟨#[]⟩then true else sX s
theorem Nb(s:ByteArray)(hs:eB s)(σ:Heap):Bc [.str s] σ=some (.bool (oU s),σ):=by
 refine wrap_eq rfl ?_ rfl;show GG (.str s) σ=_;unfold GG oU;by_cases h:s=⟨#[]⟩
 ·simp only[az,reduceCtorEq,h]
 ·simp only[az,reduceCtorEq,h,VY s hs]
def O7:dW:=⟨⟨#[]⟩,0,0,0,0,false,[]⟩
def sU(p:cm)(nm:ByteArray):dW×Bool:=(p.params.find? λx=>decide (x.name=nm)).elim (O7,false) λx=>(x,true)
def qT(r:cN)(k:bP):dW×Bool:=(r.fG.find? λu=>decide (u.aF=k.unit)).elim (O7,false) λu=>sU (eE u.fB r.bQ).1 k.param
theorem WC(r:cN)(hl:r.fG.length≤bX)(n:Int)(σ:Heap):Hr [.agg (bW r),.aj n] σ=some (.aj (nC (λu:eM=>decide (u.aF=n)) r.fG),σ):=by
 refine wrap_eq rfl ?_ rfl;show Hw (.agg (bW r)) (.aj n) σ=_;unfold Hw;simp only[az,reduceCtorEq,iH,iI,gL,gK,iJ];refine(Wk r.fG (λu=>decide (u.aF=n)) (λi=>[.aj 0,.aj (i:Int)]) σ (.exit 0,[.aj 0,.aj (r.fG.length:Int)],σ) (λi=>(.ret,[.aj (i:Int),.aj (i:Int)],σ)) (some (AV.aj (-1),σ)) (λi=>some (AV.aj i,σ)) ?_ ?_ ?_ ?_).trans ?_
 ·intro i x hx;obtain⟨g1,g2,g3⟩:=sJ 4 eF hx;have g3:=g3 hl;simp only[az,reduceCtorEq,gq,gr,gu,gy,gA,gz,gB,g1,g2,g3]
  repeat' ((first|rw[iS]|rw[iR]|rw[iP]|rw[iL]|rw[iO]|rw[iN]);split<;>try simp only[az,reduceCtorEq, *])
 ·exact qR _ _ _
 ·simp only[az,reduceCtorEq]
 ·intro i;simp only[az,reduceCtorEq]
 ·split
  ·rename_i h;rw[h]
  ·rfl
theorem VK(p:cm)(hl:p.params.length≤bX)(nm:ByteArray)(σ:Heap):G9 [.agg (cE p),.str nm] σ=some (.aD [.agg (b8 (sU p nm).1),.bool (sU p nm).2],σ):=by
 have key:∃w,Hg (.agg (cE p)) (.str nm) σ=some (w,σ)∧A.nn (.t [(.a pG),.k]) w=.aD [.agg (b8 (sU p nm).1),.bool (sU p nm).2]:=by
  refine⟨(p.params.find? λx=>decide (x.name=nm)).elim (.aD [.agg [.str ⟨#[]⟩,.aj 0,.aj 0,.aj 0,.aj 0,.bool false,.au],.bool false]) (λx=>.aD [.agg (b8 x),.bool true]),?_,?_⟩
  ·unfold Hg;simp only[az,reduceCtorEq,gR,gS,gU,gW,gV,gX]
   refine(MK p.params (λx=>decide (x.name=nm)) (λi=>[.lbx [.str ⟨#[]⟩,.aj 0,.aj 0,.aj 0,.aj 0,.bool false,.au],.bool false,.aj (i:Int)]) σ (.exit 0,[.lbx [.str ⟨#[]⟩,.aj 0,.aj 0,.aj 0,.aj 0,.bool false,.au],.bool false,.aj (p.params.length:Int)],σ) (λi x=>(.ret,[.lbx (b8 x),.bool true,.aj (i:Int)],σ))
    (some (AV.aD [.agg [.str ⟨#[]⟩,.aj 0,.aj 0,.aj 0,.aj 0,.bool false,.au],.bool false],σ)) (λx=>some (AV.aD [.agg (b8 x),.bool true],σ)) ?_ ?_ ?_ ?_).trans ?_
   ·intro i x hx;obtain⟨g1,g2,g3⟩:=sJ 7 b8 hx;have g3:=g3 hl;simp only[az,reduceCtorEq,jM,jN,jO,jP,jQ,jR,jS,jT,ju,jv,g1,g2,g3]
    repeat' ((first|rw[iS]|rw[iR]|rw[iP]|rw[iL]|rw[iO]|rw[iN]);split<;>try simp only[az,reduceCtorEq,jM,jN,jO,jP,jQ,jR,jS,jT,ju,jv, *])
    all_goals first|with_reducible rfl|(simp [*];done)|(simp_all;done)|(simp_all;omega)|rfl
   ·exact qR _ _ _
   ·simp only[az,reduceCtorEq];rfl
   ·intro i x;simp only[az,reduceCtorEq,jM,jN,jO,jP,jQ,jR,jS,jT,ju,jv]
   ·cases p.params.find? λx=>decide (x.name=nm)<;>rfl
  ·unfold sU;cases p.params.find? λx=>decide (x.name=nm)<;>rfl
 obtain⟨w,h1,h2⟩:=key;exact wrap_eq rfl h1 h2
theorem VN{l:List cm}(h:∀x∈l,xj x)(nm:ByteArray):(eE nm l).1.params.length≤bX:=by
 rw[zz];cases hf:l.find? (λx:cm=>decide (x.name=nm))with
 |none=>exact lH _
 |some p=>exact(h p (BW hf)).2.2.1
theorem Ly(r:cN)(hok:lF r)(k:bP)(σ:Heap):zw [.agg (bW r),.agg (bV k)] σ=some (.aD [.agg (b8 (qT r k).1),.bool (qT r k).2],σ):=by
 have key:∃w,GD (.agg (bW r)) (.agg (bV k)) σ=some (w,σ)∧A.nn (.t [(.a pG),.k]) w=.aD [.agg (b8 (qT r k).1),.bool (qT r k).2]:=by
  unfold GD qT;simp only[az,reduceCtorEq,iH,iI,gL,gK,iJ,MP,MQ,Oi,NO,Ik,WC r hok.2.1];rcases Bk (λu:eM=>decide (u.aF=k.unit)) r.fG with⟨h1,_,h3⟩|⟨j,x,h1,h2,h3,h4,_⟩
  ·refine⟨.aD [.agg [.str ⟨#[]⟩,.aj 0,.aj 0,.aj 0,.aj 0,.bool false,.au],.bool false],?_,?_⟩
   ·rw[h1];simp only[az,reduceCtorEq,show((-1:Int)<0)from by decide];rfl
   ·rw[h3];rfl
  ·refine⟨.aD [.agg (b8 (sU (eE x.fB r.bQ).1 k.param).1),.bool (sU (eE x.fB r.bQ).1 k.param).2],?_,?_⟩
   ·rw[h3];simp only[az,reduceCtorEq,iH,iI,gL,gK,iJ,MP,MQ,Oi,NO,Ik,gq,gr,gu,gy,gA,gz,gB,gR,gS,gU,gW,gV,gX,jM,jN,jO,jP,jQ,jR,jS,jT,ju,jv,show ¬((j:Int)<0)from by omega,gJ 4 eF r.fG h1,GO _ hok.1.1,VK _ (VN hok.1.2 x.fB)]
   ·rw[h4];rfl
 obtain⟨w,h1,h2⟩:=key;exact wrap_eq rfl h1 h2
section
set_option maxRecDepth 100000
noncomputable def vH (a0:cN):Option (List (bP×Bool)):=
 (tq (lF a0) (((if ga a0=0 then oc a0 else[]:List bP),ga a0))).bind λr1=>
 oB r1.1 (λ(pU:Nat)iQ(s4:(List (bP×Bool)))=>(show Option (Lr (List (bP×Bool)) (List (bP×Bool)) Unit)from
   some (.go (nF iQ true s4)))) (λs4=>some s4) ([]:List (bP×Bool)) (λb5=>
  some b5) (λb5=>
  none)
theorem LG{a0:cN}{σ:Heap}{r:(List (bP×Bool))}(h:vH a0=some r):Bg [(AV.agg (bW a0))] σ=some ((yG (λx=>(AV.agg (bV x))) (λx=>(AV.bool x)) r),σ):=by
 refine Wr (f:=GX) (y0:=(AV.agg (bW a0))) (enc:=λr:(List (bP×Bool))=>(yG (λx=>(AV.agg (bV x))) (λx=>(AV.bool x)) r)) (T:=vH a0) rfl rfl ?_ r h;unfold GX vH;refine aI _ rfl<|aI _ rfl ?_;refine uL (λr1:((List bP)×Int)=>((AV.aD [(sl 2 bV r1.1),(AV.aj r1.2)]),σ)) (λr1 mB=>(xJ (e:=λr:((List bP)×Int)=>((AV.aD [(sl 2 bV r.1),(AV.aj r.2)]),σ)) (λhs=>WK a0 hs σ)) mB) (λr1 mB=>?_);refine aI (sl 2 bV r1.1) rfl<|aI _ rfl ?_;have hp2:Hp σ σ []:=Yh σ;have hp3:Hp σ (σ++[bu.map []]) [((AV.om σ.length),(Ct.m (List.map (λp=>((λx=>(AV.agg (bV x))) p.1,(λx=>(AV.bool x)) p.2)) ([]:List (bP×Bool)))))]:=YW hp2;refine aI _ (iy _ _ _) ?_;refine xA (B:=(List (bP×Bool))) (R:=Unit) (λ(pU:Nat)(s4:(List (bP×Bool)))v w6=>v=[(AV.aj (pU:Int))]∧Hp σ w6 [((AV.om σ.length),(Ct.m (List.map (λp=>((λx=>(AV.agg (bV x))) p.1,(λx=>(AV.bool x)) p.2)) s4)))]) (λ(b5:(List (bP×Bool)))(q:LS)=>∃u16 w7,q=((AX.exit 0),([u16]:aq),w7)∧Hp σ w7 [((AV.om σ.length),(Ct.m (List.map (λp=>((λx=>(AV.agg (bV x))) p.1,(λx=>(AV.bool x)) p.2)) b5)))]) (λ(b5:Unit)(q:LS)=>False) ?_ ?_ ⟨rfl,hp3⟩ ?_ ?_
 ·intro IP pU iQ s4 v w6 xP hI;obtain⟨rfl,va⟩:=hI;refine aI _ (td xP)<|xH<|aI _ (sR xP)<|aI _ rfl<|aI _ rfl<|aI _ (Ik _ _ rfl)<|aI _ rfl ?_;obtain⟨RA,e14,P3⟩:=Xi (ek:=(.s [0,2])) (eK:=(λx=>(AV.agg (bV x)))) (eV:=(λx=>(AV.bool x))) va 0 rfl BC iQ true rfl;change Hp σ RA [((AV.om σ.length),(Ct.m (List.map (λp=>((λx=>(AV.agg (bV x))) p.1,(λx=>(AV.bool x)) p.2)) (nF iQ true s4))))]at P3;refine aI RA e14<|aI _ (sS xP IP) ?_;exact fF (xC ⟨rfl,P3⟩)
 ·intro hl s4 v w6 hI;obtain⟨rfl,va⟩:=hI;refine aI _ (sQ _)<|xG ?_;exact fF ⟨by simp,⟨_,_,rfl,va⟩⟩
 ·intro hl b5 q hq;obtain⟨u16,w7,rfl,Rc⟩:=hq;refine oY rfl ?_;exact jx _ (Yg Rc (Yd Rc (k:=0) rfl (by intro p hp;obtain⟨x,_,rfl⟩:=l9.1 hp;exact⟨(Yc (NY _)),(Xa _)⟩))) ⟨rfl,rfl⟩
 ·intro hl b5 q hq;exact False.elim hq
noncomputable def zu (a0:bP) (a1:bP):Option Bool:=
 if ¬(a0.unit=a1.unit)then
  some (decide (a0.unit<a1.unit))
 else
 some (decide ((Lib.compareBytes a0.param.data.toList a1.param.data.toList)<0))
theorem TB{a0:bP}{a1:bP}{σ:Heap}{r:Bool}(h:zu a0 a1=some r):Gs [(AV.agg (bV a0)),(AV.agg (bV a1))] σ=some ((AV.bool r),σ):=by
 refine uf (f:=Gv) (y0:=(AV.agg (bV a0))) (y1:=(AV.agg (bV a1))) (enc:=λr:Bool=>(AV.bool r)) (T:=zu a0 a1) rfl rfl ?_ r h;unfold Gv zu;refine aI _ rfl<|aI _ rfl<|aI _ rfl<|aI _ rfl<|aI _ (rF _ _ _) ?_;refine rB (p:=¬(a0.unit=a1.unit)) (λc1=>?_) (λc1=>?_)
 ·refine aI _ rfl<|aI _ rfl<|aI _ rfl ?_;exact jx _ (ep _ _) ⟨rfl,rfl⟩
 refine aI _ rfl<|aI _ rfl<|aI _ rfl<|aI _ rfl ?_;exact jx _ (ep _ _) ⟨rfl,rfl⟩
noncomputable def AW (a0:cN) (a1:(List bn)):Option Int:=
 (tq (lF a0) (ga a0)).bind λr1=>
 (tq (([r1,(if(decide (200<(a1.length:Int)))=true then 2 else 0)]:(List Int)).length≤bX) ((([r1,(if(decide (200<(a1.length:Int)))=true then 2 else 0)]:(List Int)).find? λn=>decide (¬n=0)).getD 0)).bind λr2=>
 if ¬(r2=0)then
  some r2
 else
 (vH a0).bind λr3=>
 oB a1 (λ(pU:Nat)iQ(s4:Unit)=>(show Option (Lr Unit Unit Int)from
   if(!(bK iQ.aF 1 999))=true then
    some (.ret 1)
   else
   (if decide (0<(pU:Int))=true then tQ a1 (IntKind.i64.wrap ((pU:Int) -1))else some default).bind λbD=>
   if((decide (0<(pU:Int)))&&(decide (iQ.aF≤bD.aF)))=true then
    some (.ret 7)
   else
   (tq (eB iQ.title) (oU iQ.title)).bind λgG=>
   if(!gG)=true then
    some (.ret 3)
   else
   if 2000<(iQ.cL.length:Int)then
    some (.ret 2)
   else
   oB iQ.cL (λ(i21:Nat)u0(FH:Unit)=>(show Option (Lr Unit Unit Int)from
     if(!((jX u0.key r3).getD false))=true then
      some (.ret 8)
     else
     if(!(bK u0.level 0 65535))=true then
      some (.ret 1)
     else
     (if decide (0<(i21:Int))=true then tQ iQ.cL (IntKind.i64.wrap ((i21:Int) -1))else some default).bind λbO=>
     (if decide (0<(i21:Int))=true then zu bO.key u0.key else some default).bind λjJ=>
     if((decide (0<(i21:Int)))&&(!jJ))=true then
      some (.ret 7)
     else
     some (.go ()))) (λFH=>some ()) () (λyp=>
    some (.go ())) (λyp=>
    some (.ret yp)))) (λs4=>some ()) () (λb5=>
  some 0) (λb5=>
  some b5)
theorem KO{a0:cN}{a1:(List bn)}{σ:Heap}{r:Int}(h:AW a0 a1=some r):zm [(AV.agg (bW a0)),(sl 3 aE a1)] σ=some ((AV.aj r),σ):=by
 refine uf (f:=F4) (y0:=(AV.agg (bW a0))) (y1:=(sl 3 aE a1)) (enc:=λr:Int=>(AV.aj r)) (T:=AW a0 a1) rfl rfl ?_ r h;unfold F4 AW;refine aI _ rfl<|aI _ rfl ?_;refine uL (λr1:Int=>((AV.aj r1),σ)) (λr1 mB=>(xJ (e:=λr:Int=>((AV.aj r),σ)) (λhs=>GN a0 hs σ)) mB) (λr1 mB=>?_);refine aI _ (iy _ _ _)<|aI _ rfl<|aI _ (Ey (decide (200<(a1.length:Int))) 2 σ)<|aI (sl 1 nu ([r1,(if(decide (200<(a1.length:Int)))=true then 2 else 0)]:(List Int))) rfl ?_;refine uL (λr2:Int=>((AV.aj r2),σ)) (λr2 yQ=>(xJ (e:=λr:Int=>((AV.aj r),σ)) (λhs=>M7 ([r1,(if(decide (200<(a1.length:Int)))=true then 2 else 0)]:(List Int)) hs σ)) yQ) (λr2 yQ=>?_);refine aI _ (rF _ _ _) ?_;refine rB (p:=¬(r2=0)) (λlP=>?_) (λlP=>?_)
 ·exact jx _ (ep _ _) ⟨rfl,rfl⟩
 refine aI _ rfl ?_;refine uL (λr3:(List (bP×Bool))=>((yG (λx=>(AV.agg (bV x))) (λx=>(AV.bool x)) r3),σ)) (λr3 Rg=>LG Rg) (λr3 Rg=>?_);refine aI _ (iy _ _ _) ?_;refine xA (B:=Unit) (R:=Int) (λ(pU:Nat)(s4:Unit)v w6=>∃u4,v=[u4,(AV.aj (pU:Int))]∧σ=w6) (λ(b5:Unit)(q:LS)=>∃u4 Df,q=((AX.exit 0),([u4,Df]:aq),σ)) (λ(b5:Int)(q:LS)=>∃Df,q=(AX.ret,([(AV.aj b5),Df]:aq),σ)) ?_ ?_ ⟨_,rfl,rfl⟩ ?_ ?_
 ·intro IP pU iQ s4 v w6 xP hI;obtain⟨u4,rfl,rfl⟩:=hI;refine aI _ (td xP)<|xH<|aI _ (sR xP)<|aI _ rfl<|aI _ rfl<|aI _ (D4 _ _ rfl)<|aI _ rfl<|aI _ (qg iQ.aF 1 999 σ)<|aI _ rfl ?_;refine qo (c:=(!(bK iQ.aF 1 999))) (λnK=>?_) (λnK=>?_)
  ·exact fF (lz (by simp) ⟨_,rfl⟩)
  refine aI _ rfl<|eT (AV.aj iQ.aF) (λhg=>rfl)<|eT (sl 3 aE a1) (λhg=>rfl)<|eT (AV.aj (pU:Int)) (λhg=>rfl)<|eT (AV.aj (IntKind.i64.wrap ((pU:Int) -1))) (λhg=>by(try rw[hg]);exact rfl) ?_;refine xB (ω:=bn) (λbD=>(AV.rp (aE bD))) (λhg bD Qb=>by(try rw[hg]);exact BR Qb) (λbD Qb=>?_);refine eT (AV.rp (aE bD)) (λhg=>by(try rw[hg]);exact rfl)<|eT (AV.aj bD.aF) (λhg=>by(try rw[hg]);exact rfl)<|eT (AV.bool (decide (iQ.aF≤bD.aF))) (λhg=>by(try rw[hg]);exact rfl)<|aI _ (vU _ _) ?_;refine qo (c:=((decide (0<(pU:Int)))&&(decide (iQ.aF≤bD.aF)))) (λpL=>?_) (λpL=>?_)
  ·exact fF (lz (by simp) ⟨_,rfl⟩)
  refine aI _ rfl ?_;refine uL (λgG:Bool=>((AV.bool gG),σ)) (λgG P5=>(xJ (e:=λr:Bool=>((AV.bool r),σ)) (λhs=>Nb iQ.title hs σ)) P5) (λgG P5=>?_);refine aI _ rfl ?_;refine qo (c:=(!gG)) (λjF=>?_) (λjF=>?_)
  ·exact fF (lz (by simp) ⟨_,rfl⟩)
  refine aI (sl 3 aC iQ.cL) rfl<|aI _ (iy _ _ _)<|aI _ rfl ?_;refine rB (p:=2000<(iQ.cL.length:Int)) (λtH=>?_) (λtH=>?_)
  ·exact fF (lz (by simp) ⟨_,rfl⟩)
  refine aI (sl 3 aC iQ.cL) rfl<|aI _ (iy _ _ _) ?_;refine xA (B:=Unit) (R:=Int) (λ(i21:Nat)(FH:Unit)v Ky=>∃u4,v=[u4,(AV.lbx (aE iQ)),(AV.aj (i21:Int))]∧σ=Ky) (λ(yp:Unit)(q:LS)=>∃u4 u8 Dg,q=((AX.exit 3),([u4,u8,Dg]:aq),σ)) (λ(yp:Int)(q:LS)=>∃u8 Dg,q=(AX.ret,([(AV.aj yp),u8,Dg]:aq),σ)) ?_ ?_ ⟨_,rfl,rfl⟩ ?_ ?_
  ·intro YS i21 u0 FH v Ky Jf hI;obtain⟨u4,rfl,rfl⟩:=hI;refine aI _ (td Jf)<|xH<|aI _ (sR Jf)<|aI _ rfl<|aI _ rfl<|aI _ (LV _ _ rfl)<|aI _ rfl<|aI _ (No (ek:=(.s [0,2])) (eK:=(λx=>(AV.agg (bV x)))) (eV:=(λx=>(AV.bool x))) BC u0.key false rfl)<|aI _ rfl ?_;refine qo (c:=(!((jX u0.key r3).getD false))) (λpK=>?_) (λpK=>?_)
   ·exact fF (lz (by simp) ⟨_,_,rfl⟩)
   refine aI _ rfl<|aI _ (LI u0.level σ)<|aI _ rfl ?_;refine qo (c:=(!(bK u0.level 0 65535))) (λlO=>?_) (λlO=>?_)
   ·exact fF (lz (by simp) ⟨_,_,rfl⟩)
   refine aI _ rfl<|aI _ rfl<|eT (sl 3 aC iQ.cL) (λhg=>rfl)<|eT (AV.aj (i21:Int)) (λhg=>rfl)<|eT (AV.aj (IntKind.i64.wrap ((i21:Int) -1))) (λhg=>by(try rw[hg]);exact rfl) ?_;refine xB (ω:=aN) (λbO=>(AV.rp (aC bO))) (λhg bO Qd=>by(try rw[hg]);exact BR Qd) (λbO Qd=>?_);refine eT (AV.rp (aC bO)) (λhg=>by(try rw[hg]);exact rfl)<|eT (AV.agg (bV bO.key)) (λhg=>by(try rw[hg]);exact rfl)<|eT (AV.agg (bV u0.key)) (λhg=>rfl) ?_;refine xB (ω:=Bool) (λjJ=>(AV.bool jJ)) (λhg jJ P7=>by(try rw[hg]);exact(qS (TB P7))) (λjJ P7=>?_);refine eT (AV.bool (!jJ)) (λhg=>by(try rw[hg]);exact rfl)<|aI _ (vU _ _) ?_;refine qo (c:=((decide (0<(i21:Int)))&&(!jJ))) (λeI=>?_) (λeI=>?_)
   ·exact fF (lz (by simp) ⟨_,_,rfl⟩)
   refine aI _ (sS Jf YS) ?_;exact fF (xC ⟨_,rfl,rfl⟩)
  ·intro hl FH v Ky hI;obtain⟨u4,rfl,rfl⟩:=hI;refine aI _ (sQ _)<|xG ?_;exact fF ⟨by simp,⟨_,_,_,rfl⟩⟩
  ·intro hl yp q hq;obtain⟨u4,u8,Dg,rfl⟩:=hq;refine oY rfl<|aI _ (sS xP IP) ?_;exact fF (xC ⟨_,rfl,rfl⟩)
  ·intro hl yp q hq;obtain⟨u8,Dg,rfl⟩:=hq;refine Af rfl<|oY rfl ?_;exact fF (lz (by simp) ⟨_,rfl⟩)
 ·intro hl s4 v w6 hI;obtain⟨u4,rfl,rfl⟩:=hI;refine aI _ (sQ _)<|xG ?_;exact fF ⟨by simp,⟨_,_,rfl⟩⟩
 ·intro hl b5 q hq;obtain⟨u4,Df,rfl⟩:=hq;refine oY rfl ?_;exact jx _ (ep _ _) ⟨rfl,rfl⟩
 ·intro hl b5 q hq;obtain⟨Df,rfl⟩:=hq;refine Af rfl<|oY rfl ?_;exact jx _ (ep _ _) ⟨rfl,rfl⟩
noncomputable def A9 (a0:(List bn)) (a1:Int):Option (bn×Bool):=
 oB a0 (λ(i8:Nat)e7(s1:Unit)=>(show Option (Lr Unit Unit (bn×Bool))from
   if e7.aF=a1 then
    some (.ret (e7,true))
   else
   some (.go ()))) (λs1=>some ()) () (λb2=>
  some ((⟨0,(⟨#[]⟩:ByteArray),[]⟩:bn),false)) (λb2=>
  some (b2.1,b2.2))
theorem TA{a0:(List bn)}{a1:Int}{σ:Heap}{r:(bn×Bool)}(h:A9 a0 a1=some r):Gq [(sl 3 aE a0),(AV.aj a1)] σ=some ((AV.aD [(AV.agg (aE r.1)),(AV.bool r.2)]),σ):=by
 refine uf (f:=Gu) (y0:=(sl 3 aE a0)) (y1:=(AV.aj a1)) (enc:=λr:(bn×Bool)=>(AV.aD [(AV.agg (aE r.1)),(AV.bool r.2)])) (T:=A9 a0 a1) rfl rfl ?_ r h;unfold Gu A9;refine aI _ (iy _ _ _) ?_;refine xA (B:=Unit) (R:=(bn×Bool)) (λ(i8:Nat)(s1:Unit)v w3=>v=[(AV.lbx [(AV.aj 0),(AV.str (⟨#[]⟩:ByteArray)),AV.au]),aU,(AV.aj (i8:Int))]∧σ=w3) (λ(b2:Unit)(q:LS)=>∃u5 Dc,q=((AX.exit 0),([(AV.lbx [(AV.aj 0),(AV.str (⟨#[]⟩:ByteArray)),AV.au]),u5,Dc]:aq),σ)) (λ(b2:(bn×Bool))(q:LS)=>∃Dc,q=(AX.ret,([(AV.lbx (aE b2.1)),(AV.bool b2.2),Dc]:aq),σ)) ?_ ?_ ⟨rfl,rfl⟩ ?_ ?_
 ·intro Ji i8 e7 s1 v w3 yL hI;obtain⟨rfl,rfl⟩:=hI;refine aI _ (td yL)<|xH<|aI _ (sR yL)<|aI _ rfl<|aI _ rfl<|aI _ (D4 _ _ rfl)<|aI _ rfl<|aI _ (rE _ _ _) ?_;refine rB (p:=e7.aF=a1) (λc9=>?_) (λc9=>?_)
  ·refine aI _ rfl<|aI _ rfl<|aI _ rfl<|aI _ (D4 _ _ rfl) ?_;exact fF (lz (by simp) ⟨_,rfl⟩)
  refine aI _ (sS yL Ji) ?_;exact fF (xC ⟨rfl,rfl⟩)
 ·intro hl s1 v w3 hI;obtain⟨rfl,rfl⟩:=hI;refine aI _ (sQ _)<|xG ?_;exact fF ⟨by simp,⟨_,_,rfl⟩⟩
 ·intro hl b2 q hq;obtain⟨u5,Dc,rfl⟩:=hq;refine oY rfl<|aI _ rfl<|aI [(AV.aj 0),(AV.str (⟨#[]⟩:ByteArray)),AV.au] rfl<|aI [(AV.aj 0),(AV.str (⟨#[]⟩:ByteArray)),AV.au] rfl<|aI (AV.agg [(AV.aj 0),(AV.str (⟨#[]⟩:ByteArray)),AV.au]) rfl ?_;exact jx _ (ep _ _) ⟨(Qk (fu (Qi (fu rfl (fu rfl (fu (by first|rfl|exact BG _ _) IW)))) (fu rfl IW))),rfl⟩
 ·intro hl b2 q hq;obtain⟨Dc,rfl⟩:=hq;refine Af rfl<|oY rfl<|aI _ rfl ?_;exact jx _ (ep _ _) ⟨(Qk (fu (Qi rfl) (fu rfl IW))),rfl⟩
noncomputable def DT (a0:bP) (a1:bP):Option Bool:=some ((decide (a0.unit<a1.unit))||((decide (a0.unit=a1.unit))&&(Op.bytesLess a0.param.toList a1.param.toList)))
theorem LF{a0:bP}{a1:bP}{σ:Heap}{r:Bool}(h:DT a0 a1=some r):vG [(AV.agg (bV a0)),(AV.agg (bV a1))] σ=some ((AV.bool r),σ):=by refine uf (f:=GV) (y0:=(AV.agg (bV a0))) (y1:=(AV.agg (bV a1))) (enc:=λr:Bool=>(AV.bool r)) (T:=DT a0 a1) rfl rfl ?_ r h;unfold GV DT;refine aI _ rfl<|aI _ rfl<|aI _ rfl<|aI _ rfl<|aI _ rfl<|BS (AV.aj a0.unit) (λhg=>rfl)<|BS (AV.aj a1.unit) (λhg=>rfl)<|BS (AV.bool (decide (a0.unit=a1.unit))) (λhg=>by(try rw[hg]);exact(rE _ _ _))<|BS (AV.bool (decide (a0.unit=a1.unit))) (λhg=>by(try rw[hg]);exact rfl)<|ID (AV.str a0.param) (λhg=>rfl)<|ID (AV.str a1.param) (λhg=>rfl)<|ID (AV.bool (Op.bytesLess a0.param.toList a1.param.toList)) (λhg=>by(try rw[hg]);exact rfl)<|BS (AV.bool ((decide (a0.unit=a1.unit))&&(Op.bytesLess a0.param.toList a1.param.toList))) (λhg=>by(try rw[hg]);exact(vU _ _))<|aI _ (Y5 _ _) ?_;exact jx _ (ep _ _) ⟨rfl,rfl⟩
noncomputable def A0 (a0:cN) (a1:(List bn)):Option Int:=
 (tq (lF a0) (ga a0)).bind λr1=>
 if ¬(r1=0)then
  some r1
 else
 if 200<(a1.length:Int)then
  some 2
 else
 oB a1 (λ(i9:Nat)e8(s2:Unit)=>(show Option (Lr Unit Unit Int)from
   if(!(bK e8.aF 1 999))=true then
    some (.ret 1)
   else
   (if decide (0<(i9:Int))=true then tQ a1 (IntKind.i64.wrap ((i9:Int) -1))else some default).bind λaS=>
   if((decide (0<(i9:Int)))&&(decide (e8.aF≤aS.aF)))=true then
    some (.ret 7)
   else
   (if decide (¬(e8.title=(⟨#[]⟩:ByteArray)))=true then tq (eB e8.title) (sX e8.title)else some default).bind λfS=>
   if((decide (¬(e8.title=(⟨#[]⟩:ByteArray))))&&(!fS))=true then
    some (.ret 3)
   else
   if 2000<(e8.cL.length:Int)then
    some (.ret 2)
   else
   oB e8.cL (λ(vg:Nat)jl(e9:Unit)=>(show Option (Lr Unit Unit Int)from
     (tq (lF a0) (qT a0 jl.key)).bind λiB=>
     if(!iB.2)=true then
      some (.ret 8)
     else
     if(!(bK jl.level 0 65535))=true then
      some (.ret 1)
     else
     (if decide (0<(vg:Int))=true then tQ e8.cL (IntKind.i64.wrap ((vg:Int) -1))else some default).bind λaT=>
     if((decide (0<(vg:Int)))&&(!(((decide (aT.key.unit<jl.key.unit))||((decide (aT.key.unit=jl.key.unit))&&(Op.bytesLess aT.key.param.toList jl.key.param.toList))))))=true then
      some (.ret 7)
     else
     some (.go ()))) (λe9=>some ()) () (λym=>
    some (.go ())) (λym=>
    some (.ret ym)))) (λs2=>some ()) () (λb3=>
  some 0) (λb3=>
  some b3)
theorem KR{a0:cN}{a1:(List bn)}{σ:Heap}{r:Int}(h:A0 a0 a1=some r):AY [(AV.agg (bW a0)),(sl 3 aE a1)] σ=some ((AV.aj r),σ):=by
 refine uf (f:=Gc) (y0:=(AV.agg (bW a0))) (y1:=(sl 3 aE a1)) (enc:=λr:Int=>(AV.aj r)) (T:=A0 a0 a1) rfl rfl ?_ r h;unfold Gc A0;refine aI _ rfl<|aI _ rfl ?_;refine uL (λr1:Int=>((AV.aj r1),σ)) (λr1 mB=>(xJ (e:=λr:Int=>((AV.aj r),σ)) (λhs=>TR a0 hs σ)) mB) (λr1 mB=>?_);refine aI _ (rF _ _ _) ?_;refine rB (p:=¬(r1=0)) (λnK=>?_) (λnK=>?_)
 ·exact jx _ (ep _ _) ⟨rfl,rfl⟩
 refine aI _ (iy _ _ _)<|aI _ rfl ?_;refine rB (p:=200<(a1.length:Int)) (λpL=>?_) (λpL=>?_)
 ·exact jx _ (ep _ _) ⟨rfl,rfl⟩
 refine aI _ (iy _ _ _) ?_;refine xA (B:=Unit) (R:=Int) (λ(i9:Nat)(s2:Unit)v w4=>∃u4,v=[(AV.lbx (bW a0)),u4,(AV.aj (i9:Int))]∧σ=w4) (λ(b3:Unit)(q:LS)=>∃u2 u4 De,q=((AX.exit 0),([u2,u4,De]:aq),σ)) (λ(b3:Int)(q:LS)=>∃u2 De,q=(AX.ret,([u2,(AV.aj b3),De]:aq),σ)) ?_ ?_ ⟨_,rfl,rfl⟩ ?_ ?_
 ·intro ZF i9 e8 s2 v w4 JV hI;obtain⟨u4,rfl,rfl⟩:=hI;refine aI _ (td JV)<|xH<|aI _ (sR JV)<|aI _ rfl<|aI _ rfl<|aI _ (D4 _ _ rfl)<|aI _ rfl<|aI _ (oS e8.aF 1 999 σ)<|aI _ rfl ?_;refine qo (c:=(!(bK e8.aF 1 999))) (λjF=>?_) (λjF=>?_)
  ·exact fF (lz (by simp) ⟨_,_,rfl⟩)
  refine aI _ rfl<|eT (AV.aj e8.aF) (λhg=>rfl)<|eT (sl 3 aE a1) (λhg=>rfl)<|eT (AV.aj (i9:Int)) (λhg=>rfl)<|eT (AV.aj (IntKind.i64.wrap ((i9:Int) -1))) (λhg=>by(try rw[hg]);exact rfl) ?_;refine xB (ω:=bn) (λaS=>(AV.rp (aE aS))) (λhg aS Qa=>by(try rw[hg]);exact BR Qa) (λaS Qa=>?_);refine eT (AV.rp (aE aS)) (λhg=>by(try rw[hg]);exact rfl)<|eT (AV.aj aS.aF) (λhg=>by(try rw[hg]);exact rfl)<|eT (AV.bool (decide (e8.aF≤aS.aF))) (λhg=>by(try rw[hg]);exact rfl)<|aI _ (vU _ _) ?_;refine qo (c:=((decide (0<(i9:Int)))&&(decide (e8.aF≤aS.aF)))) (λtH=>?_) (λtH=>?_)
  ·exact fF (lz (by simp) ⟨_,_,rfl⟩)
  refine aI _ rfl<|aI _ (Fc _ _)<|eT (AV.str e8.title) (λhg=>rfl) ?_;refine xB (ω:=Bool) (λfS=>(AV.bool fS)) (λhg fS P4=>by(try rw[hg]);exact(qS ((xJ (e:=λr:Bool=>((AV.bool r),σ)) (λhs=>Lx e8.title hs σ)) P4))) (λfS P4=>?_);refine eT (AV.bool (!fS)) (λhg=>by(try rw[hg]);exact rfl)<|aI _ (vU _ _) ?_;refine qo (c:=((decide (¬(e8.title=(⟨#[]⟩:ByteArray))))&&(!fS))) (λpK=>?_) (λpK=>?_)
  ·exact fF (lz (by simp) ⟨_,_,rfl⟩)
  refine aI (sl 3 aC e8.cL) rfl<|aI _ (iy _ _ _)<|aI _ rfl ?_;refine rB (p:=2000<(e8.cL.length:Int)) (λlO=>?_) (λlO=>?_)
  ·exact fF (lz (by simp) ⟨_,_,rfl⟩)
  refine aI (sl 3 aC e8.cL) rfl<|aI _ (iy _ _ _) ?_;refine xA (B:=Unit) (R:=Int) (λ(vg:Nat)(e9:Unit)v Kx=>∃u4,v=[(AV.lbx (bW a0)),u4,(AV.lbx (aE e8)),(AV.aj (vg:Int))]∧σ=Kx) (λ(ym:Unit)(q:LS)=>∃u4 u7 u64,q=((AX.exit 3),([(AV.lbx (bW a0)),u4,u7,u64]:aq),σ)) (λ(ym:Int)(q:LS)=>∃u2 u7 u64,q=(AX.ret,([u2,(AV.aj ym),u7,u64]:aq),σ)) ?_ ?_ ⟨_,rfl,rfl⟩ ?_ ?_
  ·intro YR vg jl e9 v Kx Je hI;obtain⟨u4,rfl,rfl⟩:=hI;refine aI _ (td Je)<|xH<|aI _ (sR Je)<|aI _ rfl<|aI _ rfl<|aI _ (LV _ _ rfl)<|aI _ rfl<|aI _ rfl ?_;refine uL (λiB:(dW×Bool)=>((AV.aD [(AV.agg (b8 iB.1)),(AV.bool iB.2)]),σ)) (λiB P6=>(xJ (e:=λr:(dW×Bool)=>((AV.aD [(AV.agg (b8 r.1)),(AV.bool r.2)]),σ)) (λhs=>Ly a0 hs jl.key σ)) P6) (λiB P6=>?_);refine aI _ rfl<|aI _ rfl<|aI _ rfl<|aI _ (jv _ _ rfl)<|aI _ rfl ?_;refine qo (c:=(!iB.2)) (λeI=>?_) (λeI=>?_)
   ·exact fF (lz (by simp) ⟨_,_,_,rfl⟩)
   refine aI _ rfl<|aI _ (tZ jl.level σ)<|aI _ rfl ?_;refine qo (c:=(!(bK jl.level 0 65535))) (λeW=>?_) (λeW=>?_)
   ·exact fF (lz (by simp) ⟨_,_,_,rfl⟩)
   refine aI _ rfl<|aI _ rfl<|eT (sl 3 aC e8.cL) (λhg=>rfl)<|eT (AV.aj (vg:Int)) (λhg=>rfl)<|eT (AV.aj (IntKind.i64.wrap ((vg:Int) -1))) (λhg=>by(try rw[hg]);exact rfl) ?_;refine xB (ω:=aN) (λaT=>(AV.rp (aC aT))) (λhg aT Qc=>by(try rw[hg]);exact BR Qc) (λaT Qc=>?_);refine eT (AV.rp (aC aT)) (λhg=>by(try rw[hg]);exact rfl)<|eT (AV.agg (bV aT.key)) (λhg=>by(try rw[hg]);exact rfl)<|eT (AV.agg (bV jl.key)) (λhg=>rfl)<|eT (AV.bool (((decide (aT.key.unit<jl.key.unit))||((decide (aT.key.unit=jl.key.unit))&&(Op.bytesLess aT.key.param.toList jl.key.param.toList))))) (λhg=>by(try rw[hg]);exact(qS (LF (σ:=σ) (r:=((decide (aT.key.unit<jl.key.unit))||((decide (aT.key.unit=jl.key.unit))&&(Op.bytesLess aT.key.param.toList jl.key.param.toList)))) rfl)))<|eT (AV.bool (!(((decide (aT.key.unit<jl.key.unit))||((decide (aT.key.unit=jl.key.unit))&&(Op.bytesLess aT.key.param.toList jl.key.param.toList)))))) (λhg=>by(try rw[hg]);exact rfl)<|aI _ (vU _ _) ?_;refine qo (c:=((decide (0<(vg:Int)))&&(!(((decide (aT.key.unit<jl.key.unit))||((decide (aT.key.unit=jl.key.unit))&&(Op.bytesLess aT.key.param.toList jl.key.param.toList))))))) (λpJ=>?_) (λpJ=>?_)
   ·exact fF (lz (by simp) ⟨_,_,_,rfl⟩)
   refine aI _ (sS Je YR) ?_;exact fF (xC ⟨_,rfl,rfl⟩)
  ·intro hl e9 v Kx hI;obtain⟨u4,rfl,rfl⟩:=hI;refine aI _ (sQ _)<|xG ?_;exact fF ⟨by simp,⟨_,_,_,rfl⟩⟩
  ·intro hl ym q hq;obtain⟨u4,u7,u64,rfl⟩:=hq;refine oY rfl<|aI _ (sS JV ZF) ?_;exact fF (xC ⟨_,rfl,rfl⟩)
  ·intro hl ym q hq;obtain⟨u2,u7,u64,rfl⟩:=hq;refine Af rfl<|oY rfl ?_;exact fF (lz (by simp) ⟨_,_,rfl⟩)
 ·intro hl s2 v w4 hI;obtain⟨u4,rfl,rfl⟩:=hI;refine aI _ (sQ _)<|xG ?_;exact fF ⟨by simp,⟨_,_,_,rfl⟩⟩
 ·intro hl b3 q hq;obtain⟨u2,u4,De,rfl⟩:=hq;refine oY rfl ?_;exact jx _ (ep _ _) ⟨rfl,rfl⟩
 ·intro hl b3 q hq;obtain⟨u2,De,rfl⟩:=hq;refine Af rfl<|oY rfl ?_;exact jx _ (ep _ _) ⟨rfl,rfl⟩
end
abbrev SmK:={k:bP // 0≤k.unit∧k.unit≤1000000}
instance : Inhabited SmK := ⟨⟨⟨0, ⟨#[]⟩⟩, by decide⟩⟩
section
section
variable {κ ν : Type} [DecidableEq κ]
theorem Mp(k a:κ)(v:ν):∀(l:List (κ×ν)),jX k (nF a v l)=if k=a then some v else jX k l
 |[]=>by simp [nF,jX]
 |(b,w)::l=>by
  rw[nF];by_cases h:a=b
  ·subst h;rw[aP rfl,jX,jX];split<;>rfl
  ·rw[aQ h,jX,jX,Mp k a v l];by_cases h2:k=b
   ·subst h2;rw[aP rfl,aP rfl,aQ (λe=>h e.symm)]
   ·rw[aQ h2,aQ h2]
theorem HB(k:κ):∀(l:List κ)(s:List (κ×Bool)),(jX k (l.foldl (λs x=>nF x true s) s)).getD false=(decide (k∈l)||(jX k s).getD false)
 |[],s=>by simp
 |x::l,s=>by
  rw[List.foldl_cons,HB k l,Mp];by_cases h:k=x
  ·simp [h]
  ·simp [h]
end
theorem Uz{l:List Int}{n:Int}(h:l.Pairwise (·<·))(k:wA l n=false):(l++[n]).Pairwise (·<·):=by
 rw[List.pairwise_append];refine⟨h,by simp,λa ha b hb=>?_⟩;simp at hb;subst hb;unfold wA at k;cases hl:l.getLast? with
 |none=>rw[List.getLast?_eq_none_iff]at hl;subst hl;simp at ha
 |some m=>
  rw[hl]at k;simp at k;obtain⟨ys,rfl⟩:=List.getLast?_eq_some_iff.1 hl;rw[List.pairwise_append]at h;rcases ew.1 ha with ha|ha
  ·have:=h.2.2 a ha m (by simp);omega
  ·simp at ha;omega
theorem LA{eX:List cm}:∀(rest pre:List eM),wk eX pre rest=0→(pre.map (·.aF)).Pairwise (·<·)→((pre++rest).map (·.aF)).Pairwise (·<·)
 |[],pre,_,h=>by simpa using h
 |u::rest,pre,hc,h=>by
  rw[wk]at hc;split at hc
  ·cases hc
  split at hc
  ·cases hc
  rename_i ho;split at hc
  ·cases hc
  split at hc
  ·cases hc
  split at hc
  ·cases hc
  have:=LA rest (pre++[u]) hc (by rw[List.map_append];exact Uz h (by simpa using ho));simpa using this
theorem Uu{r:cN}(h:ga r=0):(r.fG.map (·.aF)).Pairwise (·<·):=by
 unfold ga at h;split at h
 ·split at h
  ·cases h
  ·simpa using LA r.fG [] h (by simp)
 ·rename_i h2;exact absurd h h2
theorem UW(p:cm)(nm:ByteArray):(sU p nm).2=true↔∃x∈p.params,x.name=nm:=by
 unfold sU;cases h:p.params.find? λx=>decide (x.name=nm)with
 |none=>simp only[Option.elim_none,Bool.false_eq_true,false_iff];rintro⟨x,hx,e⟩;have:=List.find?_eq_none.1 h x hx;simp [e]at this
 |some x=>simp only[Option.elim_some,true_iff];exact⟨x,BW h,by simpa using List.find?_some h⟩
theorem VV{l:List eM}(h:(l.map (·.aF)).Pairwise (·<·)){u v:eM}(hu:u∈l)(hv:v∈l)(e:u.aF=v.aF):u=v:=by
 induction l with
 |nil=>simp at hu
 |cons x l ih=>
  rw[fP,List.pairwise_cons]at h;rcases eu.1 hu with CY|CY<;>rcases eu.1 hv with CZ|CZ
  ·rw[CY,CZ]
  ·have:=h.1 v.aF (l9.2 ⟨v,CZ,rfl⟩);rw[←CY]at this;omega
  ·have:=h.1 u.aF (l9.2 ⟨u,CY,rfl⟩);rw[←CZ]at this;omega
  ·exact ih h.2 CY CZ
def nA(r:cN)(k:bP):Bool:=(qT r k).2
theorem Nr{r:cN}(h:ga r=0)(k:bP):nA r k=decide (k∈oc r):=by
 rw[kO,decide_eq_true_iff];unfold nA qT oc;rw[List.mem_flatMap];cases hf:r.fG.find? λu=>decide (u.aF=k.unit)with
 |none=>simp only[Option.elim_none,Bool.false_eq_true,false_iff];rintro⟨u,hu,hk⟩;obtain⟨x,_,rfl⟩:=l9.1 hk;have:=List.find?_eq_none.1 hf u hu;simp at this
 |some u=>
  have hu:=BW hf;have hn:u.aF=k.unit:=by simpa using List.find?_some hf
  simp only[Option.elim_some,UW];constructor
  ·rintro⟨x,hx,e⟩;exact⟨u,hu,l9.2 ⟨x,hx,by rw[hn,e]⟩⟩
  ·rintro⟨v,hv,hk⟩;obtain⟨x,hx,rfl⟩:=l9.1 hk;obtain rfl:=VV (Uu h) hu hv hn;exact⟨x,hx,rfl⟩
theorem Ns{r:cN}(h:ga r=0):(oc r).length≤16000:=by have h1:=GM h r.fG;have h2:=Me h;show(r.fG.flatMap (nj r.bQ)).length≤_;omega
theorem Wh{α:Type}{p:Prop}[Decidable p](a b:α):(if p then some a else some b)=some (if p then a else b):=by split<;>rfl
theorem Ms{α β:Type}{p:Prop}[Decidable p](a b:α)(f:α→Option β):(if p then some a else some b).bind f=f (if p then a else b):=by split<;>rfl
theorem before_eq(a b:bP):zu a b=some (iT a b):=by
 unfold zu iT;by_cases h:a.unit=b.unit
 ·simp [h,Bz,HY]
 ·by_cases h2:a.unit<b.unit<;>simp [h,h2]
def BU(has:bP→Bool)(l:List aN)(i:Nat)(x:aN):Int:=
 if(!has x.key)=true then 8
 else if(!(bK x.level 0 65535))=true then 1
 else if(decide (0<(i:Int))&&!iT (pv l i).key x.key)=true then 7 else 0
def vP(has:bP→Bool)(l:List bn)(i:Nat)(p:bn):Int:=
 if(!(bK p.aF 1 999))=true then 1
 else if(decide (0<(i:Int))&&decide (p.aF≤(pv l i).aF))=true then 7
 else if(!(oU p.title))=true then 3
 else if 2000<(p.cL.length:Int)then 2
 else qx (BU has p.cL) p.cL 0
def lW(r:cN)(l:List bn):Int:=
 if ¬(ga r=0)then ga r else if 200<(l.length:Int)then 2 else qx (vP (nA r) l) l 0
theorem TW(c:Bool)(a b:bP):(c&&!(if c=true then iT a b else(default:Bool)))=(c&&!iT a b):=by cases c<;>rfl
theorem Uj(s:ByteArray):(decide (¬(s=(⟨#[]⟩:ByteArray)))&&!(if decide (¬(s=(⟨#[]⟩:ByteArray)))=true then sX s else(default:Bool)))=!oU s:=by unfold oU;by_cases h:s=⟨#[]⟩<;>simp [h]
theorem K8(r:cN)(l:List bn)(hr:lF r)(hl:eY vK l):AW r l=some (lW r l):=by
 unfold AW lW;simp only[xD hr,aM];rw[xD (by show 2≤bX;unfold bX;omega)];simp only[YO,aM];by_cases h0:ga r=0;case neg=>simp [h0]
 by_cases h1:200<(l.length:Int)
 ·simp [h0,h1]
 have hk:vH r=some ((oc r).foldl (λs x=>nF x true s) []):=by unfold vH;have:=Ns h0;simp only[xD hr,aM,h0,if_true];rw[MA (λs x=>nF x true s) (λ_ _=>True) (by unfold bX;omega) trivial (λ_ _ _ _ _=>trivial) (λ_ _ _ _ _=>rfl)];rfl
 simp only[h0,h1,not_true_eq_false,if_false,decide_false,Bool.false_eq_true,hk,aM]
 have has:∀k,(jX k ((oc r).foldl (λs x=>nF x true s) [])).getD false=nA r k:=by intro k;rw[HB,Nr h0];simp [jX]
 rw[En (f:=vP (nA r) l) hl.1 ?_]
 ·split
  ·rename_i h;rw[h]
  ·rfl
 intro i p hp;have J4:=hl.2 p (cM hp);obtain⟨_,ht,hs⟩:=J4;simp only[EI hp hl.1,aM,xD ht,has];rw[En (f:=BU (nA r) p.cL) hs.1 ?_]
 ·unfold vP;repeat first|exact Ng _|exact go_ret|refine EE (by decide) ?_
 intro j x hx;simp only[EI hx hs.1,aM,before_eq,Ms,TW];unfold BU;repeat first|exact go_ret|refine EE (by decide) ?_
theorem KZ(r:cN)(l:List bn)(hr:lF r)(hl:eY vK l):A0 r l=some (lW r l):=by
 unfold A0 lW;simp only[xD hr,aM];by_cases h0:ga r=0;case neg=>simp [h0]
 by_cases h1:200<(l.length:Int)
 ·simp [h0,h1]
 simp only[h0,h1,not_true_eq_false,if_false];rw[En (f:=vP (nA r) l) hl.1 ?_]
 ·split
  ·rename_i h;rw[h]
  ·rfl
 intro i p hp;have J4:=hl.2 p (cM hp);obtain⟨_,ht,hs⟩:=J4;simp only[EI hp hl.1,aM,xD ht,Ms,Uj];rw[En (f:=BU (nA r) p.cL) hs.1 ?_]
 ·unfold vP;repeat first|exact Ng _|exact go_ret|refine EE (by decide) ?_
 intro j x hx;simp only[EI hx hs.1,aM];unfold BU iT nA;repeat first|exact go_ret|refine EE (by decide) ?_
def dS(l:List bn)(n:Int):bn×Bool:=match l.find? λp=>decide (p.aF=n)with|some p=>(p,true)|none=>(⟨0,⟨#[]⟩,[]⟩,false)
theorem UC(l:List bn)(hl:l.length≤bX)(n:Int):A9 l n=some (dS l n):=by unfold A9 dS;rw[Mz (p:=λp=>decide (p.aF=n)) (r:=λp=>(p,true)) hl (by intro i x _;simp only[decide_eq_true_eq,Wh])];cases l.find? λp=>decide (p.aF=n)<;>rfl
theorem T6{r:cN}{l:List bn}(h:lW r l=0):ga r=0:=by
 unfold lW at h;by_cases h0:ga r=0
 ·exact h0
 ·rw[aP h0]at h;exact h
end
theorem Xf{i j:Nat}(h:i+j<9223372036854775808):A.shr (.int .u64 ((i+j:Nat):Int)) (.int .u64 1)=some (.int .u64 (((i+j) / 2:Nat):Int)):=by simp only[A.shr];rw[aQ (by decide)];congr 2;rw[show(2:Int) ^ (min (Int.toNat 1) IntKind.u64.bits)=2 from rfl,Int.fdiv_eq_ediv_of_nonneg _ (by decide)];omega
theorem X8{n:Nat}(h:n<9223372036854775808):A.conv .u64 (.aj (n:Int))=some (.int .u64 (n:Int)):=by simp only[A.conv];congr 2;unfold IntKind.wrap;simp [IntKind.bits,IntKind.signed];omega
theorem X7{n:Nat}(h:n<9223372036854775808):A.conv .i64 (.int .u64 (n:Int))=some (.aj (n:Int)):=by simp only[A.conv];rw[cW (by unfold bp;omega)]
theorem Ju{a b:Nat}(h:a+b<9223372036854775808):A.add (.aj (a:Int)) (.aj (b:Int))=some (.aj ((a+b:Nat):Int)):=by rw[Ak,cW (by unfold bp;omega)];simp
theorem Y9{a:Nat}(h:a+1<9223372036854775808):A.add (.aj (a:Int)) (.aj 1)=some (.aj ((a+1:Nat):Int)):=Ju (b:=1) h
theorem Jv(a b:Nat):A.lss (.aj (a:Int)) (.aj (b:Int))=some (.bool (decide (a<b))):=by rw[qY];have:((a:Int)<(b:Int))=(a<b):=propext ⟨λh=>by omega,λh=>by omega⟩;simp only[this]
theorem Za(a:Int):A.lss (.aj a) (.aj 0)=some (.bool (decide (a<0))):=by rw[qY]
theorem QE{α:Type}{X Y:α}:(bif (AX.exit 0==AX.exit 0)then X else Y)=X:=rfl
theorem WO{f:aq→Heap→Option (AX×aq×Heap)}{σ:Heap}(pv:Nat→Nat→aq){v0:aq}{n p:Nat}(hp:p≤n)(h0:v0=pv 0 n)
  (hs:∀i j,i<j→j≤n→f (pv i j) σ=some (.normal,if(i+j) / 2<p then pv ((i+j) / 2+1) j else pv i ((i+j) / 2),σ))
  (he:∀i,i≤n→f (pv i i) σ=some (.exit 0,pv i i,σ)):A.loop f v0 σ=some (.exit 0,pv p p,σ):=by
 subst h0
 have key:∀k i j,j-i≤k→i≤p→p≤j→j≤n→∃m,A.iter f m (pv i j) σ=some (.exit 0,pv p p,σ):=by
  intro k;induction k with
  |zero=>
   intro i j hk h1 h2 h3;have:i=p:=by omega
   have:j=p:=by omega
   subst i;subst j;exact qh (he p h3) (by simp)
  |succ k ih=>
   intro i j hk h1 h2 h3;by_cases hij:i<j
   ·have hstep:=hs i j hij h3;by_cases hh:(i+j) / 2<p
    ·rw[aP hh]at hstep;exact zG hstep (ih _ _ (by omega) (by omega) h2 h3)
    ·rw[aQ hh]at hstep;exact zG hstep (ih _ _ (by omega) h1 (by omega) (by omega))
   ·have:i=p:=by omega
    have:j=p:=by omega
    subst i;subst j;exact qh (he p h3) (by simp)
 obtain⟨m,hm⟩:=key n 0 n (by omega) (by omega) hp (bU _);exact w9 hm
section
open Go.Sort
theorem OD:∀a:List UInt8,Op.bytesLess a a=false
 |[]=>rfl
 |x::l=>by simp [Op.bytesLess,UInt8.lt_irrefl,OD l]
theorem Na:∀a b c:List UInt8,Op.bytesLess a b=true→Op.bytesLess b c=true→Op.bytesLess a c=true
 |[],[],c,h,_=>by simp [Op.bytesLess]at h
 |[],_::_,[],_,k=>by simp [Op.bytesLess]at k
 |[],_::_,_::_,_,_=>rfl
 |_::_,[],c,h,_=>by simp [Op.bytesLess]at h
 |_::_,_::_,[],_,k=>by simp [Op.bytesLess]at k
 |x::a,y::b,z::c,h,k=>by
  rw[Op.bytesLess]at h k ⊢;simp only[Bool.or_eq_true,eN,decide_eq_true_eq,beq_iff_eq]at h k ⊢;rcases h with h|⟨rfl,h⟩<;>rcases k with k|⟨rfl,k⟩
  ·exact .inl (UInt8.lt_trans h k)
  ·exact .inl h
  ·exact .inl k
  ·exact .inr ⟨rfl,Na a b c h k⟩
theorem N8(a:bP):iT a a=false:=by simp [iT,OD]
theorem VF{a b c:bP}(h:iT a b=true)(k:iT b c=true):iT a c=true:=by
 simp only[iT,Bool.or_eq_true,eN,decide_eq_true_eq]at h k ⊢;rcases h with h|⟨h1,h2⟩<;>rcases k with k|⟨k1,k2⟩
 ·left;omega
 ·left;omega
 ·left;omega
 ·right;exact⟨by omega,Na _ _ _ h2 k2⟩
theorem Ig{a b:bP}(h:iT a b=false)(k:iT b a=false):a=b:=by
 rw[←WV];have h1:¬wm a b<0:=λe=>by rw[(NP a b).1 e]at h;cases h
 have hba:wm b a=-wm a b∨True:=.inr trivial
 -- what is neither smaller nor greater is the same
 unfold wm at h1 ⊢;simp only[iT,jY,Bool.and_eq_false_iff,decide_eq_false_iff_not]at h k;have hu:a.unit=b.unit:=by omega
 simp only[hu,not_true_eq_false,if_false]at h1 ⊢
 have e1:Op.bytesLess a.param.data.toList b.param.data.toList=false:=by
  rcases h.2 with q|q
  ·exact absurd hu q
  ·simpa [Bz]using q
 have e2:Op.bytesLess b.param.data.toList a.param.data.toList=false:=by
  rcases k.2 with q|q
  ·exact absurd hu.symm q
  ·simpa [Bz]using q
 rw[HX]
 have tri:∀x y:List UInt8,Op.bytesLess x y=false→Op.bytesLess y x=false→x=y:=by
  intro x;induction x with
  |nil=>intro y p q;cases y with|nil=>rfl|cons y l=>simp [Op.bytesLess]at p
  |cons x xs ih=>
   intro y p q;cases y with
   |nil=>simp [Op.bytesLess]at q
   |cons y ys=>
    rw[Op.bytesLess]at p q;by_cases h1:x<y
    ·simp [h1]at p
    ·by_cases h2:y<x
     ·simp [h2]at q
     ·have:x=y:=UInt8.le_antisymm (UInt8.not_lt.1 h2) (UInt8.not_lt.1 h1);subst this;simp [h1]at p q;rw[ih ys p q]
 exact tri _ _ e1 e2
theorem Vp(a b:bP):zY a b<0↔iT a b=true:=NP a b
end
end Go.Proofs.Ytjjjjbgohkklnaa
