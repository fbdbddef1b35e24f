/- Parts of the proof of PlayMastersScale, in order. -/
import Derived.Orders
import Derived.Below
import Derived.WalkKit
import Derived.Laws.StructEq
import Derived.Laws.Append
import Derived.Laws.AppendOwn
import Derived.Test.YtooknfkholjpbaaGreatRows
import Derived.KernelRfl
import Derived.Lib.Bytealg
import Derived.Sort.Defs
import Derived.Lib.BitFns
import Derived.Test.YtooknfkholjpbaaGreatShelf
import Derived.Laws.Externs
import Derived.WalkSpells
import Derived.ProofKit
import Derived.OpenShut
import Derived.Deep.QuietTactic
import Derived.BigQuiet
import Derived.Lib.Hide
import Derived.IntWalk
import Derived.Deep.RegionHeld3
import Derived.Deep.Slices
import Derived.OwnWalk
import Derived.Laws.OwnMore
import Derived.Deep.OwnRows
import Derived.Deep.RegionHeld
import Derived.Deep.AppendLies
import Derived.Lib.Overlaps
import Derived.Test.YtooknfkholjpbaaGreatKPlayMastersScale2
namespace Go.Proofs.YtooknfkholjpbaaGreat
set_option linter.unusedVariables false
set_option linter.unusedSimpArgs false
set_option linter.unusedSectionVars false
section
set_option maxRecDepth 100000
noncomputable def Ss (a0 a1:AV) (σ:Heap):aH:=(A.cells 2 a0).bind λc1=>(A.ak 0 c1).bind λx2=>((A.deref a1 σ).bind λc3=>A.ak 0 c3).bind λx4=>(A.eql .i x2 x4).bind λx5=>A.fin σ x5 σ
noncomputable def Kz:aq→Heap→aH:=A.wrap true [(.a [.k,(.s 11)])] .k (A.dL Ss)
noncomputable def OF (a0 a1:AV) (σ:Heap):aH:=(A.cells 5 a0).bind λc1=>(((A.cell a1).bind λv=>some [v]).bind λcs=>some (AV.rp cs)).bind λx2=>(A.ak 3 c1).bind λx3=>(NT (A.tab (λ_ _=>none) [(127,Kz)]) [x3,(AV.fn 127 [x2])] σ).bind λr4=>(A.lss r4.1 (AV.ah 0)).bind λx5=>A.cond x5 ((A.cells 2 (AV.agg [(AV.ah 0),AV.az])).bind λc6=>(A.au 0 c6 [(AV.ah 0),AV.az]).bind λc7=>(A.aC 0 2 c7).bind λx8=>A.fin σ (AV.aL [x8,aR]) r4.2) ((A.ak 3 c1).bind λx9=>(A.bh 2 x9 r4.1).bind λbT=>((A.deref bT r4.2).bind λiJ=>A.aC 0 2 iJ).bind λdU=>(A.cells 2 dU).bind λlI=>(A.au 0 lI [(AV.ah 0),AV.az]).bind λkP=>(A.aC 0 2 kP).bind λdV=>A.fin σ (AV.aL [dV,dD]) r4.2)
noncomputable def DU:aq→Heap→aH:=A.wrap true [BO] (.t [(.a [.k,(.e 11 xW)]),.k]) (A.dL OF)
noncomputable def Sd (a0:AV) (σ:Heap):aH:=(A.cells 5 a0).bind λc1=>(A.aC 0 2 c1).bind λx2=>(A.ak 2 c1).bind λx3=>(A.quiet (NY [x2,x3] σ) σ).bind λx4=>(A.ak 3 c1).bind λx5=>(A.bY x5).bind λx6=>(A.gtr x6 (AV.ah 30)).bind λx7=>(A.quiet (uR [x7,(AV.ah 2)] σ) σ).bind λx8=>((((A.cell x4).bind λv=>some [v]).bind λc9=>(A.au 0 c9 [(AV.ah 0),(AV.ah 0)]).bind λfQ=>((A.cell x8).bind λv=>some [v]).bind λiJ=>(A.au 1 iJ fQ).bind λfE=>some fE).bind λcs=>some (AV.sl 1 (gf 1 2 cs))).bind λdY=>(A.quiet (Bq [dY] σ) σ).bind λef=>(A.neq .i ef (AV.ah 0)).bind λdV=>A.cond dV (A.fin σ ef σ) ((A.ak 3 c1).bind λdM=>(A.bY dM).bind λdQ=>(A.loop (λoZ X6=>(A.lss (aj oZ 2) dQ).bind λcO=>A.cond cO ((A.bh 2 dM (aj oZ 2)).bind λdW=>((A.deref dW X6).bind λfJ=>A.aC 0 2 fJ).bind λx24=>(A.cells 2 x24).bind λjx=>(A.au 0 jx [(AV.ah 0),AV.az]).bind λgK=>(A.ak 0 gK).bind λeE=>(lQ [eE,(AV.ah 1),(AV.ah 999)] X6).bind λvS=>(A.not vS.1).bind λx29=>A.cond x29 (some (AX.ret,[(aj oZ 0),(AV.ah 1),(aj oZ 2)],vS.2)) ((A.gtr (aj oZ 2) (AV.ah 0)).bind λdF=>(A.guard dF true (A.ak 0 gK) ay).bind λx31=>((A.lb (aj oZ 0)).bind λ_=>some (3)).bind λp32=>(A.guard dF true ((A.lb (aj oZ 0)).bind λG4=>A.ak p32 G4) ay).bind λx34=>(A.guard dF true (some (aj oZ 2)) ay).bind λiY=>(A.guard dF true (A.sub iY (AV.ah 1)) ay).bind λiK=>(A.guard dF true (A.bh 2 x34 iK) ay).bind λcU=>(A.guard dF true (A.aF 0 cU) ay).bind λx38=>(A.guard dF true ((A.deref x38 vS.2).bind λoQ=>A.ak 0 oQ) ay).bind λeA=>(A.guard dF true (A.leq x31 eA) ay).bind λfF=>(A.pick dF fF aR).bind λi6=>A.cond i6 (some (AX.ret,[(aj oZ 0),(AV.ah 7),(aj oZ 2)],vS.2)) (((A.lb (aj oZ 0)).bind λ_=>some (0)).bind λp43=>((A.lb (aj oZ 0)).bind λG5=>A.aC p43 2 G5).bind λfO=>((A.lb (aj oZ 0)).bind λ_=>some (2)).bind λNh=>((A.lb (aj oZ 0)).bind λjH=>A.ak Nh jH).bind λjo=>(A.ak 1 gK).bind λgB=>(Sm [fO,jo,gB] vS.2).bind λew=>(A.neq .i ew.1 (AV.ah 0)).bind λjy=>A.cond jy (some (AX.ret,[(aj oZ 0),ew.1,(aj oZ 2)],ew.2)) ((A.add (aj oZ 2) (AV.ah 1)).bind λfP=>some (AX.normal,[(aj oZ 0),(aj oZ 1),fP],ew.2))))) (some (AX.exit 0,[(aj oZ 0),(aj oZ 1),(aj oZ 2)],X6))) [(AV.lbx c1),(AV.ah 0),(AV.ah 0)] σ).bind λdc=>bif dc.1==AX.exit 0 then(((A.lb (aj dc.2.1 0)).bind λ_=>some (4)).bind λp54=>((A.lb (aj dc.2.1 0)).bind λjV=>A.ak p54 jV).bind λgV=>(A.bY gV).bind λlY=>(A.gtr lY (AV.ah 40)).bind λi7=>A.cond i7 (A.fin σ (AV.ah 2) dc.2.2) (((A.lb (aj dc.2.1 0)).bind λ_=>some (4)).bind λp59=>((A.lb (aj dc.2.1 0)).bind λDn=>A.ak p59 Dn).bind λkJ=>(A.bY kJ).bind λfL=>(A.loop (λp4 X8=>(A.lss (aj p4 2) fL).bind λjc=>A.cond jc ((A.bh 3 kJ (aj p4 2)).bind λmg=>((A.deref mg X8).bind λDp=>A.aC 0 3 Dp).bind λiE=>(A.cells 3 iE).bind λG8=>(A.au 0 G8 [(AV.ah 0),(AV.ah 0),(AV.ah 0)]).bind λnU=>(A.ak 0 nU).bind λtT=>(lQ [tT,(AV.ah 1),(AV.ah 40)] X8).bind λNq=>(A.not Nq.1).bind λjq=>A.cond jq (some (AX.ret,[(aj p4 0),(AV.ah 1),(aj p4 2)],Nq.2)) ((A.gtr (aj p4 2) (AV.ah 0)).bind λfG=>(A.guard fG true (A.ak 0 nU) ay).bind λkq=>((A.lb (aj p4 0)).bind λ_=>some (4)).bind λvR=>(A.guard fG true ((A.lb (aj p4 0)).bind λqV=>A.ak vR qV) ay).bind λlP=>(A.guard fG true (some (aj p4 2)) ay).bind λiA=>(A.guard fG true (A.sub iA (AV.ah 1)) ay).bind λtU=>(A.guard fG true (A.bh 3 lP tU) ay).bind λp6=>(A.guard fG true (A.aF 0 p6) ay).bind λsj=>(A.guard fG true ((A.deref sj Nq.2).bind λkR=>A.ak 0 kR) ay).bind λjM=>(A.guard fG true (A.leq kq jM) ay).bind λkX=>(A.pick fG kX aR).bind λoG=>A.cond oG (some (AX.ret,[(aj p4 0),(AV.ah 7),(aj p4 2)],Nq.2)) (((A.lb (aj p4 0)).bind λDs=>A.aC 0 5 Ds).bind λBm=>(A.ak 1 nU).bind λx90=>(DU [Bm,x90] Nq.2).bind λCc=>(A.ext 0 Cc.1).bind λru=>(A.ext 1 Cc.1).bind λx93=>(A.cells 2 ru).bind λvJ=>(A.au 0 vJ [(AV.ah 0),AV.az]).bind λlK=>(A.not x93).bind λx96=>A.cond x96 (some (AX.ret,[(aj p4 0),(AV.ah 8),(aj p4 2)],Cc.2)) ((A.ak 2 nU).bind λBn=>(lQ [Bn,(AV.ah 0),(AV.ah 100)] Cc.2).bind λCd=>(A.not Cd.1).bind λx99=>A.cond x99 (some (AX.ret,[(aj p4 0),(AV.ah 1),(aj p4 2)],Cd.2)) ((A.add (aj p4 2) (AV.ah 1)).bind λqM=>some (AX.normal,[(aj p4 0),(aj p4 1),qM],Cd.2)))))) (some (AX.exit 2,[(aj p4 0),(aj p4 1),(aj p4 2)],X8))) [(aj dc.2.1 0),(aj dc.2.1 1),(AV.ah 0)] dc.2.2).bind λzf=>bif zf.1==AX.exit 2 then(A.fin σ (AV.ah 0) zf.2.2)else bif zf.1==AX.ret then(A.fin σ (aj zf.2.1 1) zf.2.2)else none))else bif dc.1==AX.ret then(A.fin σ (aj dc.2.1 1) dc.2.2)else none)
noncomputable def N8:aq→Heap→aH:=A.wrap true [BO] .k (A.dP Sd)
noncomputable def R7 (a0:AV) (σ:Heap):aH:=(A.cells 5 a0).bind λc1=>(A.ak 1 c1).bind λx2=>(lQ [x2,(AV.ah 1),(AV.ah 9)] σ).bind λr3=>(A.not r3.1).bind λx4=>A.cond x4 (A.fin σ (AV.ah 4) r3.2) ((A.ak 1 c1).bind λx5=>(A.eql .i x5 (AV.ah 8)).bind λx6=>(A.guard x6 false (A.ak 1 c1) ay).bind λx7=>(A.guard x6 false (A.eql .i x7 (AV.ah 9)) ay).bind λx8=>(A.pick x6 dD x8).bind λx9=>(A.guard x9 false (A.ak 1 c1) ay).bind λbT=>(A.guard x9 false (A.eql .i bT (AV.ah 6)) ay).bind λdH=>(A.pick x9 dD dH).bind λdU=>(A.guard dU false (A.ak 1 c1) ay).bind λdY=>(A.guard dU false (A.eql .i dY (AV.ah 7)) ay).bind λef=>(A.pick dU dD ef).bind λdV=>(A.guard x9 true (A.ak 2 c1) ay).bind λdM=>(A.guard x9 true (A.neq .i dM (AV.ah 0)) ay).bind λdQ=>(A.pick x9 dQ aR).bind λcN=>(A.guard cN false (A.ak 1 c1) ay).bind λey=>(A.guard cN false (A.neq .i ey (AV.ah 3)) ay).bind λeC=>(A.guard cN false (some eC) ay).bind λcO=>(A.guard cO true (A.ak 3 c1) ay).bind λdW=>(A.guard cO true (A.neq .i dW (AV.ah 0)) ay).bind λfT=>(A.guard cN false (A.pick cO fT aR) ay).bind λx24=>(A.pick cN dD x24).bind λx25=>(A.guard x25 false (some dV) ay).bind λiw=>(A.guard x25 false (A.not iw) ay).bind λeE=>(A.guard x25 false (some eE) ay).bind λx28=>(A.guard x28 true (A.ak 4 c1) ay).bind λx29=>(A.guard x28 true (A.neq .i x29 (AV.ah 0)) ay).bind λdF=>(A.guard x25 false (A.pick x28 dF aR) ay).bind λx31=>(A.pick x25 dD x31).bind λx32=>A.cond x32 (A.fin σ (AV.ah 3) r3.2) (A.fin σ (AV.ah 0) r3.2))
noncomputable def N2:aq→Heap→aH:=A.wrap true [] .k (A.dP R7)
noncomputable def RQ (a0 a1:AV) (σ:Heap):aH:=(A.cells 3 a0).bind λc1=>(A.ak 0 c1).bind λx2=>(A.aF 2 a1).bind λx3=>((A.deref x3 σ).bind λc4=>A.ak 0 c4).bind λx5=>(A.eql .i x2 x5).bind λx6=>A.fin σ x6 σ
noncomputable def Kq:aq→Heap→aH:=A.wrap true [] .k (A.dL RQ)
noncomputable def N4 (a0 a1:AV) (σ:Heap):aH:=(A.cells 5 a0).bind λc1=>((A.cells 5 a1).bind λcs=>some (AV.rp cs)).bind λx2=>(A.aF 1 x2).bind λx3=>((A.deref x3 σ).bind λc4=>A.ak 0 c4).bind λx5=>(A.eql .i x5 (AV.ah 8)).bind λx6=>(A.guard x6 false (A.aF 1 x2) ay).bind λx7=>(A.guard x6 false ((A.deref x7 σ).bind λc8=>A.ak 0 c8) ay).bind λx9=>(A.guard x6 false (A.eql .i x9 (AV.ah 9)) ay).bind λbT=>(A.pick x6 dD bT).bind λdH=>(A.not dH).bind λdU=>(A.guard dU true (A.ak 4 c1) ay).bind λdY=>(A.guard dU true (some (AV.fn 152 [x2])) ay).bind λef=>(A.guard dU true (A.quiet (NM (A.tab (λ_ _=>none) [(152,Kq)]) [dY,ef] σ) σ) ay).bind λdV=>(A.guard dU true (A.not dV) ay).bind λdM=>(A.pick dU dM aR).bind λdQ=>A.cond dQ (A.fin σ (AV.ah 8) σ) ((A.aF 1 x2).bind λcN=>((A.deref cN σ).bind λiW=>A.ak 0 iW).bind λeC=>(A.eql .i eC (AV.ah 6)).bind λcO=>(A.cond cO (some ([(AV.ah 36000000)],σ)) ((A.eql .i eC (AV.ah 9)).bind λfT=>(A.cond fT (some ([(AV.ah 1)],σ)) (some ([(AV.ah 65535)],σ))).bind λwU=>some ([(aj wU.1 0)],wU.2))).bind λH6=>(A.aF 4 x2).bind λx25=>((A.deref x25 H6.2).bind λgK=>A.ak 0 gK).bind λeE=>(lQ [eE,(AV.ah 0),(aj H6.1 0)] H6.2).bind λvS=>(A.not vS.1).bind λx29=>(uR [x29,(AV.ah 1)] vS.2).bind λDD=>A.fin σ DD.1 DD.2)
noncomputable def N3:aq→Heap→aH:=A.wrap true [BO] .k (A.dL N4)
noncomputable def Y1 (a0:AV) (σ:Heap):aH:=(lQ [a0,(AV.ah 0),(AV.ah 36000000)] σ).bind λr1=>A.fin σ r1.1 r1.2
noncomputable def KE:aq→Heap→aH:=A.wrap true [] .k (A.dP Y1)
noncomputable def YG (a0:AV) (σ:Heap):aH:=(A.aW a0).bind λx1=>(A.aF 11 x1).bind λx2=>((A.deref x2 σ).bind λc3=>A.ak 0 c3).bind λx4=>(A.bY x4).bind λx5=>(A.eql .i x5 (AV.ah 0)).bind λx6=>A.cond x6 (A.fin σ (AV.ah 0) σ) ((A.aW a0).bind λx7=>(A.aF 11 x7).bind λx8=>((A.deref x8 σ).bind λc9=>A.ak 0 c9).bind λbT=>(A.aW a0).bind λdH=>(A.aF 11 dH).bind λdU=>((A.deref dU σ).bind λlI=>A.ak 0 lI).bind λef=>(A.bY ef).bind λdV=>(A.sub dV (AV.ah 1)).bind λdM=>(A.bh 5 bT dM).bind λdQ=>(A.aF 0 dQ).bind λcN=>((A.deref cN σ).bind λiW=>A.ak 0 iW).bind λeC=>A.fin σ eC σ)
noncomputable def Ch:aq→Heap→aH:=A.wrap true [(.p GQ)] .k (A.dP YG)
noncomputable def YI (a0:AV) (σ:Heap):aH:=(A.aW a0).bind λx1=>(A.aF 8 x1).bind λx2=>((A.deref x2 σ).bind λc3=>A.ak 0 c3).bind λx4=>(A.lss x4 (AV.ah 0)).bind λx5=>(A.guard x5 false (some a0) ay).bind λx6=>(A.guard x5 false (A.aW x6) ay).bind λx7=>(A.guard x5 false (A.aF 0 x7) ay).bind λx8=>(A.guard x5 false (A.aF 2 x8) ay).bind λx9=>(A.guard x5 false ((A.deref x9 σ).bind λfQ=>A.ak 0 fQ) ay).bind λdH=>(A.pick x5 dD dH).bind λdU=>A.cond dU (A.fin σ (AV.ah (-1)) σ) ((A.aW a0).bind λdY=>(A.aF 0 dY).bind λef=>(A.aF 1 ef).bind λdV=>((A.deref dV σ).bind λnF=>A.ak 0 nF).bind λdQ=>(A.aW a0).bind λcN=>(A.aF 8 cN).bind λey=>((A.deref ey σ).bind λjf=>A.ak 0 jf).bind λcO=>(A.add dQ cO).bind λdW=>(A.aW a0).bind λfT=>(A.aF 0 fT).bind λx24=>(A.aF 0 x24).bind λx25=>((A.deref x25 σ).bind λgK=>A.ak 0 gK).bind λeE=>(A.sub dW eE).bind λx28=>A.fin σ x28 σ)
noncomputable def DQ:aq→Heap→aH:=A.wrap true [(.p [.k,.k,.k,.k,.k,(.s 11),.k,.k,.k,.k])] .k (A.dP YI)
noncomputable def YN (a0 a1:AV) (σ:Heap):aH:=(A.cells 3 a0).bind λc1=>(A.ak 2 c1).bind λx2=>A.cond x2 ((A.ak 0 c1).bind λx3=>A.fin σ x3 σ) ((A.ak 0 c1).bind λx4=>(A.add x4 a1).bind λx5=>(A.ak 1 c1).bind λx6=>(A.sub x5 x6).bind λx7=>A.fin σ x7 σ)
noncomputable def zK:aq→Heap→aH:=A.wrap true [] .k (A.dL YN)
noncomputable def YU (a0:AV) (σ:Heap):aH:=(A.cells 9 a0).bind λc1=>(A.ak 2 c1).bind λx2=>(A.ak 3 c1).bind λx3=>(A.add x2 x3).bind λx4=>(A.ak 4 c1).bind λx5=>(A.add x4 x5).bind λx6=>A.fin σ x6 σ
noncomputable def Sy:aq→Heap→aH:=A.wrap true [(.a [.k,.k,.k,.k,.k,.k,(.s 2),.k,.k])] .k (A.dP YU)
noncomputable def RY (a0 a1 a2:AV) (σ:Heap):aH:=(A.cells 2 a1).bind λc1=>(A.aW a0).bind λx2=>(A.aF 9 x2).bind λx3=>((A.deref x3 σ).bind λc4=>A.ak 0 c4).bind λx5=>(A.aC 0 2 c1).bind λx6=>(A.F9 (.s [0,2]) x5 x6 (AV.agg [(AV.ah 0),(AV.ah 0),(AV.ah 0),(AV.ah 0),(AV.ah 0),(AV.ah 0),AV.az,(AV.ah 0),aR]) σ).bind λx7=>(A.ext 0 x7).bind λx8=>(A.ext 1 x7).bind λx9=>(A.cells 9 x8).bind λfQ=>(A.au 0 fQ [(AV.ah 0),(AV.ah 0),(AV.ah 0),(AV.ah 0),(AV.ah 0),(AV.ah 0),AV.az,(AV.ah 0),aR]).bind λiJ=>(A.aC 0 9 iJ).bind λdU=>(A.guard x9 true (A.ak 8 iJ) ay).bind λdY=>(A.guard x9 true (some dY) ay).bind λef=>(A.guard ef true (some a2) ay).bind λdV=>(A.guard ef true (A.aC 0 9 iJ) ay).bind λdM=>(A.guard ef true (A.quiet (Sy [dM] σ) σ) ay).bind λdQ=>(A.guard ef true (A.geq dV dQ) ay).bind λcN=>(A.guard x9 true (A.pick ef cN aR) ay).bind λey=>(A.guard x9 true (A.not ey) ay).bind λeC=>(A.pick x9 eC aR).bind λcO=>(A.cells 9 dU).bind λiM=>(A.au 0 iM [(AV.ah 0),(AV.ah 0),(AV.ah 0),(AV.ah 0),(AV.ah 0),(AV.ah 0),AV.az,(AV.ah 0),aR]).bind λfJ=>(A.aC 0 9 fJ).bind λx24=>A.fin σ (AV.aL [x24,cO]) σ
noncomputable def tV:aq→Heap→aH:=A.wrap false [] (.t [(.a [.k,.k,.k,.k,.k,.k,(.s 2),.k,.k]),.k]) (A.nE RY)
noncomputable def YJ (a0 a1:AV) (σ:Heap):aH:=(A.cells 9 a0).bind λc1=>(A.aC 0 7 c1).bind λx2=>(A.min a1 (AV.ah 36000000)).bind λx3=>(TA [x2,x3] σ).bind λr4=>(A.ext 0 r4.1).bind λx5=>(A.ext 1 r4.1).bind λx6=>A.fin σ x5 r4.2
noncomputable def yA:aq→Heap→aH:=A.wrap true [(.a [.k,.k,.k,.k,.k,.k,(.s 2),.k,.k])] .k (A.dL YJ)
noncomputable def Yv (a0 a1 a2 a3:AV) (σ:Heap):aH:=(A.cells 2 a2).bind λc1=>(A.aW a0).bind λx2=>(A.aF 10 x2).bind λx3=>((A.deref x3 σ).bind λc4=>A.ak 0 c4).bind λx5=>(A.aC 0 2 c1).bind λx6=>(A.look (.s [0,2]) x5 x6 (AV.agg [bB,(AV.ah 0),(AV.ah 0),(AV.ah 0),(AV.ah 0),aR,AV.az]) σ).bind λx7=>(A.cells 7 x7).bind λc8=>(A.au 0 c8 [bB,(AV.ah 0),(AV.ah 0),(AV.ah 0),(AV.ah 0),aR,AV.az]).bind λc9=>(A.ak 4 c9).bind λbT=>(A.aW a1).bind λdH=>(A.aF 0 dH).bind λdU=>((A.deref dU σ).bind λlI=>A.ak 0 lI).bind λef=>(A.bY ef).bind λdV=>(A.loop (λbw nh=>(A.lss (aj bw 6) dV).bind λey=>A.cond ey ((A.aW a1).bind λeC=>(A.aF 0 eC).bind λcO=>((A.deref cO nh).bind λiM=>A.ak 0 iM).bind λfT=>(A.bh 10 fT (aj bw 6)).bind λx24=>(A.aW x24).bind λx25=>(A.aF 0 x25).bind λiw=>((A.deref iw nh).bind λmH=>A.aC 0 3 mH).bind λx28=>(zK [x28,a3] nh).bind λgR=>((A.lb (aj bw 0)).bind λxZ=>A.aC 0 2 xZ).bind λx31=>(tV [x24,x31,gR.1] gR.2).bind λr32=>(A.ext 0 r32.1).bind λgu=>(A.ext 1 r32.1).bind λx34=>(A.cells 9 gu).bind λjF=>(A.au 0 jF [(AV.ah 0),(AV.ah 0),(AV.ah 0),(AV.ah 0),(AV.ah 0),(AV.ah 0),AV.az,(AV.ah 0),aR]).bind λjG=>(A.not x34).bind λcU=>(A.guard cU false (some x24) ay).bind λx38=>(A.guard cU false (A.aW x38) ay).bind λgH=>(A.guard cU false (A.aF 4 gH) ay).bind λeA=>(A.guard cU false ((A.deref eA r32.2).bind λAT=>A.ak 0 AT) ay).bind λi6=>(A.guard cU false (some (aj bw 4)) ay).bind λiy=>(A.guard cU false (A.lss i6 iy) ay).bind λgA=>(A.pick cU dD gA).bind λfO=>A.cond fO ((A.add (aj bw 6) (AV.ah 1)).bind λiz=>some (AX.normal,[(aj bw 0),(aj bw 1),(aj bw 2),(aj bw 3),(aj bw 4),(aj bw 5),iz],r32.2)) ((A.aC 0 9 jG).bind λko=>(yA [ko,gR.1] r32.2).bind λmQ=>((A.lb (aj bw 1)).bind λ_=>some (1)).bind λNi=>((A.lb (aj bw 1)).bind λqS=>A.ak Ni qS).bind λjy=>(A.eql .i jy (AV.ah 1)).bind λfP=>(A.cond fP ((A.aW x24).bind λiR=>(A.aF 7 iR).bind λmC=>((A.deref mC mQ.2).bind λtC=>A.ak 0 tC).bind λlY=>(Fp [mQ.1,lY] mQ.2).bind λBd=>(A.ext 0 Bd.1).bind λgb=>(A.ext 1 Bd.1).bind λji=>some ([(aj bw 0),(aj bw 1),(AV.lbx jG),gb],Bd.2)) (some ([(aj bw 0),(aj bw 1),(AV.lbx jG),mQ.1],mQ.2))).bind λdc=>(A.aW x24).bind λkJ=>(A.aF 4 kJ).bind λfL=>((A.deref fL dc.2).bind λya=>A.ak 0 ya).bind λnJ=>(A.gtr nJ (aj bw 4)).bind λkV=>((A.lb (aj dc.1 1)).bind λ_=>some (1)).bind λNj=>(A.guard kV false ((A.lb (aj dc.1 1)).bind λvH=>A.ak Nj vH) ay).bind λjK=>(A.guard kV false (A.eql .i jK (AV.ah 1)) ay).bind λiE=>(A.guard kV false (some iE) ay).bind λgM=>(A.guard gM true (some (aj dc.1 3)) ay).bind λp5=>(A.guard gM true (some (aj bw 2)) ay).bind λtT=>(A.guard gM true (A.gtr p5 tT) ay).bind λjL=>(A.guard kV false (A.pick gM jL aR) ay).bind λjq=>(A.pick kV dD jq).bind λfG=>((A.lb (aj dc.1 1)).bind λ_=>some (1)).bind λHH=>(A.guard fG false ((A.lb (aj dc.1 1)).bind λow=>A.ak HH ow) ay).bind λkW=>(A.guard fG false (A.neq .i kW (AV.ah 1)) ay).bind λlP=>(A.guard fG false (some lP) ay).bind λiA=>((A.lb (aj dc.1 2)).bind λ_=>some (7)).bind λNk=>(A.guard iA true ((A.lb (aj dc.1 2)).bind λnH=>A.ak Nk nH) ay).bind λsj=>(A.guard iA true (some (aj bw 5)) ay).bind λuN=>(A.guard iA true (A.gtr sj uN) ay).bind λjM=>(A.guard fG false (A.pick iA jM aR) ay).bind λkX=>(A.pick fG dD kX).bind λoG=>(A.cond oG ((A.aW x24).bind λBm=>(A.aF 3 Bm).bind λx90=>((A.deref x90 dc.2).bind λMK=>A.ak 0 MK).bind λru=>(A.aW x24).bind λx93=>(A.aF 4 x93).bind λuO=>((A.deref uO dc.2).bind λlK=>A.ak 0 lK).bind λx96=>((A.lb (aj dc.1 2)).bind λ_=>some (7)).bind λNl=>((A.lb (aj dc.1 2)).bind λtF=>A.ak Nl tF).bind λx99=>some ([(aj dc.1 0),(aj dc.1 1),(aj dc.1 3),ru,x96,x99],dc.2)) (some ([(aj dc.1 0),(aj dc.1 1),(aj bw 2),(aj bw 3),(aj bw 4),(aj bw 5)],dc.2))).bind λoD=>(A.add (aj bw 6) (AV.ah 1)).bind λqM=>some (AX.normal,[(aj oD.1 0),(aj oD.1 1),(aj oD.1 2),(aj oD.1 3),(aj oD.1 4),(aj oD.1 5),qM],oD.2))) (some (AX.exit 0,[(aj bw 0),(aj bw 1),(aj bw 2),(aj bw 3),(aj bw 4),(aj bw 5),(aj bw 6)],nh))) [(AV.lbx c1),(AV.lbx c9),bT,(AV.ah 0),(AV.ah (-1)),(AV.ah 0),(AV.ah 0)] σ).bind λzf=>bif zf.1==AX.exit 0 then(A.fin σ (AV.aL [(aj zf.2.1 2),(aj zf.2.1 3)]) zf.2.2)else none
noncomputable def DM:aq→Heap→aH:=A.wrap true [(.p GQ),(.p [(.s 10),.k,.k,.k])] .k (A.zi Yv)
noncomputable def Yo (a0 a1:AV) (σ:Heap):aH:=(A.cells 8 a0).bind λc1=>(A.aC 0 2 c1).bind λx2=>((A.deref a1 σ).bind λc3=>A.aC 0 2 c3).bind λx4=>(A.eql (.s [0,2]) x2 x4).bind λx5=>A.fin σ x5 σ
noncomputable def Io:aq→Heap→aH:=A.wrap true [] .k (A.dL Yo)
noncomputable def aah (a0:AV) (σ:Heap):aH:=(A.cells 7 a0).bind λc1=>(A.ak 2 c1).bind λx2=>(A.min x2 (AV.ah 36000000)).bind λx3=>((A.cell x3).bind λv=>some [v]).bind λc4=>(A.au 2 c4 c1).bind λc5=>(A.ak 3 c5).bind λx6=>(A.ak 2 c5).bind λx7=>(A.sub (AV.ah 36000000) x7).bind λx8=>(A.min x6 x8).bind λx9=>((A.cell x9).bind λv=>some [v]).bind λfQ=>(A.au 3 fQ c5).bind λiJ=>(A.ak 4 iJ).bind λdU=>(A.ak 2 iJ).bind λdY=>(A.sub (AV.ah 36000000) dY).bind λef=>(A.ak 3 iJ).bind λdV=>(A.sub ef dV).bind λdM=>(A.min dU dM).bind λdQ=>((A.cell dQ).bind λv=>some [v]).bind λkn=>(A.au 4 kn iJ).bind λiW=>(A.aC 0 7 iW).bind λeC=>(A.cells 7 eC).bind λlJ=>(A.au 0 lJ [(AV.ah 0),(AV.ah 0),(AV.ah 0),(AV.ah 0),(AV.ah 0),(AV.ah 0),AV.az]).bind λiM=>(A.aC 0 7 iM).bind λfT=>A.fin σ fT σ
noncomputable def yD:aq→Heap→aH:=A.wrap true [Gi] Gi (A.dP aah)
noncomputable def Sg (a0 a1 a2 a3 a4 a5:AV) (σ:Heap):aH:=(A.cells 11 a1).bind λc1=>((A.cells 2 a2).bind λcs=>some (AV.rp cs)).bind λx2=>(A.ak 2 c1).bind λx3=>(A.ak 5 c1).bind λx4=>(A.aC 6 2 c1).bind λx5=>((((A.cell a3).bind λv=>some [v]).bind λc6=>(A.au 0 c6 [(AV.ah 0),(AV.ah 0),(AV.ah 0),(AV.ah 0),(AV.ah 0),(AV.ah 0),AV.az]).bind λc7=>((A.cell a4).bind λv=>some [v]).bind λc8=>(A.au 1 c8 c7).bind λc9=>((A.cell a5).bind λv=>some [v]).bind λfQ=>(A.au 2 fQ c9).bind λiJ=>((A.cell x3).bind λv=>some [v]).bind λfE=>(A.au 3 fE iJ).bind λlI=>((A.cell x4).bind λv=>some [v]).bind λkP=>(A.au 4 kP lI).bind λmW=>(A.cells 2 x5).bind λnF=>(A.au 5 nF mW).bind λou=>some ou).bind λcs=>some (AV.agg cs)).bind λcN=>(A.cells 7 cN).bind λiW=>(A.au 0 iW [(AV.ah 0),(AV.ah 0),(AV.ah 0),(AV.ah 0),(AV.ah 0),(AV.ah 0),AV.az]).bind λjf=>(A.aW a0).bind λcO=>(A.aF 10 cO).bind λdW=>((A.deref dW σ).bind λfJ=>A.ak 0 fJ).bind λx24=>((A.deref x2 σ).bind λjx=>A.aC 0 2 jx).bind λiw=>(A.look (.s [0,2]) x24 iw (AV.agg [bB,(AV.ah 0),(AV.ah 0),(AV.ah 0),(AV.ah 0),aR,AV.az]) σ).bind λeE=>(A.cells 7 eE).bind λqR=>(A.au 0 qR [bB,(AV.ah 0),(AV.ah 0),(AV.ah 0),(AV.ah 0),aR,AV.az]).bind λuB=>(A.ak 1 uB).bind λdF=>(A.eql .i dF (AV.ah 1)).bind λx31=>(A.cond x31 ((A.ak 3 c1).bind λgu=>((A.cell gu).bind λv=>some [v]).bind λvF=>(A.au 4 vF jf).bind λjF=>(A.lss a4 a3).bind λiK=>(A.cond iK ((A.ak 4 c1).bind λx38=>((A.cell x38).bind λv=>some [v]).bind λoQ=>(A.au 4 oQ jF).bind λB5=>some ([(AV.lbx c1),(AV.lbx [(AV.ah 0),(AV.ah 0),(AV.ah 0),(AV.ah 0),(AV.ah 0),(AV.ah 0),AV.az]),(AV.lbx B5),(AV.lbx uB)],σ)) (some ([(AV.lbx c1),(AV.lbx [(AV.ah 0),(AV.ah 0),(AV.ah 0),(AV.ah 0),(AV.ah 0),(AV.ah 0),AV.az]),(AV.lbx jF),(AV.lbx uB)],σ))).bind λoW=>some ([(aj oW.1 0),(aj oW.1 1),(aj oW.1 2),(aj oW.1 3)],oW.2)) (some ([(AV.lbx c1),(AV.lbx [(AV.ah 0),(AV.ah 0),(AV.ah 0),(AV.ah 0),(AV.ah 0),(AV.ah 0),AV.az]),(AV.lbx jf),(AV.lbx uB)],σ))).bind λr32=>((A.lb (aj r32.1 0)).bind λ_=>some (10)).bind λp41=>((A.lb (aj r32.1 0)).bind λmI=>A.ak p41 mI).bind λiy=>(Kn (A.tab (λ_ _=>none) [(349,Io)]) [iy,(AV.fn 349 [x2])] r32.2).bind λfK=>(A.geq fK.1 (AV.ah 0)).bind λfO=>((A.lb (aj r32.1 0)).bind λ_=>some (10)).bind λNh=>(A.guard fO true ((A.lb (aj r32.1 0)).bind λjH=>A.ak Nh jH) ay).bind λjo=>(A.guard fO true (some fK.1) ay).bind λgB=>(A.guard fO true (A.bh 8 jo gB) ay).bind λoF=>(A.guard fO true (A.aF 5 oF) ay).bind λjy=>(A.guard fO true ((A.deref jy fK.2).bind λMI=>A.ak 0 MI) ay).bind λjX=>(A.pick fO jX aR).bind λiR=>(A.cond iR (((A.lb (aj r32.1 0)).bind λ_=>some (10)).bind λp56=>((A.lb (aj r32.1 0)).bind λkQ=>A.ak p56 kQ).bind λi7=>(A.bh 8 i7 fK.1).bind λgb=>(A.aF 6 gb).bind λji=>((A.deref ji fK.2).bind λqU=>A.ak 0 qU).bind λfL=>((A.lb (aj r32.1 0)).bind λ_=>some (10)).bind λp63=>((A.lb (aj r32.1 0)).bind λtD=>A.ak p63 tD).bind λkV=>(A.bh 8 kV fK.1).bind λjc=>(A.aF 7 jc).bind λmg=>((A.deref mg fK.2).bind λDp=>A.ak 0 Dp).bind λiE=>((A.lb (aj r32.1 2)).bind λ_=>some (3)).bind λp70=>(A.lb (aj r32.1 2)).bind λMJ=>((A.cell fL).bind λv=>some [v]).bind λnU=>(A.au p70 nU MJ).bind λlV=>((A.cell iE).bind λv=>some [v]).bind λXn=>(A.au 4 Xn lV).bind λtE=>some ([(aj r32.1 1),(AV.lbx tE),(aj r32.1 3)],fK.2)) (some ([(aj r32.1 1),(aj r32.1 2),(aj r32.1 3)],fK.2))).bind λzC=>((A.lb (aj zC.1 2)).bind λ_=>some (5)).bind λHH=>((A.lb (aj zC.1 2)).bind λow=>A.ak HH ow).bind λkW=>(A.cond kW (((A.lb (aj zC.1 1)).bind λ_=>some (4)).bind λp80=>(A.lb (aj zC.1 1)).bind λmJ=>((A.cell (AV.ah 0)).bind λv=>some [v]).bind λpW=>(A.au p80 pW mJ).bind λnH=>some ([(aj zC.1 0),(AV.lbx nH)],zC.2)) (some ([(aj zC.1 0),(aj zC.1 1)],zC.2))).bind λmB=>((A.lb (aj mB.1 1)).bind λkR=>A.aC 0 7 kR).bind λjM=>(yD [jM] mB.2).bind λBg=>(A.lb (aj mB.1 0)).bind λqW=>(A.cells 7 Bg.1).bind λvI=>(A.au 0 vI qW).bind λDs=>(A.aC 0 7 Ds).bind λx90=>A.fin σ x90 Bg.2
noncomputable def DP:aq→Heap→aH:=A.wrap false [] Gi (A.GU Sg)
noncomputable def Si (a0 a1 a2 a3 a4:AV) (σ:Heap):aH:=(A.aW a1).bind λx1=>(A.aF 0 x1).bind λx2=>((A.deref x2 σ).bind λc3=>A.ak 0 c3).bind λx4=>(A.bh 10 x4 a2).bind λx5=>(A.aW x5).bind λx6=>(A.aF 5 x6).bind λx7=>((A.deref x7 σ).bind λc8=>A.ak 0 c8).bind λx9=>(A.bh 11 x9 a3).bind λbT=>((A.deref bT σ).bind λiJ=>A.aC 0 11 iJ).bind λdU=>(A.cells 11 dU).bind λlI=>(A.au 0 lI [(AV.ah 0),bB,(AV.ah 0),(AV.ah 0),(AV.ah 0),(AV.ah 0),(AV.ah 0),AV.az,aR,(AV.ah 0),AV.az]).bind λkP=>(A.aW x5).bind λdV=>(A.aF 0 dV).bind λdM=>((A.deref dM σ).bind λou=>A.aC 0 3 ou).bind λcN=>(zK [cN,a4] σ).bind λmO=>(A.aW x5).bind λeC=>(A.aF 5 eC).bind λcO=>((A.deref cO mO.2).bind λiM=>A.ak 0 iM).bind λfT=>(A.ak 0 kP).bind λx24=>(A.quiet (Ox [fT,x24] mO.2) mO.2).bind λx25=>(A.ext 0 x25).bind λiw=>(A.ext 1 x25).bind λeE=>(A.bY iw).bind λx28=>(A.loop (λlE Bk=>(A.lss (aj lE 1) x28).bind λx32=>A.cond x32 ((A.bh 5 iw (aj lE 1)).bind λgu=>((A.deref gu Bk).bind λvF=>A.aC 0 5 vF).bind λiY=>(A.cells 5 iY).bind λjG=>(A.au 0 jG [(AV.ah 0),bB,(AV.ah 0),(AV.ah 0),(AV.ah 0)]).bind λij=>(A.aC 0 2 ij).bind λx38=>(A.fS (.s [0,2]) (AV.om (mO.2++[aS.map []]).length) x38 dD Bk).bind λuE=>(A.aW a0).bind λeA=>(A.aF 4 eA).bind λfF=>(A.aF 2 fF).bind λi6=>((A.deref i6 uE).bind λtu=>A.ak 0 tu).bind λgA=>(A.aC 0 2 ij).bind λfO=>(A.aC 2 2 ij).bind λiz=>(A.quiet (Fv [gA,fO,iz] uE) uE).bind λko=>(A.ext 0 ko).bind λjo=>(A.ext 1 ko).bind λgB=>(A.aC 0 2 ij).bind λoF=>(tV [x5,oF,mO.1] uE).bind λng=>(A.ext 0 ng.1).bind λfP=>(A.ext 1 ng.1).bind λjX=>(A.cells 9 fP).bind λzm=>(A.au 0 zm [(AV.ah 0),(AV.ah 0),(AV.ah 0),(AV.ah 0),(AV.ah 0),(AV.ah 0),AV.az,(AV.ah 0),aR]).bind λjV=>(A.guard jX true (A.ak 8 jV) ay).bind λgV=>(A.guard jX true (A.not gV) ay).bind λlY=>(A.pick jX lY aR).bind λi7=>(A.guard i7 true (A.ak 1 jV) ay).bind λgb=>(A.guard i7 true (some jo) ay).bind λji=>(A.guard i7 true (A.eql .i gb ji) ay).bind λkJ=>(A.pick i7 kJ aR).bind λfL=>A.cond fL ((A.aC 0 2 ij).bind λgL=>(A.aC 0 9 jV).bind λnJ=>(A.fS (.s [0,2]) (AV.om mO.2.length) gL nJ ng.2).bind λMR=>(A.add (aj lE 1) (AV.ah 1)).bind λjc=>some (AX.normal,[(aj lE 0),jc],MR)) ((A.cond jX ((A.aC 0 9 jV).bind λjK=>(yA [jK,mO.1] ng.2).bind λE8=>some ([(aj lE 0),(AV.lbx ij),E8.1],E8.2)) ((A.aW a0).bind λgM=>(A.aF 10 gM).bind λp5=>((A.deref p5 ng.2).bind λlV=>A.ak 0 lV).bind λjL=>(A.aC 0 2 ij).bind λjq=>(A.look (.s [0,2]) jL jq (AV.agg [bB,(AV.ah 0),(AV.ah 0),(AV.ah 0),(AV.ah 0),aR,AV.az]) ng.2).bind λfG=>((A.cells 7 fG).bind λG9=>A.ak 1 G9).bind λBl=>(A.neq .i Bl (AV.ah 1)).bind λkW=>(A.cond kW ((A.aC 0 2 ij).bind λiA=>(DM [a0,a1,iA,a4] ng.2).bind λuK=>(A.ext 0 uK.1).bind λp6=>(A.ext 1 uK.1).bind λsj=>some ([(aj lE 0),(AV.lbx ij),p6],uK.2)) (some ([(aj lE 0),(AV.lbx ij),(AV.ah 0)],ng.2))).bind λmB=>some ([(aj mB.1 0),(aj mB.1 1),(aj mB.1 2)],mB.2))).bind λgG=>((A.lb (aj gG.1 1)).bind λ_=>some (0)).bind λHI=>((A.lb (aj gG.1 1)).bind λDr=>A.aC HI 2 Dr).bind λkX=>((A.lb (aj gG.1 0)).bind λvI=>A.aC 0 11 vI).bind λjN=>((A.lb (aj gG.1 1)).bind λ_=>some (0)).bind λHU=>((A.lb (aj gG.1 1)).bind λqX=>A.aC HU 2 qX).bind λx91=>(A.quiet (DP [a0,jN,x91,(aj gG.1 2),jo,mO.1] gG.2) gG.2).bind λru=>(A.aW a1).bind λx93=>(A.aF 1 x93).bind λuO=>((A.deref uO gG.2).bind λlK=>A.ak 0 lK).bind λx96=>(((A.cells 7 ru).bind λvK=>(A.au 0 vK [(AV.ah 0),(AV.ah 0),(AV.ah 0),(AV.ah 0),(AV.ah 0),(AV.ah 0),AV.az,(AV.ah 0),aR]).bind λtF=>((A.cell x96).bind λv=>some [v]).bind λvL=>(A.au 7 vL tF).bind λqI=>((A.cell aR).bind λv=>some [v]).bind λsP=>(A.au 8 sP qI).bind λCS=>some CS).bind λcs=>some (AV.agg cs)).bind λzh=>(A.fS (.s [0,2]) (AV.om mO.2.length) kX zh gG.2).bind λGz=>(A.add (aj lE 1) (AV.ah 1)).bind λxS=>some (AX.normal,[(aj gG.1 0),xS],Gz))) (some (AX.exit 0,[(aj lE 0),(aj lE 1)],Bk))) [(AV.lbx kP),(AV.ah 0)] ((mO.2++[aS.map []])++[aS.map []])).bind λnR=>bif nR.1==AX.exit 0 then((A.aW x5).bind λoh=>(A.aF 9 oh).bind λGO=>((A.deref GO nR.2.2).bind λLW=>A.ak 0 LW).bind λDc=>(A.Eo Dc).bind λaq9=>A.CO (λBY atQ Wt=>A.wA (AV.op nR.2.2.length 0) atQ λx115 WC=>(A.ext 0 x115).bind λpP=>A.cond pP ((A.yO (AV.op nR.2.2.length 0) WC).bind λAP=>(A.ext 0 AP).bind λxT=>(A.cells 2 xT).bind λVQ=>(A.au 0 VQ [(AV.ah 0),bB]).bind λsQ=>(A.aC 0 2 sQ).bind λDd=>(tV [x5,Dd,mO.1] WC).bind λrU=>(A.ext 0 rU.1).bind λtc=>(A.ext 1 rU.1).bind λlB=>(A.cells 9 tc).bind λxK=>(A.au 0 xK [(AV.ah 0),(AV.ah 0),(AV.ah 0),(AV.ah 0),(AV.ah 0),(AV.ah 0),AV.az,(AV.ah 0),aR]).bind λur=>(A.not lB).bind λQO=>(A.guard QO false (some (AV.om (mO.2++[aS.map []]).length)) ay).bind λnT=>(A.guard QO false (A.aC 0 2 sQ) ay).bind λqP=>(A.guard QO false (A.look (.s [0,2]) nT qP aR rU.2) ay).bind λtd=>(A.pick QO dD td).bind λnC=>(A.guard nC false (some a0) ay).bind λoo=>(A.guard nC false (A.aW oo) ay).bind λWK=>(A.guard nC false (A.aF 10 WK) ay).bind λtg=>(A.guard nC false ((A.deref tg rU.2).bind λarU=>A.ak 0 arU) ay).bind λth=>(A.guard nC false (A.aC 0 2 sQ) ay).bind λpQ=>(A.guard nC false (A.look (.s [0,2]) th pQ (AV.agg [bB,(AV.ah 0),(AV.ah 0),(AV.ah 0),(AV.ah 0),aR,AV.az]) rU.2) ay).bind λDe=>(A.guard nC false ((A.cells 7 De).bind λAw=>A.ak 1 Aw) ay).bind λxV=>(A.guard nC false (A.neq .i xV (AV.ah 1)) ay).bind λAQ=>(A.pick nC dD AQ).bind λpR=>A.cond pR (Wt (AX.normal,[(aj BY 0)],rU.2)) ((A.ak 8 ur).bind λWL=>(A.not WL).bind λWM=>(A.cond WM ((A.aC 0 9 ur).bind λWN=>(A.quiet (yA [WN,mO.1] rU.2) rU.2).bind λatU=>((A.lb (aj BY 0)).bind λ_=>some (2)).bind λatx=>((A.lb (aj BY 0)).bind λLZ=>A.ak atx LZ).bind λx151=>((A.lb (aj BY 0)).bind λ_=>some (4)).bind λaty=>((A.lb (aj BY 0)).bind λxL=>A.ak aty xL).bind λWO=>((A.lb (aj BY 0)).bind λ_=>some (6)).bind λatz=>((A.lb (aj BY 0)).bind λarW=>A.aC atz 2 arW).bind λx157=>((((A.cell atU).bind λv=>some [v]).bind λwF=>(A.au 0 wF [(AV.ah 0),(AV.ah 0),(AV.ah 0),(AV.ah 0),(AV.ah 0),(AV.ah 0),AV.az]).bind λAz=>((A.cell mO.1).bind λv=>some [v]).bind λAA=>(A.au 2 AA Az).bind λL7=>((A.cell x151).bind λv=>some [v]).bind λVT=>(A.au 3 VT L7).bind λL8=>((A.cell WO).bind λv=>some [v]).bind λVU=>(A.au 4 VU L8).bind λL9=>(A.cells 2 x157).bind λGu=>(A.au 5 Gu L9).bind λC4=>some C4).bind λcs=>some (AV.agg cs)).bind λx168=>(A.cells 7 x168).bind λarY=>(A.au 0 arY [(AV.ah 0),(AV.ah 0),(AV.ah 0),(AV.ah 0),(AV.ah 0),(AV.ah 0),AV.az]).bind λarZ=>(A.aC 0 7 arZ).bind λat0=>(A.quiet (yD [at0] rU.2) rU.2).bind λWR=>(A.aW a1).bind λat1=>(A.aF 1 at1).bind λWS=>((A.deref WS rU.2).bind λMa=>A.ak 0 Ma).bind λWT=>(((A.cells 7 WR).bind λar8=>(A.au 0 ar8 [(AV.ah 0),(AV.ah 0),(AV.ah 0),(AV.ah 0),(AV.ah 0),(AV.ah 0),AV.az,(AV.ah 0),aR]).bind λVV=>((A.cell WT).bind λv=>some [v]).bind λar9=>(A.au 7 ar9 VV).bind λasa=>((A.cell dD).bind λv=>some [v]).bind λasb=>(A.au 8 asb asa).bind λasc=>some asc).bind λcs=>some (AV.agg cs)).bind λWU=>(A.cells 9 WU).bind λVW=>(A.au 0 VW ur).bind λasd=>some ([(aj BY 0),(AV.lbx sQ),(AV.lbx asd)],rU.2)) (some ([(aj BY 0),(AV.lbx sQ),(AV.lbx ur)],rU.2))).bind λQJ=>((A.lb (aj QJ.1 1)).bind λase=>A.aC 0 2 ase).bind λaua=>((A.lb (aj QJ.1 2)).bind λasg=>A.aC 0 9 asg).bind λauc=>(A.fS (.s [0,2]) (AV.om mO.2.length) aua auc QJ.2).bind λV6=>Wt (AX.normal,[(aj QJ.1 0)],V6))) (Wt (AX.exit 2,[(aj BY 0)],WC))) [(aj nR.2.1 0)] (nR.2.2++[aS.it [] aq9]) λJR=>bif JR.1==AX.exit 2 then(((((A.cell mO.1).bind λv=>some [v]).bind λGv=>(A.au 0 Gv [(AV.ah 0),(AV.ah 0),aR]).bind λGw=>((A.cell a4).bind λv=>some [v]).bind λGx=>(A.au 1 Gx Gw).bind λMb=>((A.cell aR).bind λv=>some [v]).bind λMc=>(A.au 2 Mc Mb).bind λMd=>some Md).bind λcs=>some (AV.agg cs)).bind λaug=>(A.aW x5).bind λauh=>(A.aF 0 auh).bind λWV=>(A.cells 3 aug).bind λasn=>(A.storeAt WV asn JR.2.2).bind λVX=>(A.aW x5).bind λWW=>(A.aF 6 WW).bind λWX=>((A.cell a3).bind λv=>some [v]).bind λaso=>(A.storeAt WX aso VX).bind λasp=>(A.aW x5).bind λaul=>(A.aF 9 aul).bind λaum=>((A.cell (AV.om mO.2.length)).bind λv=>some [v]).bind λasr=>(A.storeAt aum asr asp).bind λast=>(A.aW x5).bind λWY=>(A.aF 8 WY).bind λauo=>((A.cell (AV.ah (-1))).bind λv=>some [v]).bind λasv=>(A.storeAt auo asv ast).bind λVZ=>((A.lb (aj JR.2.1 0)).bind λ_=>some (9)).bind λatA=>((A.lb (aj JR.2.1 0)).bind λasw=>A.ak atA asw).bind λWZ=>(A.geq WZ (AV.ah 0)).bind λDi=>(A.guard Di true (some a3) ay).bind λW8=>(A.guard Di true (A.add W8 (AV.ah 1)) ay).bind λW9=>(A.guard Di true (some x5) ay).bind λXa=>(A.guard Di true (A.aW Xa) ay).bind λXb=>(A.guard Di true (A.aF 5 Xb) ay).bind λaus=>(A.guard Di true ((A.deref aus VZ).bind λV0=>A.ak 0 V0) ay).bind λXc=>(A.guard Di true (A.bY Xc) ay).bind λXd=>(A.guard Di true (A.lss W9 Xd) ay).bind λXe=>(A.pick Di Xe aR).bind λauu=>(A.cond auu (((A.lb (aj JR.2.1 0)).bind λ_=>some (9)).bind λatB=>((A.lb (aj JR.2.1 0)).bind λasB=>A.ak atB asB).bind λauw=>(A.add mO.1 auw).bind λXf=>(A.aW x5).bind λauy=>(A.aF 8 auy).bind λXg=>((A.cell Xf).bind λv=>some [v]).bind λV1=>(A.storeAt Xg V1 VZ).bind λasC=>some (([]:aq),asC)) (some (([]:aq),VZ))).bind λatH=>A.C6 σ (AV.aL []) atH.2)else none)else none
noncomputable def vZ:aq→Heap→aH:=A.wrap false [] .k (A.GS Si)
noncomputable def Ob (a0 a1:AV) (σ:Heap):aH:=(A.aW a0).bind λx1=>(A.aF 0 x1).bind λx2=>((A.deref x2 σ).bind λc3=>A.aC 0 4 c3).bind λx4=>(A.cells 4 x4).bind λc5=>(A.storeAt (AV.op σ.length 0) c5 (σ++[aS.box [AV.az,(AV.ah 0),(AV.ah 0),aR]])).bind λc6=>(A.aF 0 (AV.op σ.length 0)).bind λx7=>((A.deref x7 c6).bind λc8=>A.ak 0 c8).bind λx9=>(Ij [x9] c6).bind λmN=>(A.aF 0 (AV.op σ.length 0)).bind λdH=>((A.cell mN.1).bind λv=>some [v]).bind λfE=>(A.storeAt dH fE mN.2).bind λlI=>(A.loop (λX9 DG=>(A.aF 0 (AV.op σ.length 0)).bind λdQ=>((A.deref dQ DG).bind λkn=>A.ak 0 kn).bind λey=>(A.bY ey).bind λeC=>(A.loop (λv21 vU=>(A.lss (aj v21 3) eC).bind λx24=>A.cond x24 ((A.aF 0 (AV.op σ.length 0)).bind λx25=>((A.deref x25 vU).bind λgK=>A.ak 0 gK).bind λeE=>(A.bh 10 eE (aj v21 3)).bind λx28=>(DQ [x28] vU).bind λgR=>(A.geq gR.1 (AV.ah 0)).bind λdF=>(A.guard dF true (some gR.1) ay).bind λx31=>(A.guard dF true (some a1) ay).bind λx32=>(A.guard dF true (A.leq x31 x32) ay).bind λgu=>(A.pick dF gu aR).bind λx34=>(A.guard x34 true (some (aj v21 1)) ay).bind λiY=>(A.guard x34 true (A.lss iY (AV.ah 0)) ay).bind λiK=>(A.guard x34 true (some iK) ay).bind λcU=>(A.guard cU false (some gR.1) ay).bind λx38=>(A.guard cU false (some (aj v21 2)) ay).bind λgH=>(A.guard cU false (A.lss x38 gH) ay).bind λeA=>(A.guard x34 true (A.pick cU dD eA) ay).bind λfF=>(A.pick x34 fF aR).bind λi6=>(A.cond i6 (some ([(aj v21 0),(aj v21 3),gR.1],gR.2)) (some ([(aj v21 0),(aj v21 1),(aj v21 2)],gR.2))).bind λkI=>(A.add (aj v21 3) (AV.ah 1)).bind λgA=>some (AX.normal,[(aj kI.1 0),(aj kI.1 1),(aj kI.1 2),gA],kI.2)) (some (AX.exit 2,[(aj v21 0),(aj v21 1),(aj v21 2),(aj v21 3)],vU))) [(aj X9 0),(AV.ah (-1)),(AV.ah 0),(AV.ah 0)] DG).bind λoC=>bif oC.1==AX.exit 2 then((A.lss (aj oC.2.1 1) (AV.ah 0)).bind λiz=>A.cond iz (((A.deref (AV.op σ.length 0) oC.2.2).bind λjH=>A.aC 0 4 jH).bind λjo=>(A.lb (aj oC.2.1 0)).bind λAW=>(A.cells 4 jo).bind λDm=>(A.au 0 Dm AW).bind λqS=>some (AX.ret,[(AV.lbx qS)],oC.2.2)) ((A.aF 1 (AV.op σ.length 0)).bind λfP=>((A.deref fP oC.2.2).bind λqT=>A.ak 0 qT).bind λiR=>(A.add iR (AV.ah 1)).bind λmC=>(A.aF 1 (AV.op σ.length 0)).bind λgV=>((A.cell mC).bind λv=>some [v]).bind λkQ=>(A.storeAt gV kQ oC.2.2).bind λkG=>(A.aF 0 (AV.op σ.length 0)).bind λgb=>((A.deref gb kG).bind λDn=>A.ak 0 Dn).bind λkJ=>(A.bh 10 kJ (aj oC.2.1 1)).bind λfL=>(A.aF 6 fL).bind λgL=>((A.deref gL kG).bind λtD=>A.ak 0 tD).bind λkV=>(A.add kV (AV.ah 1)).bind λjc=>(vZ [a0,(AV.op σ.length 0),(aj oC.2.1 1),jc,(aj oC.2.1 2)] kG).bind λgG=>some (AX.normal,[(aj oC.2.1 0)],gG.2)))else none) [(AV.lbx [AV.az,(AV.ah 0),(AV.ah 0),aR])] lI).bind λDE=>bif DE.1==AX.ret then(((A.lb (aj DE.2.1 0)).bind λG8=>A.aC 0 4 G8).bind λiE=>some (iE,DE.2.2))else none
noncomputable def Is:aq→Heap→aH:=A.wrap false [] .k (A.dL Ob)
noncomputable def Yr (a0 a1:AV) (σ:Heap):aH:=(A.cells 10 a0).bind λc1=>(A.ak 3 c1).bind λx2=>(A.aF 2 a1).bind λx3=>((A.deref x3 σ).bind λc4=>A.ak 0 c4).bind λx5=>(A.eql .i x2 x5).bind λx6=>A.fin σ x6 σ
noncomputable def DK:aq→Heap→aH:=A.wrap true [(.a [.k,.k,.k,.k,.k,(.s 11),.k,.k,.k,.k])] .k (A.dL Yr)
noncomputable def Yt (a0 a1:AV) (σ:Heap):aH:=(A.cells 11 a0).bind λc1=>(A.ak 0 c1).bind λx2=>(A.aF 3 a1).bind λx3=>((A.deref x3 σ).bind λc4=>A.ak 0 c4).bind λx5=>(A.eql .i x2 x5).bind λx6=>A.fin σ x6 σ
noncomputable def DL:aq→Heap→aH:=A.wrap true [(.a xW)] .k (A.dL Yt)
noncomputable def RX (a0 a1 a2 a3:AV) (σ:Heap):aH:=(A.cells 5 a3).bind λc1=>(A.aW a2).bind λx2=>(A.aF 0 x2).bind λx3=>((A.deref x3 σ).bind λc4=>A.aC 0 3 c4).bind λx5=>(A.ak 0 c1).bind λx6=>(A.quiet (zK [x5,x6] σ) σ).bind λx7=>(A.aW a2).bind λx8=>(A.aF 9 x8).bind λx9=>((A.deref x9 (σ++[aS.map []])).bind λfQ=>A.ak 0 fQ).bind λdH=>(A.Eo dH).bind λasS=>A.CO (λtP Bj XW=>A.wA (AV.op (σ++[aS.map []]).length 0) Bj λdM nh=>(A.ext 0 dM).bind λcN=>A.cond cN ((A.yO (AV.op (σ++[aS.map []]).length 0) nh).bind λey=>(A.ext 0 ey).bind λeC=>(A.cells 2 eC).bind λlJ=>(A.au 0 lJ [(AV.ah 0),bB]).bind λiM=>(A.aC 0 2 iM).bind λfT=>(tV [a2,fT,x7] nh).bind λwU=>(A.ext 0 wU.1).bind λx25=>(A.ext 1 wU.1).bind λiw=>(A.cells 9 x25).bind λmH=>(A.au 0 mH [(AV.ah 0),(AV.ah 0),(AV.ah 0),(AV.ah 0),(AV.ah 0),(AV.ah 0),AV.az,(AV.ah 0),aR]).bind λqR=>(A.not iw).bind λx29=>(A.guard x29 false (some a0) ay).bind λdF=>(A.guard x29 false (A.aW dF) ay).bind λx31=>(A.guard x29 false (A.aF 10 x31) ay).bind λx32=>(A.guard x29 false ((A.deref x32 wU.2).bind λG4=>A.ak 0 G4) ay).bind λx34=>(A.guard x29 false (A.aC 0 2 iM) ay).bind λiY=>(A.guard x29 false (A.look (.s [0,2]) x34 iY (AV.agg [bB,(AV.ah 0),(AV.ah 0),(AV.ah 0),(AV.ah 0),aR,AV.az]) wU.2) ay).bind λiK=>(A.guard x29 false ((A.cells 7 iK).bind λij=>A.ak 1 ij) ay).bind λx38=>(A.guard x29 false (A.neq .i x38 (AV.ah 1)) ay).bind λgH=>(A.pick x29 dD gH).bind λeA=>A.cond eA (XW (AX.normal,[(aj tP 0)],wU.2)) ((A.aC 0 2 iM).bind λfF=>(A.aC 0 9 qR).bind λi6=>(A.quiet (yA [i6,x7] wU.2) wU.2).bind λiy=>((A.lb (aj tP 0)).bind λ_=>some (4)).bind λp44=>((A.lb (aj tP 0)).bind λAU=>A.ak p44 AU).bind λiz=>((((A.cell (AV.ah 1)).bind λv=>some [v]).bind λjH=>(A.au 0 jH [(AV.ah 0),AV.az]).bind λtv=>some tv).bind λcs=>some (AV.agg cs)).bind λgB=>((((A.cell iy).bind λv=>some [v]).bind λqS=>(A.au 0 qS [(AV.ah 0),(AV.ah 0),(AV.ah 0),(AV.ah 0),(AV.ah 0),(AV.ah 0),AV.az]).bind λAW=>((A.cell x7).bind λv=>some [v]).bind λMI=>(A.au 2 MI AW).bind λqT=>((A.cell iz).bind λv=>some [v]).bind λzm=>(A.au 4 zm qT).bind λjV=>(A.cells 2 gB).bind λtC=>(A.au 5 tC jV).bind λkQ=>some kQ).bind λcs=>some (AV.agg cs)).bind λi7=>(A.quiet (yD [i7] wU.2) wU.2).bind λgb=>(A.aW a1).bind λji=>(A.aF 1 ji).bind λkJ=>((A.deref kJ wU.2).bind λc62=>A.ak 0 c62).bind λgL=>(((A.cells 7 gb).bind λtD=>(A.au 0 tD [(AV.ah 0),(AV.ah 0),(AV.ah 0),(AV.ah 0),(AV.ah 0),(AV.ah 0),AV.az,(AV.ah 0),aR]).bind λvG=>((A.cell gL).bind λv=>some [v]).bind λG7=>(A.au 7 G7 vG).bind λvH=>((A.cell dD).bind λv=>some [v]).bind λDp=>(A.au 8 Dp vH).bind λpV=>some pV).bind λcs=>some (AV.agg cs)).bind λgM=>(A.fS (.s [0,2]) (AV.om σ.length) fF gM wU.2).bind λQZ=>XW (AX.normal,[(aj tP 0)],QZ))) (XW (AX.exit 0,[(aj tP 0)],nh))) [(AV.lbx c1)] ((σ++[aS.map []])++[aS.it [] asS]) λDF=>bif DF.1==AX.exit 0 then(((A.lb (aj DF.2.1 0)).bind λ_=>some (0)).bind λp73=>((A.lb (aj DF.2.1 0)).bind λXn=>A.ak p73 Xn).bind λfG=>((((A.cell x7).bind λv=>some [v]).bind λG9=>(A.au 0 G9 [(AV.ah 0),(AV.ah 0),aR]).bind λow=>((A.cell fG).bind λv=>some [v]).bind λqV=>(A.au 1 qV ow).bind λDq=>((A.cell aR).bind λv=>some [v]).bind λyc=>(A.au 2 yc Dq).bind λpW=>some pW).bind λcs=>some (AV.agg cs)).bind λp6=>(A.aW a2).bind λsj=>(A.aF 0 sj).bind λuN=>(A.cells 3 p6).bind λDr=>(A.storeAt uN Dr DF.2.2).bind λAY=>(A.aW a2).bind λoG=>(A.aF 6 oG).bind λjN=>((A.cell (AV.ah (-1))).bind λv=>some [v]).bind λqW=>(A.storeAt jN qW AY).bind λqX=>(A.aW a2).bind λx91=>(A.aF 8 x91).bind λru=>((A.cell (AV.ah (-1))).bind λv=>some [v]).bind λEU=>(A.storeAt ru EU qX).bind λvJ=>(A.aW a2).bind λx95=>(A.aF 9 x95).bind λx96=>((A.cell (AV.om σ.length)).bind λv=>some [v]).bind λvK=>(A.storeAt x96 vK vJ).bind λtF=>A.C6 σ (AV.aL []) tF)else none
noncomputable def Kt:aq→Heap→aH:=A.wrap false [] .k (A.zi RX)
noncomputable def YH (a0 a1:AV) (σ:Heap):aH:=(KE [a1] σ).bind λr1=>(A.not r1.1).bind λx2=>(uR [x2,(AV.ah 1)] r1.2).bind λr3=>(Ch [a0] r3.2).bind λr4=>(A.lss a1 r4.1).bind λx5=>(uR [x5,(AV.ah 7)] r4.2).bind λr6=>((((A.cell r3.1).bind λv=>some [v]).bind λc7=>(A.au 0 c7 [(AV.ah 0),(AV.ah 0)]).bind λc8=>((A.cell r6.1).bind λv=>some [v]).bind λc9=>(A.au 1 c9 c8).bind λfQ=>some fQ).bind λcs=>some (AV.sl 1 (gf 1 2 cs))).bind λdH=>(Bq [dH] r6.2).bind λjh=>A.fin σ jh.1 jh.2
noncomputable def Kx:aq→Heap→aH:=A.wrap true [(.p GQ)] .k (A.dL YH)
noncomputable def YB (a0 a1 a2 a3:AV) (σ:Heap):aH:=(A.cells 2 a2).bind λc1=>(A.aC 0 2 c1).bind λx2=>(DM [a0,a1,x2,a3] σ).bind λr3=>(A.ext 0 r3.1).bind λx4=>(A.ext 1 r3.1).bind λx5=>(A.aW a0).bind λx6=>(A.aF 10 x6).bind λx7=>((A.deref x7 r3.2).bind λc8=>A.ak 0 c8).bind λx9=>(A.aC 0 2 c1).bind λbT=>(A.look (.s [0,2]) x9 bT (AV.agg [bB,(AV.ah 0),(AV.ah 0),(AV.ah 0),(AV.ah 0),aR,AV.az]) r3.2).bind λdH=>((A.cells 7 dH).bind λfE=>A.ak 1 fE).bind λdY=>(A.neq .i dY (AV.ah 1)).bind λef=>A.cond ef (A.fin σ x4 r3.2) ((A.aW a1).bind λdV=>(A.aF 3 dV).bind λdM=>((A.deref dM r3.2).bind λou=>A.ak 0 ou).bind λcN=>A.cond cN (A.fin σ (AV.ah 0) r3.2) ((A.aW a1).bind λey=>(A.aF 2 ey).bind λeC=>((A.deref eC r3.2).bind λlJ=>A.ak 0 lJ).bind λdW=>(Fp [x4,dW] r3.2).bind λnX=>(A.ext 0 nX.1).bind λx24=>(A.ext 1 nX.1).bind λx25=>A.fin σ x24 nX.2))
noncomputable def Fj:aq→Heap→aH:=A.wrap true [(.p GQ),(.p [(.s 10),.k,.k,.k])] .k (A.zi YB)
noncomputable def N5 (a0 a1:AV) (σ:Heap):aH:=(Kx [a0,a1] σ).bind λr1=>(A.neq .i r1.1 (AV.ah 0)).bind λx2=>A.cond x2 (some ((AV.aL [AV.az,r1.1]),r1.2)) ((Is [a0,a1] r1.2).bind λr3=>(A.cells 4 r3.1).bind λc4=>(A.storeAt (AV.op r3.2.length 0) c4 (r3.2++[aS.box [AV.az,(AV.ah 0),(AV.ah 0),aR]])).bind λc5=>(A.aW a0).bind λx6=>(A.aF 9 x6).bind λx7=>((A.deref x7 c5).bind λc8=>A.ak 0 c8).bind λx9=>(A.bY x9).bind λbT=>(A.loop (λv11 mR=>(A.lss (aj v11 1) bT).bind λef=>A.cond ef ((A.bh 2 x9 (aj v11 1)).bind λdV=>((A.deref dV mR).bind λnF=>A.aC 0 2 nF).bind λdQ=>(A.cells 2 dQ).bind λkn=>(A.au 0 kn [(AV.ah 0),bB]).bind λiW=>(A.aC 0 2 iW).bind λeC=>(A.aC 0 2 iW).bind λcO=>(A.quiet (Fj [a0,(AV.op r3.2.length 0),cO,a1] mR) mR).bind λdW=>(((A.cells 2 eC).bind λfJ=>(A.au 0 fJ [(AV.ah 0),bB,(AV.ah 0)]).bind λiN=>((A.cell dW).bind λv=>some [v]).bind λjx=>(A.au 2 jx iN).bind λgK=>some gK).bind λcs=>some (AV.agg cs)).bind λeE=>(((A.cells 3 eE).bind λqR=>(A.au 0 qR [(AV.ah 0),bB,(AV.ah 0)]).bind λuB=>some uB).bind λcs=>some (AV.sl 3 (gf 3 1 cs))).bind λdF=>(A.append 3 (140737488355328 / 32) (aj v11 0) dF mR).bind λqZ=>(A.add (aj v11 1) (AV.ah 1)).bind λx32=>some (AX.normal,[qZ.1,x32],qZ.2)) (some (AX.exit 0,[(aj v11 0),(aj v11 1)],mR))) [AV.az,(AV.ah 0)] c5).bind λqA=>bif qA.1==AX.exit 0 then(some ((AV.aL [(aj qA.2.1 0),(AV.ah 0)]),qA.2.2))else none)
noncomputable def Iq:aq→Heap→aH:=A.wrap false [] .k (A.dL N5)
noncomputable def Ip (a0:AV) (σ:Heap):aH:=(A.aW a0).bind λx1=>(A.aF 11 x1).bind λx2=>((A.deref x2 σ).bind λc3=>A.ak 0 c3).bind λx4=>(NX [x4] σ).bind λr5=>some (r5.1,r5.2)
noncomputable def NZ:aq→Heap→aH:=A.wrap false [] .k (A.dP Ip)
noncomputable def SM (a0:AV) (σ:Heap):aH:=(A.cells 5 a0).bind λc1=>(A.ak 4 c1).bind λx2=>((A.lz (.s 3) Rz) [x2] σ).bind λr3=>((((A.cell r3.1).bind λv=>some [v]).bind λc4=>(A.au 4 c4 CR).bind λc5=>some c5).bind λcs=>some (AV.agg cs)).bind λx6=>(A.cells 5 x6).bind λc7=>(A.au 0 c7 CR).bind λc8=>(A.ak 1 c1).bind λx9=>((A.lz (.s 4) RG) [x9] r3.2).bind λmN=>((A.cell mN.1).bind λv=>some [v]).bind λiJ=>(A.au 1 iJ c8).bind λfE=>(A.ak 0 c1).bind λdY=>(A.bY dY).bind λef=>(A.loop (λdz jJ=>(A.lss (aj dz 3) ef).bind λcN=>A.cond cN ((A.bh 3 dY (aj dz 3)).bind λey=>((A.deref ey jJ).bind λjf=>A.aC 0 3 jf).bind λcO=>(A.cells 3 cO).bind λiM=>(A.au 0 iM [bB,(AV.ah 0),AV.az]).bind λfJ=>(A.ak 2 fJ).bind λx24=>(Il [x24] jJ).bind λnI=>((A.cell nI.1).bind λv=>some [v]).bind λgK=>(A.au 2 gK fJ).bind λmH=>(A.ak 2 mH).bind λx28=>(A.bY x28).bind λx29=>(A.loop (λv30 me=>(A.lss (aj v30 4) x29).bind λgu=>A.cond gu (((A.lb (aj v30 3)).bind λ_=>some (2)).bind λBa=>((A.lb (aj v30 3)).bind λjF=>A.ak Ba jF).bind λiK=>((A.lb (aj v30 3)).bind λ_=>some (2)).bind λDB=>((A.lb (aj v30 3)).bind λnG=>A.ak DB nG).bind λgH=>(A.bh 7 gH (aj v30 4)).bind λeA=>(A.aF 6 eA).bind λfF=>((A.deref fF me).bind λmI=>A.ak 0 mI).bind λiy=>(A.quiet ((A.lz (.s 3) Ff) [iy] me) me).bind λgA=>(A.bh 7 iK (aj v30 4)).bind λfO=>(A.aF 6 fO).bind λiz=>((A.cell gA).bind λv=>some [v]).bind λjH=>(A.storeAt iz jH me).bind λtv=>(A.add (aj v30 4) (AV.ah 1)).bind λgB=>some (AX.normal,[(aj v30 0),(aj v30 1),(aj v30 2),(aj v30 3),gB],tv)) (some (AX.exit 2,[(aj v30 0),(aj v30 1),(aj v30 2),(aj v30 3),(aj v30 4)],me))) [(aj dz 0),(aj dz 1),(aj dz 2),(AV.lbx mH),(AV.ah 0)] nI.2).bind λew=>bif ew.1==AX.exit 2 then(((A.lb (aj ew.2.1 2)).bind λ_=>some (0)).bind λHy=>((A.lb (aj ew.2.1 2)).bind λ_=>some (Hy)).bind λHz=>((A.lb (aj ew.2.1 2)).bind λqT=>A.ak Hz qT).bind λiR=>((A.lb (aj ew.2.1 3)).bind λjV=>A.aC 0 3 jV).bind λgV=>(((A.cells 3 gV).bind λkQ=>(A.au 0 kQ [bB,(AV.ah 0),AV.az]).bind λkG=>some kG).bind λcs=>some (AV.sl 3 (gf 3 1 cs))).bind λgb=>(A.append 3 (140737488355328 / 48) iR gb ew.2.2).bind λBe=>((A.lb (aj ew.2.1 2)).bind λ_=>some (0)).bind λHC=>((A.lb (aj ew.2.1 2)).bind λ_=>some (HC)).bind λHF=>(A.lb (aj ew.2.1 2)).bind λvG=>((A.cell Be.1).bind λv=>some [v]).bind λya=>(A.au HF ya vG).bind λtD=>(A.add (aj dz 3) (AV.ah 1)).bind λjc=>some (AX.normal,[(aj ew.2.1 0),(aj ew.2.1 1),(AV.lbx tD),jc],Be.2))else none) (some (AX.exit 0,[(aj dz 0),(aj dz 1),(aj dz 2),(aj dz 3)],jJ))) [(AV.lbx c1),(AV.lbx CR),(AV.lbx fE),(AV.ah 0)] mN.2).bind λgG=>bif gG.1==AX.exit 0 then(((A.lb (aj gG.2.1 0)).bind λ_=>some (2)).bind λp68=>((A.lb (aj gG.2.1 0)).bind λpV=>A.ak p68 pV).bind λgM=>(A.bY gM).bind λp5=>(A.loop (λv72 vX=>(A.lss (aj v72 3) p5).bind λfG=>A.cond fG ((A.bh 3 gM (aj v72 3)).bind λkq=>((A.deref kq vX).bind λow=>A.aC 0 3 ow).bind λkW=>(A.cells 3 kW).bind λDq=>(A.au 0 Dq [(AV.ah 0),bB,AV.az]).bind λyc=>(A.ak 2 yc).bind λtU=>((A.lz (.s 3) Ii) [tU] vX).bind λBf=>((A.cell Bf.1).bind λv=>some [v]).bind λmJ=>(A.au 2 mJ yc).bind λkR=>((A.lb (aj v72 2)).bind λ_=>some (2)).bind λHJ=>((A.lb (aj v72 2)).bind λAY=>A.ak HJ AY).bind λoG=>(A.aC 0 3 kR).bind λjN=>(((A.cells 3 jN).bind λqW=>(A.au 0 qW [(AV.ah 0),bB,AV.az]).bind λqX=>some qX).bind λcs=>some (AV.sl 3 (gf 3 1 cs))).bind λx91=>(A.append 3 (140737488355328 / 48) oG x91 Bf.2).bind λBi=>((A.lb (aj v72 2)).bind λ_=>some (2)).bind λHV=>(A.lb (aj v72 2)).bind λHe=>((A.cell Bi.1).bind λv=>some [v]).bind λvJ=>(A.au HV vJ He).bind λlK=>(A.add (aj v72 3) (AV.ah 1)).bind λBn=>some (AX.normal,[(aj v72 0),(aj v72 1),(AV.lbx lK),Bn],Bi.2)) (some (AX.exit 4,[(aj v72 0),(aj v72 1),(aj v72 2),(aj v72 3)],vX))) [(aj gG.2.1 0),(aj gG.2.1 1),(aj gG.2.1 2),(AV.ah 0)] gG.2.2).bind λCd=>bif Cd.1==AX.exit 4 then(((A.lb (aj Cd.2.1 0)).bind λ_=>some (3)).bind λp99=>((A.lb (aj Cd.2.1 0)).bind λqI=>A.ak p99 qI).bind λx101=>(A.bY x101).bind λx102=>(A.loop (λkj vw=>(A.lss (aj kj 2) x102).bind λqN=>A.cond qN ((A.bh 2 x101 (aj kj 2)).bind λoh=>((A.deref oh vw).bind λGn=>A.aC 0 2 Gn).bind λqO=>(A.cells 2 qO).bind λAs=>(A.au 0 As [(AV.ah 0),AV.az]).bind λpM=>(A.ak 1 pM).bind λx112=>(Fh [x112] vw).bind λlU=>((A.cell lU.1).bind λv=>some [v]).bind λGq=>(A.au 1 Gq pM).bind λxI=>(A.ak 1 xI).bind λAO=>(A.bY AO).bind λpP=>(A.loop (λeM iI=>(A.lss (aj eM 3) pP).bind λvA=>A.cond vA (((A.lb (aj eM 2)).bind λ_=>some (1)).bind λC8=>((A.lb (aj eM 2)).bind λn5=>A.ak C8 n5).bind λtc=>(A.bh 11 tc (aj eM 3)).bind λlB=>(A.aW lB).bind λvB=>(A.aF 10 vB).bind λvC=>((A.deref vC iI).bind λmF=>A.ak 0 mF).bind λnT=>(A.quiet ((A.lz (.s 8) Fg) [nT] iI) iI).bind λqP=>(A.aW lB).bind λtd=>(A.aF 6 td).bind λnC=>(A.aF 1 nC).bind λoo=>((A.deref oo iI).bind λn9=>A.ak 0 n9).bind λtg=>(A.quiet ((A.lz (.s 2) Fe) [tg] iI) iI).bind λoq=>(A.aW lB).bind λth=>(A.aF 10 th).bind λpQ=>((A.cell qP).bind λv=>some [v]).bind λAv=>(A.storeAt pQ Av iI).bind λAw=>(A.aW lB).bind λxV=>(A.aF 6 xV).bind λAQ=>(A.aF 1 AQ).bind λpR=>((A.cell oq).bind λv=>some [v]).bind λC2=>(A.storeAt pR C2 Aw).bind λC3=>(A.add (aj eM 3) (AV.ah 1)).bind λDg=>some (AX.normal,[(aj eM 0),(aj eM 1),(aj eM 2),Dg],C3)) (some (AX.exit 8,[(aj eM 0),(aj eM 1),(aj eM 2),(aj eM 3)],iI))) [(aj kj 0),(aj kj 1),(AV.lbx xI),(AV.ah 0)] lU.2).bind λkg=>bif kg.1==AX.exit 8 then(((A.lb (aj kg.2.1 1)).bind λ_=>some (3)).bind λGJ=>((A.lb (aj kg.2.1 1)).bind λAx=>A.ak GJ Ax).bind λx150=>((A.lb (aj kg.2.1 2)).bind λAy=>A.aC 0 2 Ay).bind λx152=>(((A.cells 2 x152).bind λxL=>(A.au 0 xL [(AV.ah 0),AV.az]).bind λGt=>some Gt).bind λcs=>some (AV.sl 2 (gf 2 1 cs))).bind λDh=>(A.append 2 (140737488355328 / 32) x150 Dh kg.2.2).bind λAN=>((A.lb (aj kg.2.1 1)).bind λ_=>some (3)).bind λGK=>(A.lb (aj kg.2.1 1)).bind λAA=>((A.cell AN.1).bind λv=>some [v]).bind λwF=>(A.au GK wF AA).bind λAz=>(A.add (aj kj 2) (AV.ah 1)).bind λGP=>some (AX.normal,[(aj kg.2.1 0),(AV.lbx Az),GP],AN.2))else none) (some (AX.exit 6,[(aj kj 0),(aj kj 1),(aj kj 2)],vw))) [(aj Cd.2.1 1),(aj Cd.2.1 2),(AV.ah 0)] Cd.2.2).bind λQK=>bif QK.1==AX.exit 6 then(((A.lb (aj QK.2.1 1)).bind λL8=>A.aC 0 5 L8).bind λWQ=>(A.lb (aj QK.2.1 0)).bind λC4=>(A.cells 5 WQ).bind λL9=>(A.au 0 L9 C4).bind λGu=>(A.aC 0 5 Gu).bind λx168=>A.fin σ x168 QK.2.2)else none)else none)else none
noncomputable def Ol:aq→Heap→aH:=A.wrap true [BO] (.a [(.e 3 [.k,.k,(.e 7 vD)]),(.s 4),(.e 3 [.k,.k,(.s 3)]),(.e 2 [.k,(.e 11 xW)]),(.s 3)]) (A.dP SM)
noncomputable def KW (a0:AV) (σ:Heap):aH:=(A.cells 5 a0).bind λc1=>(A.aC 0 5 c1).bind λx2=>(N8 [x2] σ).bind λr3=>(A.neq .i r3.1 (AV.ah 0)).bind λx4=>A.cond x4 (some ((AV.aL [AV.np,r3.1]),r3.2)) ((A.aC 0 5 c1).bind λx5=>(Ol [x5] r3.2).bind λr6=>(A.cells 5 r6.1).bind λc7=>(A.au 0 c7 c1).bind λc8=>(A.aC 0 5 c8).bind λx9=>(((A.cells 5 x9).bind λfQ=>(A.au 4 fQ [AV.az,(AV.ah 0),(AV.ah 0),aR,AV.az,AV.az,AV.az,AV.az,AV.az,AV.az,AV.nm,AV.az]).bind λiJ=>((A.cell (AV.om r6.2.length)).bind λv=>some [v]).bind λfE=>(A.au 10 fE iJ).bind λlI=>some lI).bind λcs=>some (AV.agg cs)).bind λef=>(A.cells 12 ef).bind λmW=>(A.aW (AV.op (r6.2++[aS.map []]).length 0)).bind λdM=>(A.aF 0 dM).bind λdQ=>(A.aF 2 dQ).bind λcN=>((A.cell (AV.ah 65535)).bind λv=>some [v]).bind λiW=>(A.storeAt cN iW ((r6.2++[aS.map []])++[aS.box mW])).bind λjf=>(A.aC 0 2 c8).bind λcO=>(Iw [cO] jf).bind λH6=>(A.ext 0 H6.1).bind λfT=>(A.ext 1 H6.1).bind λx24=>(A.aW (AV.op (r6.2++[aS.map []]).length 0)).bind λx25=>(A.aF 9 x25).bind λiw=>((A.cell fT).bind λv=>some [v]).bind λmH=>(A.storeAt iw mH H6.2).bind λqR=>(A.ak 0 c8).bind λx29=>(A.bY x29).bind λdF=>(A.loop (λv31 vV=>(A.lss (aj v31 1) dF).bind λx34=>A.cond x34 ((A.bh 3 x29 (aj v31 1)).bind λiY=>((A.deref iY vV).bind λjG=>A.aC 0 3 jG).bind λcU=>(A.cells 3 cU).bind λnG=>(A.au 0 nG [bB,(AV.ah 0),AV.az]).bind λoQ=>(A.ak 0 oQ).bind λeA=>(A.aC 0 3 oQ).bind λfF=>(A.fS .z (AV.om qR.length) eA fF vV).bind λMQ=>(A.add (aj v31 1) (AV.ah 1)).bind λiy=>some (AX.normal,[(aj v31 0),iy],MQ)) (some (AX.exit 0,[(aj v31 0),(aj v31 1)],vV))) [(AV.lbx c8),(AV.ah 0)] (qR++[aS.map []])).bind λfK=>bif fK.1==AX.exit 0 then(((A.lb (aj fK.2.1 0)).bind λ_=>some (0)).bind λp45=>((A.lb (aj fK.2.1 0)).bind λ_=>some ((p45+1))).bind λNh=>((A.lb (aj fK.2.1 0)).bind λjH=>A.ak Nh jH).bind λjo=>(A.bY jo).bind λgB=>(A.loop (λv50 wX=>(A.lss (aj v50 1) gB).bind λjX=>A.cond jX ((A.bh 4 jo (aj v50 1)).bind λiR=>((A.deref iR wX).bind λjV=>A.aC 0 4 jV).bind λgV=>(A.cells 4 gV).bind λkQ=>(A.au 0 kQ [(AV.ah 0),bB,(AV.ah 0),(AV.ah 0)]).bind λkG=>(A.ak 1 kG).bind λgb=>(A.look .z (AV.om qR.length) gb (AV.agg [bB,(AV.ah 0),AV.az]) wX).bind λji=>((A.cells 3 ji).bind λqU=>A.ak 2 qU).bind λfL=>(A.bY fL).bind λgL=>(A.loop (λv64 iX=>(A.lss (aj v64 2) gL).bind λmg=>A.cond mg ((A.bh 7 fL (aj v64 2)).bind λjK=>((A.deref jK iX).bind λpV=>A.aC 0 7 pV).bind λgM=>(A.cells 7 gM).bind λnU=>(A.au 0 nU [bB,(AV.ah 0),(AV.ah 0),(AV.ah 0),(AV.ah 0),aR,AV.az]).bind λlV=>(A.aW (AV.op (r6.2++[aS.map []]).length 0)).bind λjL=>(A.aF 10 jL).bind λjq=>((A.deref jq iX).bind λtE=>A.ak 0 tE).bind λkq=>((A.lb (aj v64 1)).bind λ_=>some (0)).bind λvR=>((A.lb (aj v64 1)).bind λqV=>A.ak vR qV).bind λlP=>(A.ak 0 lV).bind λiA=>((((A.cell lP).bind λv=>some [v]).bind λpW=>(A.au 0 pW [(AV.ah 0),bB]).bind λnH=>((A.cell iA).bind λv=>some [v]).bind λmJ=>(A.au 1 mJ nH).bind λkR=>some kR).bind λcs=>some (AV.agg cs)).bind λjM=>(A.aC 0 7 lV).bind λkX=>(A.fS (.s [0,2]) kq jM kX iX).bind λyh=>(A.add (aj v64 2) (AV.ah 1)).bind λjN=>some (AX.normal,[(aj v64 0),(aj v64 1),jN],yh)) (some (AX.exit 4,[(aj v64 0),(aj v64 1),(aj v64 2)],iX))) [(aj v50 0),(AV.lbx kG),(AV.ah 0)] wX).bind λBh=>bif Bh.1==AX.exit 4 then((A.add (aj v50 1) (AV.ah 1)).bind λx90=>some (AX.normal,[(aj Bh.2.1 0),x90],Bh.2.2))else none) (some (AX.exit 2,[(aj v50 0),(aj v50 1)],wX))) [(aj fK.2.1 0),(AV.ah 0)] fK.2.2).bind λCc=>bif Cc.1==AX.exit 2 then(((A.lb (aj Cc.2.1 0)).bind λ_=>some (4)).bind λp92=>((A.lb (aj Cc.2.1 0)).bind λEU=>A.ak p92 EU).bind λuO=>(A.bY uO).bind λx95=>(A.loop (λlN vY=>(A.lss (aj lN 1) x95).bind λx99=>A.cond x99 ((A.bh 3 uO (aj lN 1)).bind λqM=>((A.deref qM vY).bind λsP=>A.aC 0 3 sP).bind λx102=>(A.cells 3 x102).bind λAr=>(A.au 0 Ar [(AV.ah 0),(AV.ah 0),(AV.ah 0)]).bind λvk=>((A.lb (aj lN 0)).bind λCT=>A.aC 0 5 CT).bind λqN=>(A.ak 1 vk).bind λoh=>(DU [qN,oh] vY).bind λqL=>(A.ext 0 qL.1).bind λqO=>(A.ext 1 qL.1).bind λDc=>(A.cells 2 qO).bind λpM=>(A.au 0 pM [(AV.ah 0),AV.az]).bind λGp=>(A.aW (AV.op (r6.2++[aS.map []]).length 0)).bind λx113=>(A.aF 0 x113).bind λx114=>(A.aF 0 x114).bind λx115=>((A.deref x115 qL.2).bind λxJ=>A.ak 0 xJ).bind λpP=>(A.ak 0 vk).bind λAP=>(A.ak 2 vk).bind λxT=>(A.ak 1 Gp).bind λxU=>((((A.cell AP).bind λv=>some [v]).bind λsQ=>(A.au 3 sQ [(AV.ah 0),(AV.ah 0),aR,(AV.ah 0),(AV.ah 0),AV.az,(AV.ah 0),(AV.ah 0),(AV.ah 0),AV.nm]).bind λCU=>((A.cell xT).bind λv=>some [v]).bind λn5=>(A.au 4 n5 CU).bind λCV=>((A.cell xU).bind λv=>some [v]).bind λAu=>(A.au 5 Au CV).bind λxK=>((A.cell (AV.ah (-1))).bind λv=>some [v]).bind λur=>(A.au 6 ur xK).bind λmF=>((A.cell (AV.ah 65535)).bind λv=>some [v]).bind λCW=>(A.au 7 CW mF).bind λCX=>((A.cell (AV.ah (-1))).bind λv=>some [v]).bind λCY=>(A.au 8 CY CX).bind λCZ=>some CZ).bind λcs=>some (AV.agg cs)).bind λoo=>(((A.cells 10 oo).bind λn9=>(A.au 0 n9 [(AV.ah 0),(AV.ah 0),aR,(AV.ah 0),(AV.ah 0),AV.az,(AV.ah 0),(AV.ah 0),(AV.ah 0),AV.nm]).bind λC0=>some C0).bind λcs=>some (AV.sl 10 (gf 10 1 cs))).bind λoq=>(A.append 10 (140737488355328 / 96) pP oq qL.2).bind λAM=>(A.aW (AV.op (r6.2++[aS.map []]).length 0)).bind λpQ=>(A.aF 0 pQ).bind λDe=>(A.aF 0 De).bind λDf=>((A.cell AM.1).bind λv=>some [v]).bind λGs=>(A.storeAt Df Gs AM.2).bind λC1=>(A.add (aj lN 1) (AV.ah 1)).bind λpR=>some (AX.normal,[(aj lN 0),pR],C1)) (some (AX.exit 6,[(aj lN 0),(aj lN 1)],vY))) [(aj Cc.2.1 0),(AV.ah 0)] Cc.2.2).bind λafv=>bif afv.1==AX.exit 6 then(some ((AV.aL [(AV.op (r6.2++[aS.map []]).length 0),(AV.ah 0)]),afv.2.2))else none)else none)else none)
noncomputable def KT:aq→Heap→aH:=A.wrap true [BO] .k (A.dP KW)
noncomputable def Iu (a0 a1 a2:AV) (σ:Heap):aH:=((A.cells 5 a2).bind λcs=>some (AV.rp cs)).bind λx1=>(A.aF 1 x1).bind λx2=>((A.deref x2 σ).bind λc3=>A.ak 0 c3).bind λx4=>(A.eql .i x4 (AV.ah 8)).bind λx5=>A.cond x5 ((A.aW a1).bind λx6=>(A.aF 1 x6).bind λx7=>((A.deref x7 σ).bind λc8=>A.ak 0 c8).bind λx9=>(A.add x9 (AV.ah 1)).bind λbT=>(A.aW a1).bind λdH=>(A.aF 1 dH).bind λdU=>((A.cell bT).bind λv=>some [v]).bind λlI=>(A.storeAt dU lI σ).bind λkP=>(A.aF 4 x1).bind λdV=>((A.deref dV kP).bind λnF=>A.ak 0 nF).bind λdQ=>(A.aW a1).bind λcN=>(A.aF 2 cN).bind λey=>((A.cell dQ).bind λv=>some [v]).bind λjf=>(A.storeAt ey jf kP).bind λlJ=>some ((AV.ah 0),lJ)) ((A.eql .i x4 (AV.ah 9)).bind λdW=>A.cond dW ((A.aW a1).bind λfT=>(A.aF 1 fT).bind λx24=>((A.deref x24 σ).bind λjx=>A.ak 0 jx).bind λiw=>(A.add iw (AV.ah 1)).bind λeE=>(A.aW a1).bind λx28=>(A.aF 1 x28).bind λx29=>((A.cell eE).bind λv=>some [v]).bind λxZ=>(A.storeAt x29 xZ σ).bind λzl=>(A.aF 4 x1).bind λx32=>((A.deref x32 zl).bind λG4=>A.ak 0 G4).bind λx34=>(A.eql .i x34 (AV.ah 1)).bind λiY=>(A.aW a1).bind λiK=>(A.aF 3 iK).bind λcU=>((A.cell iY).bind λv=>some [v]).bind λnG=>(A.storeAt cU nG zl).bind λoQ=>some ((AV.ah 0),oQ)) ((A.aW a1).bind λeA=>(A.aF 0 eA).bind λfF=>((A.deref fF σ).bind λmI=>A.ak 0 mI).bind λiy=>(Km (A.tab (λ_ _=>none) [(352,DK),(354,DL)]) [iy,(AV.fn 352 [x1])] σ).bind λfK=>(A.aW a1).bind λfO=>(A.aF 0 fO).bind λiz=>((A.deref iz fK.2).bind λjH=>A.ak 0 jH).bind λjo=>(A.bh 10 jo fK.1).bind λgB=>(A.aF 1 x1).bind λoF=>((A.deref oF fK.2).bind λAW=>A.ak 0 AW).bind λfP=>(A.eql .i fP (AV.ah 1)).bind λjX=>A.cond jX ((A.aW gB).bind λiR=>(A.aF 6 iR).bind λmC=>((A.deref mC fK.2).bind λtC=>A.ak 0 tC).bind λlY=>(A.add lY (AV.ah 1)).bind λi7=>(A.aW gB).bind λgb=>(A.aF 5 gb).bind λji=>((A.deref ji fK.2).bind λqU=>A.ak 0 qU).bind λfL=>(A.bY fL).bind λgL=>(A.eql .i i7 gL).bind λnJ=>A.cond nJ (some ((AV.ah 8),fK.2)) ((A.aW a1).bind λkV=>(A.aF 1 kV).bind λjc=>((A.deref jc fK.2).bind λvH=>A.ak 0 vH).bind λjK=>(A.add jK (AV.ah 1)).bind λiE=>(A.aW a1).bind λgM=>(A.aF 1 gM).bind λp5=>((A.cell iE).bind λv=>some [v]).bind λlV=>(A.storeAt p5 lV fK.2).bind λMJ=>(A.geq i7 (AV.ah 0)).bind λjq=>(A.cond jq ((A.aF 0 x1).bind λkq=>((A.deref kq MJ).bind λow=>A.ak 0 ow).bind λkW=>(vZ [a0,a1,fK.1,i7,kW] MJ).bind λmB=>some (([]:aq),mB.2)) (some (([]:aq),MJ))).bind λr75=>some ((AV.ah 0),r75.2))) ((A.eql .i fP (AV.ah 2)).bind λiA=>A.cond iA ((A.aW gB).bind λtU=>(A.aF 6 tU).bind λp6=>((A.deref p6 fK.2).bind λmJ=>A.ak 0 mJ).bind λuN=>(A.sub uN (AV.ah 1)).bind λjM=>(A.lss jM (AV.ah 0)).bind λkX=>A.cond kX (some ((AV.ah 8),fK.2)) ((A.aW a1).bind λoG=>(A.aF 1 oG).bind λjN=>((A.deref jN fK.2).bind λqW=>A.ak 0 qW).bind λx90=>(A.add x90 (AV.ah 1)).bind λx91=>(A.aW a1).bind λru=>(A.aF 1 ru).bind λx93=>((A.cell x91).bind λv=>some [v]).bind λvJ=>(A.storeAt x93 vJ fK.2).bind λlK=>(A.geq jM (AV.ah 0)).bind λx96=>(A.cond x96 ((A.aF 0 x1).bind λx98=>((A.deref x98 lK).bind λvL=>A.ak 0 vL).bind λqM=>(vZ [a0,a1,fK.1,jM,qM] lK).bind λzf=>some (([]:aq),zf.2)) (some (([]:aq),lK))).bind λr97=>some ((AV.ah 0),r97.2))) ((A.eql .i fP (AV.ah 3)).bind λx102=>A.cond x102 ((A.aW gB).bind λzh=>(A.aF 5 zh).bind λx104=>((A.deref x104 fK.2).bind λCT=>A.ak 0 CT).bind λqN=>(Ko (A.tab (λ_ _=>none) [(352,DK),(354,DL)]) [qN,(AV.fn 354 [x1])] fK.2).bind λJQ=>(A.lss JQ.1 (AV.ah 0)).bind λGO=>A.cond GO (some ((AV.ah 8),JQ.2)) ((A.aW a1).bind λqO=>(A.aF 1 qO).bind λDc=>((A.deref Dc JQ.2).bind λpM=>A.ak 0 pM).bind λx112=>(A.add x112 (AV.ah 1)).bind λx113=>(A.aW a1).bind λx114=>(A.aF 1 x114).bind λx115=>((A.cell x113).bind λv=>some [v]).bind λxJ=>(A.storeAt x115 xJ JQ.2).bind λLX=>(A.geq JQ.1 (AV.ah 0)).bind λAP=>(A.cond AP ((A.aF 0 x1).bind λxU=>((A.deref xU LX).bind λsQ=>A.ak 0 sQ).bind λDd=>(vZ [a0,a1,fK.1,JQ.1,Dd] LX).bind λrU=>some (([]:aq),rU.2)) (some (([]:aq),LX))).bind λatC=>some ((AV.ah 0),atC.2))) ((A.eql .i fP (AV.ah 4)).bind λtc=>A.cond tc ((A.aW gB).bind λlB=>(A.aF 0 lB).bind λvB=>(A.aF 2 vB).bind λvC=>((A.deref vC fK.2).bind λmF=>A.ak 0 mF).bind λnT=>(A.guard nT false (some gB) ay).bind λqP=>(A.guard nT false (A.aW qP) ay).bind λtd=>(A.guard nT false (A.aF 6 td) ay).bind λnC=>(A.guard nT false ((A.deref nC fK.2).bind λarT=>A.ak 0 arT) ay).bind λWK=>(A.guard nT false (A.lss WK (AV.ah 0)) ay).bind λtg=>(A.pick nT dD tg).bind λoq=>A.cond oq (some ((AV.ah 10),fK.2)) ((A.aW gB).bind λth=>(A.aF 0 th).bind λpQ=>((A.deref pQ fK.2).bind λAv=>A.aC 0 3 Av).bind λDf=>(A.aF 0 x1).bind λxV=>((A.deref xV fK.2).bind λC1=>A.ak 0 C1).bind λpR=>(A.quiet (zK [Df,pR] fK.2) fK.2).bind λWL=>(A.aF 0 x1).bind λWM=>((A.deref WM fK.2).bind λarV=>A.ak 0 arV).bind λWN=>((((A.cell WL).bind λv=>some [v]).bind λVR=>(A.au 0 VR [(AV.ah 0),(AV.ah 0),aR]).bind λAx=>((A.cell WN).bind λv=>some [v]).bind λLZ=>(A.au 1 LZ Ax).bind λAy=>((A.cell dD).bind λv=>some [v]).bind λVS=>(A.au 2 VS Ay).bind λxL=>some xL).bind λcs=>some (AV.agg cs)).bind λWO=>(A.aW gB).bind λDh=>(A.aF 0 Dh).bind λatV=>(A.cells 3 WO).bind λarX=>(A.storeAt atV arX fK.2).bind λwF=>(A.aW a1).bind λx159=>(A.aF 1 x159).bind λx160=>((A.deref x160 wF).bind λL7=>A.ak 0 L7).bind λatW=>(A.add atW (AV.ah 1)).bind λatX=>(A.aW a1).bind λWQ=>(A.aF 1 WQ).bind λatY=>((A.cell atX).bind λv=>some [v]).bind λGu=>(A.storeAt atY Gu wF).bind λC4=>(A.geq (AV.ah (-1)) (AV.ah 0)).bind λx168=>(A.cond x168 ((A.aF 0 x1).bind λatZ=>((A.deref atZ C4).bind λar0=>A.ak 0 ar0).bind λWR=>(vZ [a0,a1,fK.1,(AV.ah (-1)),WR] C4).bind λatE=>some (([]:aq),atE.2)) (some (([]:aq),C4))).bind λatD=>some ((AV.ah 0),atD.2))) ((A.eql .i fP (AV.ah 5)).bind λWS=>A.cond WS ((A.aW gB).bind λat2=>(A.aF 0 at2).bind λWT=>(A.aF 2 WT).bind λat3=>((A.deref at3 fK.2).bind λVV=>A.ak 0 VV).bind λat4=>(A.not at4).bind λat5=>A.cond at5 (some ((AV.ah 10),fK.2)) ((A.aW gB).bind λat6=>(A.aF 0 at6).bind λat7=>(A.aF 0 at7).bind λWU=>((A.deref WU fK.2).bind λVW=>A.ak 0 VW).bind λat8=>(A.aF 0 x1).bind λat9=>((A.deref at9 fK.2).bind λasf=>A.ak 0 asf).bind λaub=>((((A.cell at8).bind λv=>some [v]).bind λash=>(A.au 0 ash [(AV.ah 0),(AV.ah 0),aR]).bind λasi=>((A.cell aub).bind λv=>some [v]).bind λasj=>(A.au 1 asj asi).bind λGv=>((A.cell aR).bind λv=>some [v]).bind λGw=>(A.au 2 Gw Gv).bind λGx=>some Gx).bind λcs=>some (AV.agg cs)).bind λaud=>(A.aW gB).bind λaue=>(A.aF 0 aue).bind λauf=>(A.cells 3 aud).bind λasl=>(A.storeAt auf asl fK.2).bind λae1=>(A.aW a1).bind λWV=>(A.aF 1 WV).bind λaui=>((A.deref aui ae1).bind λVX=>A.ak 0 VX).bind λWW=>(A.add WW (AV.ah 1)).bind λWX=>(A.aW a1).bind λauj=>(A.aF 1 auj).bind λauk=>((A.cell WX).bind λv=>some [v]).bind λasq=>(A.storeAt auk asq ae1).bind λVY=>(A.geq (AV.ah (-1)) (AV.ah 0)).bind λaun=>(A.cond aun ((A.aF 0 x1).bind λWY=>((A.deref WY VY).bind λasu=>A.ak 0 asu).bind λaup=>(vZ [a0,a1,fK.1,(AV.ah (-1)),aup] VY).bind λatG=>some (([]:aq),atG.2)) (some (([]:aq),VY))).bind λatF=>some ((AV.ah 0),atF.2))) ((A.eql .i fP (AV.ah 6)).bind λauq=>A.cond auq ((A.aW gB).bind λaur=>(A.aF 6 aur).bind λWZ=>((A.deref WZ fK.2).bind λasx=>A.ak 0 asx).bind λW8=>(A.lss W8 (AV.ah 0)).bind λW9=>A.cond W9 (some ((AV.ah 10),fK.2)) ((A.aW a1).bind λXa=>(A.aF 1 Xa).bind λXb=>((A.deref Xb fK.2).bind λasy=>A.ak 0 asy).bind λaut=>(A.add aut (AV.ah 1)).bind λXc=>(A.aW a1).bind λXd=>(A.aF 1 Xd).bind λXe=>((A.cell Xc).bind λv=>some [v]).bind λasz=>(A.storeAt Xe asz fK.2).bind λae2=>((A.deref x1 ae2).bind λasA=>A.aC 0 5 asA).bind λauv=>(Kt [a0,a1,gB,auv] ae2).bind λatI=>some ((AV.ah 0),atI.2))) ((A.eql .i fP (AV.ah 7)).bind λXf=>(A.cond Xf ((A.aF 4 x1).bind λXg=>((A.deref Xg fK.2).bind λV1=>A.ak 0 V1).bind λauz=>(A.aW gB).bind λauA=>(A.aF 7 auA).bind λauB=>((A.cell auz).bind λv=>some [v]).bind λasD=>(A.storeAt auB asD fK.2).bind λasE=>some (([]:aq),asE)) (some (([]:aq),fK.2))).bind λafw=>(A.aW a1).bind λauC=>(A.aF 1 auC).bind λauD=>((A.deref auD afw.2).bind λasF=>A.ak 0 asF).bind λauE=>(A.add auE (AV.ah 1)).bind λauF=>(A.aW a1).bind λauG=>(A.aF 1 auG).bind λauH=>((A.cell auF).bind λv=>some [v]).bind λasG=>(A.storeAt auH asG afw.2).bind λV2=>(A.geq (AV.ah (-1)) (AV.ah 0)).bind λauI=>(A.cond auI ((A.aF 0 x1).bind λauJ=>((A.deref auJ V2).bind λasH=>A.ak 0 asH).bind λauK=>(vZ [a0,a1,fK.1,(AV.ah (-1)),auK] V2).bind λatK=>some (([]:aq),atK.2)) (some (([]:aq),V2))).bind λatJ=>some ((AV.ah 0),atJ.2)))))))))
noncomputable def Ky:aq→Heap→aH:=A.wrap false [] .k (A.nE Iu)
noncomputable def Og (a0 a1:AV) (σ:Heap):aH:=(A.cells 5 a1).bind λc1=>(A.aW a0).bind λx2=>(A.aF 11 x2).bind λx3=>((A.deref x3 σ).bind λc4=>A.ak 0 c4).bind λx5=>(A.bY x5).bind λx6=>(A.eql .i x6 (AV.ah 5000)).bind λx7=>(A.quiet (uR [x7,(AV.ah 2)] σ) σ).bind λx8=>(A.aC 0 5 c1).bind λx9=>(A.quiet (N2 [x9] σ) σ).bind λbT=>(A.ak 0 c1).bind λdH=>(A.quiet (KE [dH] σ) σ).bind λdU=>(A.not dU).bind λdY=>(A.quiet (uR [dY,(AV.ah 1)] σ) σ).bind λef=>(A.ak 0 c1).bind λdV=>(A.quiet (Ch [a0] σ) σ).bind λdM=>(A.lss dV dM).bind λdQ=>(A.quiet (uR [dQ,(AV.ah 7)] σ) σ).bind λcN=>((((A.cell x8).bind λv=>some [v]).bind λiW=>(A.au 0 iW [(AV.ah 0),(AV.ah 0),(AV.ah 0),(AV.ah 0)]).bind λjf=>((A.cell bT).bind λv=>some [v]).bind λlJ=>(A.au 1 lJ jf).bind λiM=>((A.cell ef).bind λv=>some [v]).bind λfJ=>(A.au 2 fJ iM).bind λiN=>((A.cell cN).bind λv=>some [v]).bind λjx=>(A.au 3 jx iN).bind λgK=>some gK).bind λcs=>some (AV.sl 1 (gf 1 4 cs))).bind λeE=>(A.quiet (Bq [eE] σ) σ).bind λx28=>(A.aW a0).bind λx29=>(A.aF 4 x29).bind λdF=>((A.deref dF σ).bind λzl=>A.aC 0 5 zl).bind λx32=>(A.aC 0 5 c1).bind λgu=>(A.quiet (N3 [x32,gu] σ) σ).bind λx34=>((((A.cell x28).bind λv=>some [v]).bind λjF=>(A.au 0 jF [(AV.ah 0),(AV.ah 0)]).bind λjG=>((A.cell x34).bind λv=>some [v]).bind λij=>(A.au 1 ij jG).bind λnG=>some nG).bind λcs=>some (AV.sl 1 (gf 1 2 cs))).bind λgH=>(A.quiet (Bq [gH] σ) σ).bind λeA=>(A.neq .i eA (AV.ah 0)).bind λfF=>A.cond fF (some (eA,σ)) ((A.ak 0 c1).bind λi6=>(Is [a0,i6] σ).bind λkI=>(A.cells 4 kI.1).bind λG5=>(A.storeAt (AV.op kI.2.length 0) G5 (kI.2++[aS.box [AV.az,(AV.ah 0),(AV.ah 0),aR]])).bind λAU=>(A.aC 0 5 c1).bind λiz=>(Ky [a0,(AV.op kI.2.length 0),iz] AU).bind λrq=>(A.neq .i rq.1 (AV.ah 0)).bind λjo=>A.cond jo (some (rq.1,rq.2)) (((A.deref (AV.op kI.2.length 0) rq.2).bind λDm=>A.aC 0 4 Dm).bind λoF=>(A.aW a0).bind λjy=>(A.aF 0 jy).bind λfP=>(A.cells 4 oF).bind λqT=>(A.storeAt fP qT rq.2).bind λzm=>(A.aW a0).bind λmC=>(A.aF 11 mC).bind λgV=>((A.deref gV zm).bind λkQ=>A.ak 0 kQ).bind λi7=>(A.aC 0 5 c1).bind λgb=>(((A.cells 5 gb).bind λDn=>(A.au 0 Dn [(AV.ah 0),(AV.ah 0),(AV.ah 0),(AV.ah 0),(AV.ah 0)]).bind λqU=>some qU).bind λcs=>some (AV.sl 5 (gf 5 1 cs))).bind λfL=>(A.append 5 (140737488355328 / 40) i7 fL zm).bind λE7=>(A.aW a0).bind λnJ=>(A.aF 11 nJ).bind λkV=>((A.cell E7.1).bind λv=>some [v]).bind λG7=>(A.storeAt kV G7 E7.2).bind λvH=>some ((AV.ah 0),vH)))
noncomputable def Fm:aq→Heap→aH:=A.wrap false [] .k (A.dL Og)
end
section
set_option maxRecDepth 100000
noncomputable def SY (a0 a1:AV) (σ:Heap):aH:=(A.bY a0).bind λx1=>(A.loop (λv2 s3=>(A.lss (aj v2 2) x1).bind λx5=>A.cond x5 ((A.bh 3 a0 (aj v2 2)).bind λx6=>((A.deref x6 s3).bind λc7=>A.aC 0 3 c7).bind λx8=>(A.cells 3 x8).bind λc9=>(A.au 0 c9 [bB,(AV.ah 0),AV.az]).bind λfQ=>(A.ak 0 fQ).bind λdH=>(A.eql .z dH a1).bind λdU=>A.cond dU ((A.aC 0 3 fQ).bind λdY=>(A.lb (aj v2 0)).bind λnF=>(A.cells 3 dY).bind λkP=>(A.au 0 kP nF).bind λmW=>some (AX.ret,[(AV.lbx mW),dD,(aj v2 2)],s3)) ((A.add (aj v2 2) (AV.ah 1)).bind λdQ=>some (AX.normal,[(aj v2 0),(aj v2 1),dQ],s3))) (some (AX.exit 0,[(aj v2 0),(aj v2 1),(aj v2 2)],s3))) [(AV.lbx [bB,(AV.ah 0),AV.az]),aR,(AV.ah 0)] σ).bind λHZ=>bif HZ.1==AX.exit 0 then((A.lb (aj HZ.2.1 0)).bind λlJ=>(A.cells 3 (AV.agg [bB,(AV.ah 0),AV.az])).bind λiW=>(A.au 0 iW lJ).bind λjf=>(A.aC 0 3 jf).bind λdW=>A.fin σ (AV.aL [dW,aR]) HZ.2.2)else bif HZ.1==AX.ret then(((A.lb (aj HZ.2.1 0)).bind λiN=>A.aC 0 3 iN).bind λfT=>A.fin σ (AV.aL [fT,(aj HZ.2.1 1)]) HZ.2.2)else none
noncomputable def SP:aq→Heap→aH:=A.wrap true [(.s 3)] (.t [(.a [.k,.k,(.e 7 vD)]),.k]) (A.dL SY)
noncomputable def Ub (a0 a1:AV) (σ:Heap):aH:=(A.cells 2 a0).bind λc1=>(A.ak 1 c1).bind λx2=>(A.bY x2).bind λx3=>(A.loop (λv4 s5=>(A.lss (aj v4 1) x3).bind λx7=>A.cond x7 ((A.bh 4 x2 (aj v4 1)).bind λx8=>((A.deref x8 s5).bind λc9=>A.aC 0 4 c9).bind λbT=>(A.cells 4 bT).bind λiJ=>(A.au 0 iJ [(AV.ah 0),bB,(AV.ah 0),(AV.ah 0)]).bind λfE=>(A.ak 0 fE).bind λdY=>(A.eql .i dY a1).bind λef=>A.cond ef (some (AX.ret,[(aj v4 1),(aj v4 1)],s5)) ((A.add (aj v4 1) (AV.ah 1)).bind λdV=>some (AX.normal,[(aj v4 0),dV],s5))) (some (AX.exit 0,[(aj v4 0),(aj v4 1)],s5))) [(AV.ah 0),(AV.ah 0)] σ).bind λNn=>bif Nn.1==AX.exit 0 then(A.fin σ (AV.ah (-1)) Nn.2.2)else bif Nn.1==AX.ret then(A.fin σ (aj Nn.2.1 0) Nn.2.2)else none
noncomputable def T5:aq→Heap→aH:=A.wrap true [(.a [(.s 3),(.s 4)])] .k (A.dL Ub)
noncomputable def TI (a0 a1:AV) (σ:Heap):aH:=(A.cells 3 a0).bind λc1=>(A.ak 2 c1).bind λx2=>(A.bY x2).bind λx3=>(A.loop (λv4 s5=>(A.lss (aj v4 2) x3).bind λx7=>A.cond x7 ((A.bh 7 x2 (aj v4 2)).bind λx8=>((A.deref x8 s5).bind λc9=>A.aC 0 7 c9).bind λbT=>(A.cells 7 bT).bind λiJ=>(A.au 0 iJ [bB,(AV.ah 0),(AV.ah 0),(AV.ah 0),(AV.ah 0),aR,AV.az]).bind λfE=>(A.ak 0 fE).bind λdY=>(A.eql .z dY a1).bind λef=>A.cond ef ((A.aC 0 7 fE).bind λdV=>(A.lb (aj v4 0)).bind λkn=>(A.cells 7 dV).bind λnF=>(A.au 0 nF kn).bind λou=>some (AX.ret,[(AV.lbx ou),dD,(aj v4 2)],s5)) ((A.add (aj v4 2) (AV.ah 1)).bind λey=>some (AX.normal,[(aj v4 0),(aj v4 1),ey],s5))) (some (AX.exit 0,[(aj v4 0),(aj v4 1),(aj v4 2)],s5))) [(AV.lbx [bB,(AV.ah 0),(AV.ah 0),(AV.ah 0),(AV.ah 0),aR,AV.az]),aR,(AV.ah 0)] σ).bind λtN=>bif tN.1==AX.exit 0 then((A.lb (aj tN.2.1 0)).bind λfJ=>(A.cells 7 (AV.agg [bB,(AV.ah 0),(AV.ah 0),(AV.ah 0),(AV.ah 0),aR,AV.az])).bind λlJ=>(A.au 0 lJ fJ).bind λiM=>(A.aC 0 7 iM).bind λx24=>A.fin σ (AV.aL [x24,aR]) tN.2.2)else bif tN.1==AX.ret then(((A.lb (aj tN.2.1 0)).bind λgK=>A.aC 0 7 gK).bind λx25=>A.fin σ (AV.aL [x25,(aj tN.2.1 1)]) tN.2.2)else none
noncomputable def Tz:aq→Heap→aH:=A.wrap true [(.a [.k,.k,(.s 7)])] (.t [(.a vD),.k]) (A.dL TI)
noncomputable def SX (a0 a1:AV) (σ:Heap):aH:=(A.cells 2 a0).bind λc1=>(A.cells 2 a1).bind λc2=>(A.aC 0 2 c1).bind λx3=>(A.ak 0 c2).bind λx4=>(T5 [x3,x4] σ).bind λr5=>(A.lss r5.1 (AV.ah 0)).bind λx6=>A.cond x6 ((A.cells 7 (AV.agg [bB,(AV.ah 0),(AV.ah 0),(AV.ah 0),(AV.ah 0),aR,AV.az])).bind λc7=>(A.au 0 c7 [bB,(AV.ah 0),(AV.ah 0),(AV.ah 0),(AV.ah 0),aR,AV.az]).bind λc8=>(A.aC 0 7 c8).bind λx9=>A.fin σ (AV.aL [x9,aR]) r5.2) ((A.ak 0 c1).bind λbT=>(A.ak 1 c1).bind λdH=>(A.bh 4 dH r5.1).bind λdU=>(A.aF 1 dU).bind λdY=>((A.deref dY r5.2).bind λkP=>A.ak 0 kP).bind λdV=>(A.quiet (SP [bT,dV] r5.2) r5.2).bind λdM=>(A.ext 0 dM).bind λdQ=>(A.ext 1 dM).bind λcN=>(A.cells 3 dQ).bind λiW=>(A.au 0 iW [bB,(AV.ah 0),AV.az]).bind λjf=>(A.aC 0 3 jf).bind λcO=>(A.ak 1 c2).bind λdW=>(Tz [cO,dW] r5.2).bind λnX=>(A.ext 0 nX.1).bind λx24=>(A.ext 1 nX.1).bind λx25=>(A.cells 7 x24).bind λgK=>(A.au 0 gK [bB,(AV.ah 0),(AV.ah 0),(AV.ah 0),(AV.ah 0),aR,AV.az]).bind λmH=>(A.aC 0 7 mH).bind λx28=>A.fin σ (AV.aL [x28,x25]) nX.2)
noncomputable def KG:aq→Heap→aH:=A.wrap true [(.a [(.s 3),(.s 4)])] (.t [(.a vD),.k]) (A.dL SX)
end
def Mx(a b:Nat):Nat:=(a*b*2+1*65535) / (65535*2)
def IN:aq→Heap→aH:=A.dL λa b σ=>match a,b with
 |.int .i64 x,.int .i64 y=>if 0≤x∧x≤65535∧0≤y∧y≤65535 then some (.aL [.int .i64 (Mx x.toNat y.toNat:Nat),.int .i64 0],σ)else none
 |_,_=>none
section
set_option maxRecDepth 100000
noncomputable def RT (a0 a1 a2:AV) (σ:Heap):aH:=(A.cells 5 a0).bind λc1=>(A.aC 0 5 c1).bind λx2=>(KT [x2] σ).bind λr3=>(A.ext 0 r3.1).bind λx4=>(A.ext 1 r3.1).bind λx5=>(A.neq .i x5 (AV.ah 0)).bind λx6=>(A.guard x6 false (some x4) ay).bind λx7=>(A.guard x6 false (A.eql .p x7 AV.np) ay).bind λx8=>(A.pick x6 dD x8).bind λx9=>A.cond x9 ((A.neq .i x5 (AV.ah 0)).bind λbT=>(A.guard bT true (some x4) ay).bind λdH=>(A.guard bT true (A.eql .p dH AV.np) ay).bind λdU=>(A.pick bT dU aR).bind λdY=>A.fin σ dY r3.2) ((A.bY a1).bind λef=>(A.loop (λdz jJ=>(A.lss (aj dz 1) ef).bind λcN=>A.cond cN ((A.bh 5 a1 (aj dz 1)).bind λey=>((A.deref ey jJ).bind λjf=>A.aC 0 5 jf).bind λcO=>(A.cells 5 cO).bind λiM=>(A.au 0 iM [(AV.ah 0),(AV.ah 0),(AV.ah 0),(AV.ah 0),(AV.ah 0)]).bind λfJ=>(A.ak 1 fJ).bind λx24=>(A.neq .i x24 (AV.ah 8)).bind λx25=>(A.guard x25 true (A.ak 1 fJ) ay).bind λiw=>(A.guard x25 true (A.neq .i iw (AV.ah 9)) ay).bind λeE=>(A.pick x25 eE aR).bind λx28=>(A.cond x28 ((A.aC 0 5 fJ).bind λdF=>(Fm [x4,dF] jJ).bind λqZ=>some ([(aj dz 0)],qZ.2)) (some ([(aj dz 0)],jJ))).bind λgR=>(A.add (aj dz 1) (AV.ah 1)).bind λx32=>some (AX.normal,[(aj gR.1 0),x32],gR.2)) (some (AX.exit 0,[(aj dz 0),(aj dz 1)],jJ))) [(AV.lbx c1),(AV.ah 0)] r3.2).bind λqA=>bif qA.1==AX.exit 0 then((Ch [x4] qA.2.2).bind λmP=>(Iq [x4,mP.1] mP.2).bind λRm=>(A.ext 0 Rm.1).bind λiK=>(A.ext 1 Rm.1).bind λcU=>(A.neq .i cU (AV.ah 0)).bind λx38=>(A.guard x38 false (some x4) ay).bind λgH=>(A.guard x38 false (some mP.1) ay).bind λeA=>(A.guard x38 false (some a2) ay).bind λfF=>(A.guard x38 false ((((A.cell (AV.ah 8)).bind λv=>some [v]).bind λmI=>(A.au 1 mI [(AV.ah 0),(AV.ah 0),(AV.ah 0),(AV.ah 0),(AV.ah 0)]).bind λtu=>((A.cell eA).bind λv=>some [v]).bind λG5=>(A.au 0 G5 tu).bind λAU=>((A.cell fF).bind λv=>some [v]).bind λG6=>(A.au 4 G6 AU).bind λjH=>some jH).bind λcs=>some (AV.agg cs)) ay).bind λjo=>(A.guard x38 false (Fm [gH,jo] Rm.2) (some (AV.aL [],Rm.2))).bind λX3=>(A.guard x38 false (A.neq .i X3.1 (AV.ah 0)) ay).bind λoF=>(A.pick x38 dD oF).bind λjy=>A.cond jy ((A.eql .i cU (AV.ah 0)).bind λfP=>A.fin σ fP X3.2) ((Iq [x4,mP.1] X3.2).bind λdc=>(A.ext 0 dc.1).bind λiR=>(A.ext 1 dc.1).bind λmC=>(A.neq .i mC (AV.ah 0)).bind λgV=>(A.guard gV false (some iR) ay).bind λlY=>(A.guard gV false (A.bY lY) ay).bind λi7=>(A.guard gV false (some iK) ay).bind λgb=>(A.guard gV false (A.bY gb) ay).bind λji=>(A.guard gV false (A.neq .i i7 ji) ay).bind λkJ=>(A.pick gV dD kJ).bind λfL=>(A.guard fL false (some x4) ay).bind λgL=>(A.guard fL false (some mP.1) ay).bind λnJ=>(A.guard fL false ((((A.cell (AV.ah 9)).bind λv=>some [v]).bind λvG=>(A.au 1 vG [(AV.ah 0),(AV.ah 0),(AV.ah 0),(AV.ah 0),(AV.ah 0)]).bind λG7=>((A.cell nJ).bind λv=>some [v]).bind λvH=>(A.au 0 vH G7).bind λDp=>((A.cell (AV.ah 1)).bind λv=>some [v]).bind λpV=>(A.au 4 pV Dp).bind λG8=>some G8).bind λcs=>some (AV.agg cs)) ay).bind λp5=>(A.guard fL false (Fm [gL,p5] dc.2) (some (AV.aL [],dc.2))).bind λDF=>(A.guard fL false (A.neq .i DF.1 (AV.ah 0)) ay).bind λjL=>(A.pick fL dD jL).bind λjq=>A.cond jq ((A.eql .i mC (AV.ah 0)).bind λfG=>(A.guard fG true (some x4) ay).bind λkq=>(A.guard fG true (NZ [kq] DF.2) (some (AV.aL [],DF.2))).bind λr77=>(A.guard fG true (A.bY r77.1) ay).bind λkW=>(A.guard fG true (A.eql .i kW (AV.ah 5000)) ay).bind λlP=>(A.pick fG lP aR).bind λiA=>A.fin σ iA r77.2) ((Iq [x4,mP.1] DF.2).bind λuK=>(A.ext 0 uK.1).bind λp6=>(A.ext 1 uK.1).bind λsj=>(A.neq .i sj (AV.ah 0)).bind λuN=>(A.guard uN false (some p6) ay).bind λjM=>(A.guard uN false (A.bY jM) ay).bind λkX=>(A.guard uN false (some iK) ay).bind λoG=>(A.guard uN false (A.bY oG) ay).bind λjN=>(A.guard uN false (A.neq .i kX jN) ay).bind λBm=>(A.pick uN dD Bm).bind λx90=>A.cond x90 (A.fin σ aR uK.2) ((A.bY iK).bind λx91=>(A.loop (λgn Ia=>(A.lss (aj gn 2) x91).bind λx95=>A.cond x95 ((A.bh 3 iK (aj gn 2)).bind λx96=>((A.deref x96 Ia).bind λvK=>A.aC 0 3 vK).bind λx98=>(A.cells 3 x98).bind λvL=>(A.au 0 vL [(AV.ah 0),bB,(AV.ah 0)]).bind λqI=>(A.ak 2 qI).bind λx101=>((A.lb (aj gn 0)).bind λ_=>some (0)).bind λWx=>((A.lb (aj gn 0)).bind λAr=>A.aC Wx 2 Ar).bind λx104=>(A.aC 0 2 qI).bind λxS=>(KG [x104,xS] Ia).bind λnR=>(A.ext 0 nR.1).bind λoh=>(A.ext 1 nR.1).bind λGO=>(A.cells 7 oh).bind λLW=>(A.au 0 LW [bB,(AV.ah 0),(AV.ah 0),(AV.ah 0),(AV.ah 0),aR,AV.az]).bind λAs=>(A.ak 1 As).bind λWJ=>(A.eql .i WJ (AV.ah 1)).bind λx112=>A.cond x112 ((IN [x101,a2] nR.2).bind λlU=>(A.ext 0 lU.1).bind λx114=>(A.ext 1 lU.1).bind λx115=>(A.bh 3 p6 (aj gn 2)).bind λAO=>(A.aF 2 AO).bind λpP=>((A.deref pP lU.2).bind λLY=>A.ak 0 LY).bind λxT=>(A.neq .i xT (AV.ah 0)).bind λxU=>A.cond xU (some (AX.ret,[(aj gn 0),aR,(aj gn 2)],lU.2)) ((A.bh 3 iR (aj gn 2)).bind λvA=>(A.aF 2 vA).bind λDd=>((A.deref Dd lU.2).bind λn5=>A.ak 0 n5).bind λtc=>(A.neq .i tc x114).bind λlB=>A.cond lB (some (AX.ret,[(aj gn 0),aR,(aj gn 2)],lU.2)) ((A.add (aj gn 2) (AV.ah 1)).bind λvB=>some (AX.normal,[(aj gn 0),(aj gn 1),vB],lU.2)))) ((A.bh 3 p6 (aj gn 2)).bind λvC=>((A.deref vC nR.2).bind λmF=>A.aC 0 3 mF).bind λnT=>(A.aC 0 3 qI).bind λqP=>(A.neq (.s [0,2,0]) nT qP).bind λtd=>A.cond td (some (AX.ret,[(aj gn 0),aR,(aj gn 2)],nR.2)) ((A.bh 3 iR (aj gn 2)).bind λnC=>(A.aF 2 nC).bind λoo=>((A.deref oo nR.2).bind λn9=>A.ak 0 n9).bind λtg=>(A.neq .i tg x101).bind λoq=>A.cond oq (some (AX.ret,[(aj gn 0),aR,(aj gn 2)],nR.2)) ((A.add (aj gn 2) (AV.ah 1)).bind λth=>some (AX.normal,[(aj gn 0),(aj gn 1),th],nR.2))))) (some (AX.exit 2,[(aj gn 0),(aj gn 1),(aj gn 2)],Ia))) [(aj qA.2.1 0),aR,(AV.ah 0)] uK.2).bind λMv=>bif Mv.1==AX.exit 2 then(A.fin σ dD Mv.2.2)else bif Mv.1==AX.ret then(A.fin σ (aj Mv.2.1 1) Mv.2.2)else none))))else none)
noncomputable def Ym:aq→Heap→aH:=A.wrap true [BO,(.s 5)] .k (A.nE RT)
end
section
open Go.RowKit
theorem pH.same{P:Program}{nm:List Nat}{f:FuncId}{args:aq}{σ:Heap}{r:AV}(hc:∀us w,(callFunc f us).run P w=.ok (.enter f us) w)
  (h:∀(c:RC)(vs:Array Value)(w:World),aP c args vs.toList→Calls P f vs w λe w'=>∃v,e=.returned v∧Below w.heap.size w w'∧∀c',an c' r v):pH P nm f args σ r σ:=by
 refine .inl ⟨f,hc,λz vs e1 e2 hh ha=>(h _ vs z.w ha).mono ?_⟩;rintro e w' ⟨v,k1,k2,k3⟩;have ho:Out z z.w z.E:=⟨rfl,rfl,rfl,aQ _,λ_ _ _=>rfl,λi p hp=>.inr ⟨p,hp,rfl⟩,λi p hp=>⟨p,hp,.inl rfl⟩,e2,λp hp=>hh.lt hp⟩
 exact⟨v,z.E,k1,ho.grow k2,hh.mono (zT k2) rfl (λp hp=>k2.block _ (hh.lt hp)),k3 _⟩
theorem Qq{c:RC}{a:AV}{vs:Array Value}(h:aP c [a] vs.toList):∃v,vs=#[v]∧an c a v:=by simp only[aP]at h;obtain⟨v,vs',e,h1,e2⟩:=h;refine⟨v,?_,h1⟩;subst e2;cases vs;simp at e;simp [e]
theorem Qr{c:RC}{a b:AV}{vs:Array Value}(h:aP c [a,b] vs.toList):∃v u,vs=#[v,u]∧an c a v∧an c b u:=by simp only[aP]at h;obtain⟨v,vs',e,h1,u,vs2,e2,h2,e3⟩:=h;refine⟨v,u,?_,h1,h2⟩;subst e3;subst e2;cases vs;simp at e;simp [e]
theorem YF:Sound Tryz.prog aN 61 N9:=by
 intro args σ r σ' h;unfold N9 A.dL at h;split at h
 ·simp only at h;split at h
  ·simp only[Option.some.injEq,Prod.mk.injEq]at h;obtain⟨rfl,rfl⟩:=h;refine pH.same Tryz.call61 λc vs w hr=>?_
   obtain⟨v,u,rfl,h1,h2⟩:=Qr hr;simp only[an]at h1 h2;subst h1 h2;refine(Tryz.strings_Compare _ _ w).mono ?_;rintro e w' ⟨rfl,rfl⟩;exact⟨_,rfl,Below.refl _ _,λc'=>by simp [an]⟩
  ·cases h
 ·cases h
end
section
open Go.RowKit
set_option maxRecDepth 100000
theorem Br{P:Program}{nm:List Nat}{f:FuncId}{m0:aq→Heap→aH}(h0:Sound P nm f m0)(hc:∀us w,(callFunc f us).run P w=.ok (.enter f us) w)
  (hz:∀a cap w,Calls P f #[.slice a 0 cap] w λe w'=>∃q,e=.returned (.slice q 0 0)∧Below w.heap.size w w'):Sound P nm f (A.uc m0):=by
 intro args σ r σ' h;unfold A.uc at h;split at h
 ·simp only[Option.some.injEq,Prod.mk.injEq]at h;obtain⟨rfl,rfl⟩:=h;refine pH.same hc λc vs w hr=>?_
  obtain⟨v,rfl,h1⟩:=Qq hr;simp only[an]at h1;obtain⟨a,cap,rfl,_⟩:=h1;refine(hz _ _ w).mono ?_;rintro e w' ⟨q,rfl,hb⟩;exact⟨_,rfl,hb,λc'=>by simp [an]⟩
 ·simp only[Option.some.injEq,Prod.mk.injEq]at h;obtain⟨rfl,rfl⟩:=h;refine pH.same hc λc vs w hr=>?_
  obtain⟨v,rfl,h1⟩:=Qq hr;simp only[an]at h1;subst h1;refine(hz _ _ w).mono ?_;rintro e w' ⟨q,rfl,hb⟩;exact⟨_,rfl,hb,λc'=>by simp [an]⟩
 ·simp only[Option.some.injEq,Prod.mk.injEq]at h;obtain⟨rfl,rfl⟩:=h;refine pH.same hc λc vs w hr=>?_
  obtain⟨v,rfl,h1⟩:=Qq hr;simp only[an]at h1;obtain⟨a,rfl⟩:=h1;refine(hz _ _ w).mono ?_;rintro e w' ⟨q,rfl,hb⟩;exact⟨_,rfl,hb,λc'=>by simp [an]⟩
 ·simp only[Option.some.injEq,Prod.mk.injEq]at h;obtain⟨rfl,rfl⟩:=h;refine pH.same hc λc vs w hr=>?_
  obtain⟨v,rfl,h1⟩:=Qq hr;simp only[an]at h1;obtain⟨_,p,_,_,a,cap,rfl,_⟩:=h1;refine(hz _ _ w).mono ?_;rintro e w' ⟨q,rfl,hb⟩;exact⟨_,rfl,hb,λc'=>by simp [an]⟩
 ·exact h0 _ _ _ _ h
theorem qh{P:Program}{t e:TypeId}(ht:P.underlying t=some (.slice e))(a:Option Addr)(n m:Nat)(w:World):Sem.run P (binOp .eql t (.slice a n m) (.slice none 0 0)) w=.ok (.bool a.isNone) w:=by simp [binOp,show(Op.equal t (.slice a n m) (.slice none 0 0)).run P w=.ok a.isNone w from aeb w 9999 t a n m ht]
theorem aoE(a:Option Addr)(cap:Nat)(w:World):Calls Tryz.prog 97 #[.slice a 0 cap] w λe w'=>∃q,e=.returned (.slice q 0 0)∧Below w.heap.size w w':=by
 go_enter Tryz.func97,Tryz.ntmps97
 cases a
 ·go_wp2_with (simp only[qh (Tryz.underlying133),Option.isNone_none,Result.andThen_ok])
  go_ret
  exact⟨_,rfl,Below.refl _ _⟩
 ·go_wp2_with (simp only[qh (Tryz.underlying133),Option.isNone_some,Result.andThen_ok])
  go_ret
  exact⟨_,rfl,(Below.refl _ _).alloc (aQ _) _⟩
theorem amX(a:Option Addr)(cap:Nat)(w:World):Calls Tryz.prog 64 #[.slice a 0 cap] w λe w'=>∃q,e=.returned (.slice q 0 0)∧Below w.heap.size w w':=by
 go_enter Tryz.func64,Tryz.ntmps64
 cases a
 ·go_wp2_with (simp only[qh (Tryz.underlying130),Option.isNone_none,Result.andThen_ok])
  go_ret
  exact⟨_,rfl,Below.refl _ _⟩
 ·go_wp2_with (simp only[qh (Tryz.underlying130),Option.isNone_some,Result.andThen_ok])
  go_ret
  exact⟨_,rfl,(Below.refl _ _).alloc (aQ _) _⟩
theorem aqb(a:Option Addr)(cap:Nat)(w:World):Calls Tryz.prog 96 #[.slice a 0 cap] w λe w'=>∃q,e=.returned (.slice q 0 0)∧Below w.heap.size w w':=by
 go_enter Tryz.func96,Tryz.ntmps96
 cases a
 ·go_wp2_with (simp only[qh (Tryz.underlying68),Option.isNone_none,Result.andThen_ok])
  go_ret
  exact⟨_,rfl,Below.refl _ _⟩
 ·go_wp2_with (simp only[qh (Tryz.underlying68),Option.isNone_some,Result.andThen_ok])
  go_ret
  exact⟨_,rfl,(Below.refl _ _).alloc (aQ _) _⟩
theorem amY(a:Option Addr)(cap:Nat)(w:World):Calls Tryz.prog 94 #[.slice a 0 cap] w λe w'=>∃q,e=.returned (.slice q 0 0)∧Below w.heap.size w w':=by
 go_enter Tryz.func94,Tryz.ntmps94
 cases a
 ·go_wp2_with (simp only[qh (Tryz.underlying48),Option.isNone_none,Result.andThen_ok])
  go_ret
  exact⟨_,rfl,Below.refl _ _⟩
 ·go_wp2_with (simp only[qh (Tryz.underlying48),Option.isNone_some,Result.andThen_ok])
  go_ret
  exact⟨_,rfl,(Below.refl _ _).alloc (aQ _) _⟩
theorem amW(a:Option Addr)(cap:Nat)(w:World):Calls Tryz.prog 93 #[.slice a 0 cap] w λe w'=>∃q,e=.returned (.slice q 0 0)∧Below w.heap.size w w':=by
 go_enter Tryz.func93,Tryz.ntmps93
 cases a
 ·go_wp2_with (simp only[qh (Tryz.underlying99),Option.isNone_none,Result.andThen_ok])
  go_ret
  exact⟨_,rfl,Below.refl _ _⟩
 ·go_wp2_with (simp only[qh (Tryz.underlying99),Option.isNone_some,Result.andThen_ok])
  go_ret
  exact⟨_,rfl,(Below.refl _ _).alloc (aQ _) _⟩
theorem ai1(a:Option Addr)(cap:Nat)(w:World):Calls Tryz.prog 91 #[.slice a 0 cap] w λe w'=>∃q,e=.returned (.slice q 0 0)∧Below w.heap.size w w':=by
 go_enter Tryz.func91,Tryz.ntmps91
 cases a
 ·go_wp2_with (simp only[qh (Tryz.underlying28),Option.isNone_none,Result.andThen_ok])
  go_ret
  exact⟨_,rfl,Below.refl _ _⟩
 ·go_wp2_with (simp only[qh (Tryz.underlying28),Option.isNone_some,Result.andThen_ok])
  go_ret
  exact⟨_,rfl,(Below.refl _ _).alloc (aQ _) _⟩
theorem aoF(a:Option Addr)(cap:Nat)(w:World):Calls Tryz.prog 92 #[.slice a 0 cap] w λe w'=>∃q,e=.returned (.slice q 0 0)∧Below w.heap.size w w':=by
 go_enter Tryz.func92,Tryz.ntmps92
 cases a
 ·go_wp2_with (simp only[qh (Tryz.underlying23),Option.isNone_none,Result.andThen_ok])
  go_ret
  exact⟨_,rfl,Below.refl _ _⟩
 ·go_wp2_with (simp only[qh (Tryz.underlying23),Option.isNone_some,Result.andThen_ok])
  go_ret
  exact⟨_,rfl,(Below.refl _ _).alloc (aQ _) _⟩
theorem aj4(a:Option Addr)(cap:Nat)(w:World):Calls Tryz.prog 95 #[.slice a 0 cap] w λe w'=>∃q,e=.returned (.slice q 0 0)∧Below w.heap.size w w':=by
 go_enter Tryz.func95,Tryz.ntmps95
 cases a
 ·go_wp2_with (simp only[qh (Tryz.underlying40),Option.isNone_none,Result.andThen_ok])
  go_ret
  exact⟨_,rfl,Below.refl _ _⟩
 ·go_wp2_with (simp only[qh (Tryz.underlying40),Option.isNone_some,Result.andThen_ok])
  go_ret
  exact⟨_,rfl,(Below.refl _ _).alloc (aQ _) _⟩
theorem alB(a:Option Addr)(cap:Nat)(w:World):Calls Tryz.prog 49 #[.slice a 0 cap] w λe w'=>∃q,e=.returned (.slice q 0 0)∧Below w.heap.size w w':=by
 go_enter Tryz.func49,Tryz.ntmps49
 cases a
 ·go_wp2_with (simp only[qh (Tryz.underlying31),Option.isNone_none,Result.andThen_ok])
  go_ret
  exact⟨_,rfl,Below.refl _ _⟩
 ·go_wp2_with (simp only[qh (Tryz.underlying31),Option.isNone_some,Result.andThen_ok])
  go_ret
  exact⟨_,rfl,(Below.refl _ _).alloc (aQ _) _⟩
theorem amZ(a:Option Addr)(cap:Nat)(w:World):Calls Tryz.prog 104 #[.slice a 0 cap] w λe w'=>∃q,e=.returned (.slice q 0 0)∧Below w.heap.size w w':=by
 go_enter Tryz.func104,Tryz.ntmps104
 cases a
 ·go_wp2_with (simp only[qh (Tryz.underlying90),Option.isNone_none,Result.andThen_ok])
  go_ret
  exact⟨_,rfl,Below.refl _ _⟩
 ·go_wp2_with (simp only[qh (Tryz.underlying90),Option.isNone_some,Result.andThen_ok])
  go_ret
  exact⟨_,rfl,(Below.refl _ _).alloc (aQ _) _⟩
end
section
open Go.RowKit
theorem arC{c:RC}{a b d:AV}{vs:Array Value}(h:aP c [a,b,d] vs.toList):∃v u t,vs=#[v,u,t]∧an c a v∧an c b u∧an c d t:=by simp only[aP]at h;obtain⟨v,vs',e,h1,u,vs2,e2,h2,t,vs3,e3,h3,e4⟩:=h;refine⟨v,u,t,?_,h1,h2,h3⟩;subst e4;subst e3;subst e2;cases vs;simp at e;simp [e]
theorem aiM:Sound Tryz.prog aN 282 KH:=by
 intro args σ r σ' h;unfold KH A.dL at h;split at h
 ·simp only at h;split at h
  ·rename_i x y;split at h
   ·rename_i hb;simp only[Option.some.injEq,Prod.mk.injEq]at h;obtain⟨rfl,rfl⟩:=h;refine pH.same Tryz.call282 λc vs w hr=>?_
    obtain⟨v,u,rfl,h1,h2⟩:=Qr hr;simp only[an]at h1 h2;subst h1 h2;have hx:((x.toNat:Nat):Int)=x:=Int.toNat_of_nonneg hb.1;have hy:((y.toNat:Nat):Int)=y:=Int.toNat_of_nonneg hb.2.2.1;have:=Tryz.bits_Mul64 x.toNat y.toNat (by omega) (by omega) w;rw[hx,hy]at this;refine this.mono ?_;rintro e w' ⟨rfl,rfl⟩;exact⟨_,rfl,Below.refl _ _,λc'=>by simp [an,aP]⟩
   ·cases h
  ·cases h
 ·cases h
theorem alm(x y c:Nat)(hc:c≤1)(w:World):(callFunc 283 #[.int .u64 x,.int .u64 y,.int .u64 c]).run Tryz.prog w=
  .ok (.value (.tuple #[.int .u64 (((x+y+c) % 18446744073709551616:Nat):Int),.int .u64 (((x+y+c) / 18446744073709551616:Nat):Int)])) w:=by
 rw[run_callFunc_extern Tryz.func283 (by kernel_rfl) (by kernel_rfl) (by kernel_rfl) (e:=add64Entry) (by kernel_rfl),run_add64 x y c (by omega) (by omega) (by omega) (by omega)];simp only[Result.andThen];congr 5<;>omega
theorem aiL:Sound Tryz.prog aN 283 IB:=by
 intro args σ r σ' h;unfold IB A.nE at h;split at h
 ·simp only at h;split at h
  ·rename_i x y d;split at h
   ·rename_i hb;simp only[Option.some.injEq,Prod.mk.injEq]at h;obtain⟨rfl,rfl⟩:=h;refine .inr λz vs e1 e2 hh ha=>?_
    obtain⟨v,u,t,rfl,h1,h2,h3⟩:=arC ha;simp only[an]at h1 h2 h3;subst h1 h2 h3;have hx:((x.toNat:Nat):Int)=x:=Int.toNat_of_nonneg hb.1;have hy:((y.toNat:Nat):Int)=y:=Int.toNat_of_nonneg hb.2.2.1;have hd:((d.toNat:Nat):Int)=d:=Int.toNat_of_nonneg hb.2.2.2.2.1;have:=alm x.toNat y.toNat d.toNat (by omega) z.w;rw[hx,hy,hd]at this;exact⟨_,z.w,z.E,this,⟨rfl,rfl,rfl,aQ _,λ_ _ _=>rfl,λi p hp=>.inr ⟨p,hp,rfl⟩,λi p hp=>⟨p,hp,.inl rfl⟩,e2,λp hp=>hh.lt hp⟩,hh,by simp [an,aP]⟩
   ·cases h
  ·cases h
 ·cases h
end
section
open Go.RowKit
def Gr(w w':World):Prop:=Below w.heap.size w w'
theorem Gr.refl(w:World):Gr w w:=Below.refl _ _
theorem Gr.below{w w':World}(h:Gr w w'):Below w.heap.size w w':=h
theorem Gr.trans{a b c:World}(h:Gr a b)(k:Gr b c):Gr a c:=Below.trans h (Below.mono k (Below.size h))
theorem Gr.alloc{a b:World}(h:Gr a b)(o:Obj):Gr a (b.alloc o):=Below.alloc h (Below.size h) o
theorem Gr.drew{a b:World}(h:Gr a b):Gr a b.drew:=Below.drew h
theorem Gr.drewN{a b:World}(h:Gr a b)(n:Nat):Gr a (b.drewN n):=⟨h.os,h.tape,h.output,h.size,h.block⟩
theorem Gr.put{a b:World}{k o:Nat}(hp:a.heap.size≤k)(h:Gr a b)(u:Value):Gr a (b.setCell ⟨k,o,none⟩ u):=Below.setCell h hp u
theorem Gr.after{a b c:World}(k:Gr b c)(h:Gr a b):Gr a c:=h.trans k
theorem Gr.size{a b:World}(h:Gr a b):a.heap.size≤b.heap.size:=Below.size h
theorem Gr.cell{a b:World}(h:Gr a b){p:Addr}{v:Value}(hc:a.cell? p=some v):b.cell? p=some v:=by
 by_cases hp:p.block<a.heap.size
 ·rw[Below.cell h hp];exact hc
 ·have:a.heap[p.block]? =none:=Array.getElem?_eq_none (by omega);simp [World.cell?,this]at hc
theorem Gr.free{a b:World}(h:Gr a b){p:Addr}(hp:p.block<a.heap.size){x:Bool}(hc:a.frozen? p=x):b.frozen? p=x:=by rw[Below.frozen h hp];exact hc
theorem oH(w:World)(o:Obj):(w.alloc o).heap[w.heap.size]? =some o:=(MapKept.heap_alloc w o).1
theorem yL(w:World)(o:Obj)(n:Nat)(h:n=w.heap.size):(w.alloc o).heap[n]? =some o:=h▸oH w o
theorem yG(w:World)(o u:Obj)(n:Nat)(h:n<w.heap.size)(hu:w.heap[n]? =some u):(w.alloc o).heap[n]? =some u:=by rw[Below.heap_alloc w o n h];exact hu
theorem FY{k:IntKind}{a b:Int}(h:a=b):Ending.returned (.int k a)=.returned (.int k b):=by rw[h]
theorem U2{n:Int}(h:-9223372036854775808≤n∧n≤9223372036854775807):IntKind.i64.wrap n=n:=IntWalk.i64_in n h
abbrev au6(w:World)(b:Nat)(v0:Value):Prop:=(w.cell? ⟨b,0,none⟩=some v0)∧(w.frozen? ⟨b,0,none⟩=false)∧b<w.heap.size
abbrev au7(w:World)(b:Nat)(v0 v1:Value):Prop:=(w.cell? ⟨b,0,none⟩=some v0∧w.cell? ⟨b,1,none⟩=some v1)∧(w.frozen? ⟨b,0,none⟩=false∧w.frozen? ⟨b,1,none⟩=false)∧b<w.heap.size
abbrev fV(w:World)(b:Nat)(v0 v1 v2:Value):Prop:=(w.cell? ⟨b,0,none⟩=some v0∧w.cell? ⟨b,1,none⟩=some v1∧w.cell? ⟨b,2,none⟩=some v2)∧(w.frozen? ⟨b,0,none⟩=false∧w.frozen? ⟨b,1,none⟩=false∧w.frozen? ⟨b,2,none⟩=false)∧b<w.heap.size
theorem fV.mono{w w1:World}{b:Nat}{v0 v1 v2:Value}(k:fV w b v0 v1 v2)(h:Gr w w1):fV w1 b v0 v1 v2:=by obtain⟨⟨k0,k1,k2⟩,⟨f0,f1,f2⟩,hlt⟩:=k;exact⟨⟨h.cell k0,h.cell k1,h.cell k2⟩,⟨h.free (by exact hlt) f0,h.free (by exact hlt) f1,h.free (by exact hlt) f2⟩,vf hlt h.size⟩
theorem fV.of{w:World}{b:Nat}{v0 v1 v2:Value}{t:TypeId}(h:w.heap[b]? =some (.cells #[v0,v1,v2] t (0,0))):fV w b v0 v1 v2:=by have hlt:b<w.heap.size:=(xF.1 h).1;refine⟨⟨?_,?_,?_⟩,⟨?_,?_,?_⟩,hlt⟩<;>simp [World.cell?,World.frozen?,h]
abbrev au8(w:World)(b:Nat)(v0 v1 v2 v3:Value):Prop:=(w.cell? ⟨b,0,none⟩=some v0∧w.cell? ⟨b,1,none⟩=some v1∧w.cell? ⟨b,2,none⟩=some v2∧w.cell? ⟨b,3,none⟩=some v3)∧(w.frozen? ⟨b,0,none⟩=false∧w.frozen? ⟨b,1,none⟩=false∧w.frozen? ⟨b,2,none⟩=false∧w.frozen? ⟨b,3,none⟩=false)∧b<w.heap.size
abbrev au9(w:World)(b:Nat)(v0 v1 v2 v3 v4:Value):Prop:=(w.cell? ⟨b,0,none⟩=some v0∧w.cell? ⟨b,1,none⟩=some v1∧w.cell? ⟨b,2,none⟩=some v2∧w.cell? ⟨b,3,none⟩=some v3∧w.cell? ⟨b,4,none⟩=some v4)∧(w.frozen? ⟨b,0,none⟩=false∧w.frozen? ⟨b,1,none⟩=false∧w.frozen? ⟨b,2,none⟩=false∧w.frozen? ⟨b,3,none⟩=false∧w.frozen? ⟨b,4,none⟩=false)∧b<w.heap.size
abbrev ava(w:World)(b:Nat)(v0 v1 v2 v3 v4 v5:Value):Prop:=(w.cell? ⟨b,0,none⟩=some v0∧w.cell? ⟨b,1,none⟩=some v1∧w.cell? ⟨b,2,none⟩=some v2∧w.cell? ⟨b,3,none⟩=some v3∧w.cell? ⟨b,4,none⟩=some v4∧w.cell? ⟨b,5,none⟩=some v5)∧(w.frozen? ⟨b,0,none⟩=false∧w.frozen? ⟨b,1,none⟩=false∧w.frozen? ⟨b,2,none⟩=false∧w.frozen? ⟨b,3,none⟩=false∧w.frozen? ⟨b,4,none⟩=false∧w.frozen? ⟨b,5,none⟩=false)∧b<w.heap.size
abbrev avb(w:World)(b:Nat)(v0 v1 v2 v3 v4 v5 v6:Value):Prop:=(w.cell? ⟨b,0,none⟩=some v0∧w.cell? ⟨b,1,none⟩=some v1∧w.cell? ⟨b,2,none⟩=some v2∧w.cell? ⟨b,3,none⟩=some v3∧w.cell? ⟨b,4,none⟩=some v4∧w.cell? ⟨b,5,none⟩=some v5∧w.cell? ⟨b,6,none⟩=some v6)∧(w.frozen? ⟨b,0,none⟩=false∧w.frozen? ⟨b,1,none⟩=false∧w.frozen? ⟨b,2,none⟩=false∧w.frozen? ⟨b,3,none⟩=false∧w.frozen? ⟨b,4,none⟩=false∧w.frozen? ⟨b,5,none⟩=false∧w.frozen? ⟨b,6,none⟩=false)∧b<w.heap.size
abbrev avc(w:World)(b:Nat)(v0 v1 v2 v3 v4 v5 v6 v7:Value):Prop:=(w.cell? ⟨b,0,none⟩=some v0∧w.cell? ⟨b,1,none⟩=some v1∧w.cell? ⟨b,2,none⟩=some v2∧w.cell? ⟨b,3,none⟩=some v3∧w.cell? ⟨b,4,none⟩=some v4∧w.cell? ⟨b,5,none⟩=some v5∧w.cell? ⟨b,6,none⟩=some v6∧w.cell? ⟨b,7,none⟩=some v7)∧(w.frozen? ⟨b,0,none⟩=false∧w.frozen? ⟨b,1,none⟩=false∧w.frozen? ⟨b,2,none⟩=false∧w.frozen? ⟨b,3,none⟩=false∧w.frozen? ⟨b,4,none⟩=false∧w.frozen? ⟨b,5,none⟩=false∧w.frozen? ⟨b,6,none⟩=false∧w.frozen? ⟨b,7,none⟩=false)∧b<w.heap.size
abbrev avd(w:World)(b:Nat)(v0 v1 v2 v3 v4 v5 v6 v7 v8:Value):Prop:=(w.cell? ⟨b,0,none⟩=some v0∧w.cell? ⟨b,1,none⟩=some v1∧w.cell? ⟨b,2,none⟩=some v2∧w.cell? ⟨b,3,none⟩=some v3∧w.cell? ⟨b,4,none⟩=some v4∧w.cell? ⟨b,5,none⟩=some v5∧w.cell? ⟨b,6,none⟩=some v6∧w.cell? ⟨b,7,none⟩=some v7∧w.cell? ⟨b,8,none⟩=some v8)∧(w.frozen? ⟨b,0,none⟩=false∧w.frozen? ⟨b,1,none⟩=false∧w.frozen? ⟨b,2,none⟩=false∧w.frozen? ⟨b,3,none⟩=false∧w.frozen? ⟨b,4,none⟩=false∧w.frozen? ⟨b,5,none⟩=false∧w.frozen? ⟨b,6,none⟩=false∧w.frozen? ⟨b,7,none⟩=false∧w.frozen? ⟨b,8,none⟩=false)∧b<w.heap.size
abbrev auQ(w:World)(b:Nat)(v0 v1 v2 v3 v4 v5 v6 v7 v8 v9:Value):Prop:=(w.cell? ⟨b,0,none⟩=some v0∧w.cell? ⟨b,1,none⟩=some v1∧w.cell? ⟨b,2,none⟩=some v2∧w.cell? ⟨b,3,none⟩=some v3∧w.cell? ⟨b,4,none⟩=some v4∧w.cell? ⟨b,5,none⟩=some v5∧w.cell? ⟨b,6,none⟩=some v6∧w.cell? ⟨b,7,none⟩=some v7∧w.cell? ⟨b,8,none⟩=some v8∧w.cell? ⟨b,9,none⟩=some v9)∧(w.frozen? ⟨b,0,none⟩=false∧w.frozen? ⟨b,1,none⟩=false∧w.frozen? ⟨b,2,none⟩=false∧w.frozen? ⟨b,3,none⟩=false∧w.frozen? ⟨b,4,none⟩=false∧w.frozen? ⟨b,5,none⟩=false∧w.frozen? ⟨b,6,none⟩=false∧w.frozen? ⟨b,7,none⟩=false∧w.frozen? ⟨b,8,none⟩=false∧w.frozen? ⟨b,9,none⟩=false)∧b<w.heap.size
abbrev auR(w:World)(b:Nat)(v0 v1 v2 v3 v4 v5 v6 v7 v8 v9 v10:Value):Prop:=(w.cell? ⟨b,0,none⟩=some v0∧w.cell? ⟨b,1,none⟩=some v1∧w.cell? ⟨b,2,none⟩=some v2∧w.cell? ⟨b,3,none⟩=some v3∧w.cell? ⟨b,4,none⟩=some v4∧w.cell? ⟨b,5,none⟩=some v5∧w.cell? ⟨b,6,none⟩=some v6∧w.cell? ⟨b,7,none⟩=some v7∧w.cell? ⟨b,8,none⟩=some v8∧w.cell? ⟨b,9,none⟩=some v9∧w.cell? ⟨b,10,none⟩=some v10)∧(w.frozen? ⟨b,0,none⟩=false∧w.frozen? ⟨b,1,none⟩=false∧w.frozen? ⟨b,2,none⟩=false∧w.frozen? ⟨b,3,none⟩=false∧w.frozen? ⟨b,4,none⟩=false∧w.frozen? ⟨b,5,none⟩=false∧w.frozen? ⟨b,6,none⟩=false∧w.frozen? ⟨b,7,none⟩=false∧w.frozen? ⟨b,8,none⟩=false∧w.frozen? ⟨b,9,none⟩=false∧w.frozen? ⟨b,10,none⟩=false)∧b<w.heap.size
abbrev auS(w:World)(b:Nat)(v0 v1 v2 v3 v4 v5 v6 v7 v8 v9 v10 v11:Value):Prop:=(w.cell? ⟨b,0,none⟩=some v0∧w.cell? ⟨b,1,none⟩=some v1∧w.cell? ⟨b,2,none⟩=some v2∧w.cell? ⟨b,3,none⟩=some v3∧w.cell? ⟨b,4,none⟩=some v4∧w.cell? ⟨b,5,none⟩=some v5∧w.cell? ⟨b,6,none⟩=some v6∧w.cell? ⟨b,7,none⟩=some v7∧w.cell? ⟨b,8,none⟩=some v8∧w.cell? ⟨b,9,none⟩=some v9∧w.cell? ⟨b,10,none⟩=some v10∧w.cell? ⟨b,11,none⟩=some v11)∧(w.frozen? ⟨b,0,none⟩=false∧w.frozen? ⟨b,1,none⟩=false∧w.frozen? ⟨b,2,none⟩=false∧w.frozen? ⟨b,3,none⟩=false∧w.frozen? ⟨b,4,none⟩=false∧w.frozen? ⟨b,5,none⟩=false∧w.frozen? ⟨b,6,none⟩=false∧w.frozen? ⟨b,7,none⟩=false∧w.frozen? ⟨b,8,none⟩=false∧w.frozen? ⟨b,9,none⟩=false∧w.frozen? ⟨b,10,none⟩=false∧w.frozen? ⟨b,11,none⟩=false)∧b<w.heap.size
abbrev auT(w:World)(b:Nat)(v0 v1 v2 v3 v4 v5 v6 v7 v8 v9 v10 v11 v12:Value):Prop:=(w.cell? ⟨b,0,none⟩=some v0∧w.cell? ⟨b,1,none⟩=some v1∧w.cell? ⟨b,2,none⟩=some v2∧w.cell? ⟨b,3,none⟩=some v3∧w.cell? ⟨b,4,none⟩=some v4∧w.cell? ⟨b,5,none⟩=some v5∧w.cell? ⟨b,6,none⟩=some v6∧w.cell? ⟨b,7,none⟩=some v7∧w.cell? ⟨b,8,none⟩=some v8∧w.cell? ⟨b,9,none⟩=some v9∧w.cell? ⟨b,10,none⟩=some v10∧w.cell? ⟨b,11,none⟩=some v11∧w.cell? ⟨b,12,none⟩=some v12)∧(w.frozen? ⟨b,0,none⟩=false∧w.frozen? ⟨b,1,none⟩=false∧w.frozen? ⟨b,2,none⟩=false∧w.frozen? ⟨b,3,none⟩=false∧w.frozen? ⟨b,4,none⟩=false∧w.frozen? ⟨b,5,none⟩=false∧w.frozen? ⟨b,6,none⟩=false∧w.frozen? ⟨b,7,none⟩=false∧w.frozen? ⟨b,8,none⟩=false∧w.frozen? ⟨b,9,none⟩=false∧w.frozen? ⟨b,10,none⟩=false∧w.frozen? ⟨b,11,none⟩=false∧w.frozen? ⟨b,12,none⟩=false)∧b<w.heap.size
abbrev auU(w:World)(b:Nat)(v0 v1 v2 v3 v4 v5 v6 v7 v8 v9 v10 v11 v12 tP:Value):Prop:=(w.cell? ⟨b,0,none⟩=some v0∧w.cell? ⟨b,1,none⟩=some v1∧w.cell? ⟨b,2,none⟩=some v2∧w.cell? ⟨b,3,none⟩=some v3∧w.cell? ⟨b,4,none⟩=some v4∧w.cell? ⟨b,5,none⟩=some v5∧w.cell? ⟨b,6,none⟩=some v6∧w.cell? ⟨b,7,none⟩=some v7∧w.cell? ⟨b,8,none⟩=some v8∧w.cell? ⟨b,9,none⟩=some v9∧w.cell? ⟨b,10,none⟩=some v10∧w.cell? ⟨b,11,none⟩=some v11∧w.cell? ⟨b,12,none⟩=some v12∧w.cell? ⟨b,13,none⟩=some tP)∧(w.frozen? ⟨b,0,none⟩=false∧w.frozen? ⟨b,1,none⟩=false∧w.frozen? ⟨b,2,none⟩=false∧w.frozen? ⟨b,3,none⟩=false∧w.frozen? ⟨b,4,none⟩=false∧w.frozen? ⟨b,5,none⟩=false∧w.frozen? ⟨b,6,none⟩=false∧w.frozen? ⟨b,7,none⟩=false∧w.frozen? ⟨b,8,none⟩=false∧w.frozen? ⟨b,9,none⟩=false∧w.frozen? ⟨b,10,none⟩=false∧w.frozen? ⟨b,11,none⟩=false∧w.frozen? ⟨b,12,none⟩=false∧w.frozen? ⟨b,13,none⟩=false)∧b<w.heap.size
end
section
open Go.RowKit Go.Deep
structure cz (α : Type) where
 size:Nat
 is:World→List Value→α→Prop
 len:∀{w cs a},is w cs a→cs.length=size
 mono:∀{w w' cs a},is w cs a→Gr w w'→is w' cs a
 cB:α→Nat
def cH:cz Int where
 size:=1
 is:=λ_ cs n=>cs=[.int .i64 n]∧-9223372036854775808≤n∧n≤9223372036854775807
 len:=λh=>by rw[h.1];rfl
 mono:=λh _=>h
 cB:=λ_=>1
def xy:cz Bool where
 size:=1
 is:=λ_ cs b=>cs=[.bool b]
 len:=λh=>by rw[h];rfl
 mono:=λh _=>h
 cB:=λ_=>1
def uA:cz ByteArray where
 size:=1
 is:=λ_ cs s=>cs=[.string s]∧s.size≤maxLen
 len:=λh=>by rw[h.1];rfl
 mono:=λh _=>h
 cB:=λs=>s.size+1
def cz.pair{α β:Type}(c:cz α)(d:cz β):cz (α×β) where
 size:=c.size+d.size
 is:=λw cs x=>c.is w (cs.take c.size) x.1∧d.is w (cs.drop c.size) x.2
 len:=λ{w cs a}h=>by have h1:=c.len h.1;have h2:=d.len h.2;simp at h1 h2;omega
 mono:=λh g=>⟨c.mono h.1 g,d.mono h.2 g⟩
 cB:=λx=>c.cB x.1+d.cB x.2
def cK{α:Type}(c:cz α):cz (List α) where
 size:=1
 is:=λw cs l=>(cs=[.slice none 0 0]∧l=[])∨∃(b off:Nat)(sp:Option Nat)(cap:Nat),cs=[.slice (some ⟨b,off,sp⟩) l.length cap]∧l.length≤cap∧cap≤maxLen∧
  ∀i(h:i<l.length),sp=none∧∃cs',(∀j,j<c.size→w.cell? ⟨b,off+(i*c.size+j),none⟩=cs'[j]?)∧c.is w cs' l[i]
 len:=λh=>by rcases h with⟨rfl,_⟩|⟨b,off,sp,cap,rfl,_⟩<;>rfl
 mono:=λ{w w' cs l}h g=>by
  rcases h with h|⟨b,off,sp,cap,h1,h2,h3,h4⟩
  ·exact .inl h
  ·refine .inr ⟨b,off,sp,cap,h1,h2,h3,λi hi=>?_⟩;obtain⟨e,cs',h5,h6⟩:=h4 i hi;refine⟨e,cs',λj hj=>?_,c.mono h6 g⟩;have h7:=h5 j hj;have hl:=c.len h6;rw[bR (by omega)]at h7 ⊢;exact g.cell h7
 cB:=λl=>(l.map c.cB).sum+1
def fR{α:Type}(F:Nat→Prop)(P:Program)(c:cz α)(t:TypeId):Prop:=∀⦃H:Type⦄ ⦃enc:TypeId×Value→H⦄ ⦃w:World⦄ ⦃base:Nat⦄ ⦃spare:Nat→Bool⦄ ⦃held:Bool⦄ ⦃fuel:Nat⦄ ⦃cs:List Value⦄ ⦃x:DataW H×List MemPlace⦄,F fuel→DataW.trod enc P w base spare held fuel t cs=some x→∃a,c.is w cs a∧c.cB a≤Rows.uptoBulk x.1
abbrev Reads{α:Type}(P:Program)(c:cz α)(t:TypeId):Prop:=fR (λ_=>True) P c t
theorem DS{H:Type}(l:List (DataW H)):Rows.uptoBulkAll l=(l.map Rows.uptoBulk).sum:=by
 induction l with
 |nil=>rfl
 |cons x r ih=>simp only[Rows.uptoBulkAll,eY,List.sum_cons,ih]
theorem Zn{α:Type}(f:α→Nat)(D:Nat→Nat):∀(l:List α)(o:Nat),(∀i(h:i<l.length),f l[i]≤D (o+i))→(l.map f).sum≤((List.range' o l.length).map D).sum
 |[],_,_=>by simp
 |x::r,o,h=>by simp only[List.length_cons,List.range'_succ,eY,List.sum_cons];have h0:=h 0 (by simp);have:=Zn f D r (o+1) (λi hi=>by have:=h (i+1) (by simp;omega);simp only[List.getElem_cons_succ]at this;rw[show o+1+i=o+(i+1) by omega];exact this);simp at h0;omega
theorem wf_i64{n:Int}(h:(Lit.int .i64 n).wf=true):-9223372036854775808≤n∧n≤9223372036854775807:=by simpa [Lit.wf,IntKind.min,IntKind.max,IntKind.signed,IntKind.bits]using h
theorem abD{H:Type}(d:DataW H):1≤Rows.uptoBulk d:=by
 cases d with
 |lit l=>cases l<;>simp [Rows.uptoBulk]
 |_=>simp [Rows.uptoBulk]
theorem jY{F:Nat→Prop}{P:Program}{t:TypeId}(ht:P.underlying t=some (.int .i64)):fR F P cH t:=by intro H enc w base spare held fuel cs x _ h;obtain⟨n,rfl,_,hw⟩:=DataW.trod_int ht h;exact⟨n,⟨rfl,wf_i64 hw⟩,abD _⟩
theorem ON{F:Nat→Prop}{P:Program}{t:TypeId}(ht:P.underlying t=some .bool):fR F P xy t:=by intro H enc w base spare held fuel cs x _ h;obtain⟨n,rfl,_⟩:=DataW.trod_bool ht h;exact⟨n,rfl,abD _⟩
theorem FQ{F:Nat→Prop}{P:Program}{t:TypeId}(ht:P.underlying t=some .string):fR F P uA t:=by intro H enc w base spare held fuel cs x _ h;obtain⟨n,rfl,hx,hw⟩:=DataW.trod_string ht h;refine⟨n,⟨rfl,hw⟩,?_⟩;subst hx;simp only[Rows.uptoBulk,uA];first|(simp;done)|omega
theorem yC{F:Nat→Prop}{P:Program}{α:Type}{c:cz α}{t e:TypeId}(ht:P.underlying t=some (.slice e))(hz:P.cellsOf e=c.size)(hp:0<c.size)(hr:fR (λm=>F (m+1)) P c e):fR F P (cK c) t:=by
 intro H enc w base spare held fuel cs x hF h;rcases DataW.trod_slice ht h with⟨rfl,rfl⟩|⟨a,len,cap,elems,rest,n,iC,rfl,hxe,hb,hl,hm,hlen,hel,h8,h9⟩
 ·exact⟨[],.inl ⟨rfl,rfl⟩,by simp [cK,Rows.uptoBulk]⟩
 ·obtain⟨D,hD⟩:∃D:Nat→DataW H,D=λi=>(elems.getD i (.nil,[])).1:=⟨_,rfl⟩
  have key:∀i,i<len→∃(y:α)(cs':List Value),(∀j,j<c.size→w.cell? (a.add (i*c.size+j))=cs'[j]?)∧c.is w cs' y∧c.cB y≤Rows.uptoBulk (D i):=by
   intro i hi;have hk:=hel i hi;rw[bR (by omega)]at hk;obtain⟨cs',h1,h2⟩:=bN.1 hk;obtain⟨y,hy,Nf⟩:=hr (by subst iC;exact hF) h2
   have Nf:c.cB y≤Rows.uptoBulk (D i):=by rw[hD];simpa [List.getD,bR (show i<elems.length by omega)]using Nf
   obtain⟨_,h3,h4⟩:=World.cells?_some h1;refine⟨y,cs',λj hj=>?_,hy,Nf⟩;have:=h4 j (by rw[hz];exact hj);rw[hz]at this;rw[←this,add_add]
  obtain⟨ys,hys⟩:∃ys:List α,ys.length=len∧∀i(h:i<ys.length),c.cB ys[i]≤Rows.uptoBulk (D i)∧∃cs',(∀j,j<c.size→w.cell? (a.add (i*c.size+j))=cs'[j]?)∧c.is w cs' ys[i]:=by
   clear hel hlen h hl hxe h8 h9;induction len with
   |zero=>exact⟨[],rfl,λi h=>by simp at h⟩
   |succ k ih=>
    obtain⟨ys,h1,h2⟩:=ih (λi hi=>key i (by omega));obtain⟨y,cs',h3,h4,h4b⟩:=key k (by omega);refine⟨ys++[y],by simp [h1],λi hi=>?_⟩;by_cases hk:i<ys.length
    ·rw[List.getElem_append_left hk];exact h2 i hk
    ·have:i=k:=by simp at hi;omega
     subst this;rw[List.getElem_append_right (by omega)];simp only[h1,Nat.sub_self,List.getElem_cons_zero];exact⟨h4b,cs',h3,h4⟩
  obtain⟨h1,h2⟩:=hys;obtain⟨b,off,sp⟩:=a;refine⟨ys,.inr ⟨b,off,sp,cap,by rw[h1],by omega,hm,λi hi=>?_⟩,?_⟩
  ·have hs:sp=none:=by
    cases sp with
    |none=>rfl
    |some q=>exfalso;obtain⟨_,cs',h3,h4⟩:=h2 0 (by omega);have h5:=h3 0 hp;have hl:=c.len h4;rw[bR (by omega)]at h5;simp only[Nat.zero_mul,Nat.zero_add,World.cell?,Addr.add]at h5;split at h5<;>simp at h5
   obtain⟨_,cs',h3,h4⟩:=h2 i hi;subst hs;refine⟨rfl,cs',λj hj=>?_,h4⟩;have h6:=h3 j hj;rw[←h6];congr 1;simp only[Addr.add];split
   ·rename_i h7;simp only[h7,Nat.add_zero]
   ·rfl
  ·subst hxe;simp only[cK,Rows.uptoBulk,DS,List.map_map];have:=Zn c.cB (λi=>Rows.uptoBulk (D i)) ys 0 (λi hi=>by simpa using(h2 i hi).1);rw[h1,←List.range_eq_range']at this
   have e:List.map (Rows.uptoBulk∘λx=>x.1) elems=List.map (λi=>Rows.uptoBulk (D i)) (List.range len):=by rw[←hlen,hD];apply List.ext_getElem (by simp);intro i h3 h4;simp at h3;simp [List.getD,bR h3]
   rw[e];omega
theorem Ft{α:Type}(l:List α)(o n:Nat)(h:l.length=o+n):(l.drop o).take n=l.drop o:=rS (by simp;omega)
theorem aiu{α:Type}(l:List α)(h:l.length=2):∃x0 x1,l=[x0,x1]:=by
 match l,h with
 |[x0,x1],_=>exact⟨x0,x1,rfl⟩
theorem Fq{F:Nat→Prop}{P:Program}{yy rz:Type}{t:TypeId}{f0 f1:Field}{c0:cz yy}{c1:cz rz}(ht:P.underlying t=some (.struct #[f0,f1]))(hz:P.cellsOf t=c0.size+c1.size)(o0:f0.offset=0)(o1:f1.offset=c0.size)(z0:P.cellsOf f0.type=c0.size)(z1:P.cellsOf f1.type=c1.size)(r0:fR (λm=>F (m+1)) P c0 f0.type) (r1:fR (λm=>F (m+1)) P c1 f1.type):fR F P (c0.pair c1) t:=by
 intro H enc w base spare held fuel cs x hF h;obtain⟨xs,m,iC,dG,hlen,hxl,hf⟩:=DataW.trod_struct ht h;rw[hz]at hlen;have hxl:xs.length=2:=hxl;have h0:=hf 0 f0 rfl;rw[o0,z0,bR (show 0<xs.length by omega)]at h0;obtain⟨a0,k0,b0⟩:=r0 (by subst iC;exact hF) h0;have h1:=hf 1 f1 rfl;rw[o1,z1,bR (show 1<xs.length by omega)]at h1;obtain⟨a1,k1,b1⟩:=r1 (by subst iC;exact hF) h1;rw[Ft cs (c0.size) c1.size (by omega)]at k1;refine⟨(a0,a1),?_,?_⟩
 ·exact⟨by simpa using k0,(by simpa [lq,jD]using k1)⟩
 ·subst dG;simp only[Rows.uptoBulk,DS,cz.pair]
  have hs:(List.map Rows.uptoBulk (xs.map (·.1))).sum=Rows.uptoBulk xs[0].1+(Rows.uptoBulk xs[1].1):=by obtain⟨x0,x1,rfl⟩:=aiu xs hxl;simp
  rw[hs];exact Nat.le_succ_of_le (lT b0 b1)
theorem aiv{α:Type}(l:List α)(h:l.length=3):∃x0 x1 x2,l=[x0,x1,x2]:=by
 match l,h with
 |[x0,x1,x2],_=>exact⟨x0,x1,x2,rfl⟩
theorem Om{F:Nat→Prop}{P:Program}{yy rz uP:Type}{t:TypeId}{f0 f1 f2:Field}{c0:cz yy}{c1:cz rz}{c2:cz uP}(ht:P.underlying t=some (.struct #[f0,f1,f2]))(hz:P.cellsOf t=c0.size+c1.size+c2.size)(o0:f0.offset=0)(o1:f1.offset=c0.size)(o2:f2.offset=c0.size+c1.size)(z0:P.cellsOf f0.type=c0.size)(z1:P.cellsOf f1.type=c1.size)(z2:P.cellsOf f2.type=c2.size)(r0:fR (λm=>F (m+1)) P c0 f0.type) (r1:fR (λm=>F (m+1)) P c1 f1.type) (r2:fR (λm=>F (m+1)) P c2 f2.type):fR F P (c0.pair (c1.pair c2)) t:=by
 intro H enc w base spare held fuel cs x hF h;obtain⟨xs,m,iC,dG,hlen,hxl,hf⟩:=DataW.trod_struct ht h;rw[hz]at hlen;have hxl:xs.length=3:=hxl;have h0:=hf 0 f0 rfl;rw[o0,z0,bR (show 0<xs.length by omega)]at h0;obtain⟨a0,k0,b0⟩:=r0 (by subst iC;exact hF) h0;have h1:=hf 1 f1 rfl;rw[o1,z1,bR (show 1<xs.length by omega)]at h1;obtain⟨a1,k1,b1⟩:=r1 (by subst iC;exact hF) h1;have h2:=hf 2 f2 rfl;rw[o2,z2,bR (show 2<xs.length by omega)]at h2;obtain⟨a2,k2,b2⟩:=r2 (by subst iC;exact hF) h2;rw[Ft cs (c0.size+c1.size) c2.size (by omega)]at k2;refine⟨(a0,(a1,a2)),?_,?_⟩
 ·exact⟨by simpa using k0,⟨by simpa [lq,jD]using k1,(by simpa [lq,jD]using k2)⟩⟩
 ·subst dG;simp only[Rows.uptoBulk,DS,cz.pair]
  have hs:(List.map Rows.uptoBulk (xs.map (·.1))).sum=Rows.uptoBulk xs[0].1+(Rows.uptoBulk xs[1].1+(Rows.uptoBulk xs[2].1)):=by obtain⟨x0,x1,x2,rfl⟩:=aiv xs hxl;simp
  rw[hs];exact Nat.le_succ_of_le (lT b0 (lT b1 b2))
theorem aiw{α:Type}(l:List α)(h:l.length=4):∃x0 x1 x2 x3,l=[x0,x1,x2,x3]:=by
 match l,h with
 |[x0,x1,x2,x3],_=>exact⟨x0,x1,x2,x3,rfl⟩
theorem Y2{F:Nat→Prop}{P:Program}{yy rz uP yz:Type}{t:TypeId}{f0 f1 f2 f3:Field}{c0:cz yy}{c1:cz rz}{c2:cz uP}{c3:cz yz}(ht:P.underlying t=some (.struct #[f0,f1,f2,f3]))(hz:P.cellsOf t=c0.size+c1.size+c2.size+c3.size)(o0:f0.offset=0)(o1:f1.offset=c0.size)(o2:f2.offset=c0.size+c1.size)(o3:f3.offset=c0.size+c1.size+c2.size)(z0:P.cellsOf f0.type=c0.size)(z1:P.cellsOf f1.type=c1.size)(z2:P.cellsOf f2.type=c2.size)(z3:P.cellsOf f3.type=c3.size)(r0:fR (λm=>F (m+1)) P c0 f0.type) (r1:fR (λm=>F (m+1)) P c1 f1.type) (r2:fR (λm=>F (m+1)) P c2 f2.type) (r3:fR (λm=>F (m+1)) P c3 f3.type):fR F P (c0.pair (c1.pair (c2.pair c3))) t:=by
 intro H enc w base spare held fuel cs x hF h;obtain⟨xs,m,iC,dG,hlen,hxl,hf⟩:=DataW.trod_struct ht h;rw[hz]at hlen;have hxl:xs.length=4:=hxl;have h0:=hf 0 f0 rfl;rw[o0,z0,bR (show 0<xs.length by omega)]at h0;obtain⟨a0,k0,b0⟩:=r0 (by subst iC;exact hF) h0;have h1:=hf 1 f1 rfl;rw[o1,z1,bR (show 1<xs.length by omega)]at h1;obtain⟨a1,k1,b1⟩:=r1 (by subst iC;exact hF) h1;have h2:=hf 2 f2 rfl;rw[o2,z2,bR (show 2<xs.length by omega)]at h2;obtain⟨a2,k2,b2⟩:=r2 (by subst iC;exact hF) h2;have h3:=hf 3 f3 rfl;rw[o3,z3,bR (show 3<xs.length by omega)]at h3;obtain⟨a3,k3,b3⟩:=r3 (by subst iC;exact hF) h3;rw[Ft cs (c0.size+c1.size+c2.size) c3.size (by omega)]at k3;refine⟨(a0,(a1,(a2,a3))),?_,?_⟩
 ·exact⟨by simpa using k0,⟨by simpa [lq,jD]using k1,⟨by simpa [lq,jD]using k2,(by simpa [lq,jD]using k3)⟩⟩⟩
 ·subst dG;simp only[Rows.uptoBulk,DS,cz.pair]
  have hs:(List.map Rows.uptoBulk (xs.map (·.1))).sum=Rows.uptoBulk xs[0].1+(Rows.uptoBulk xs[1].1+(Rows.uptoBulk xs[2].1+(Rows.uptoBulk xs[3].1))):=by obtain⟨x0,x1,x2,x3,rfl⟩:=aiw xs hxl;simp
  rw[hs];exact Nat.le_succ_of_le (lT b0 (lT b1 (lT b2 b3)))
theorem aix{α:Type}(l:List α)(h:l.length=5):∃x0 x1 x2 x3 x4,l=[x0,x1,x2,x3,x4]:=by
 match l,h with
 |[x0,x1,x2,x3,x4],_=>exact⟨x0,x1,x2,x3,x4,rfl⟩
theorem aib{F:Nat→Prop}{P:Program}{yy rz uP yz zJ:Type}{t:TypeId}{f0 f1 f2 f3 f4:Field}{c0:cz yy}{c1:cz rz}{c2:cz uP}{c3:cz yz}{c4:cz zJ}(ht:P.underlying t=some (.struct #[f0,f1,f2,f3,f4]))(hz:P.cellsOf t=c0.size+c1.size+c2.size+c3.size+c4.size)(o0:f0.offset=0)(o1:f1.offset=c0.size)(o2:f2.offset=c0.size+c1.size)(o3:f3.offset=c0.size+c1.size+c2.size)(o4:f4.offset=c0.size+c1.size+c2.size+c3.size)(z0:P.cellsOf f0.type=c0.size)(z1:P.cellsOf f1.type=c1.size)(z2:P.cellsOf f2.type=c2.size)(z3:P.cellsOf f3.type=c3.size)(z4:P.cellsOf f4.type=c4.size)(r0:fR (λm=>F (m+1)) P c0 f0.type) (r1:fR (λm=>F (m+1)) P c1 f1.type) (r2:fR (λm=>F (m+1)) P c2 f2.type) (r3:fR (λm=>F (m+1)) P c3 f3.type) (r4:fR (λm=>F (m+1)) P c4 f4.type):fR F P (c0.pair (c1.pair (c2.pair (c3.pair c4)))) t:=by
 intro H enc w base spare held fuel cs x hF h;obtain⟨xs,m,iC,dG,hlen,hxl,hf⟩:=DataW.trod_struct ht h;rw[hz]at hlen;have hxl:xs.length=5:=hxl;have h0:=hf 0 f0 rfl;rw[o0,z0,bR (show 0<xs.length by omega)]at h0;obtain⟨a0,k0,b0⟩:=r0 (by subst iC;exact hF) h0;have h1:=hf 1 f1 rfl;rw[o1,z1,bR (show 1<xs.length by omega)]at h1;obtain⟨a1,k1,b1⟩:=r1 (by subst iC;exact hF) h1;have h2:=hf 2 f2 rfl;rw[o2,z2,bR (show 2<xs.length by omega)]at h2;obtain⟨a2,k2,b2⟩:=r2 (by subst iC;exact hF) h2;have h3:=hf 3 f3 rfl;rw[o3,z3,bR (show 3<xs.length by omega)]at h3;obtain⟨a3,k3,b3⟩:=r3 (by subst iC;exact hF) h3;have h4:=hf 4 f4 rfl;rw[o4,z4,bR (show 4<xs.length by omega)]at h4;obtain⟨a4,k4,b4⟩:=r4 (by subst iC;exact hF) h4;rw[Ft cs (c0.size+c1.size+c2.size+c3.size) c4.size (by omega)]at k4;refine⟨(a0,(a1,(a2,(a3,a4)))),?_,?_⟩
 ·exact⟨by simpa using k0,⟨by simpa [lq,jD]using k1,⟨by simpa [lq,jD]using k2,⟨by simpa [lq,jD]using k3,(by simpa [lq,jD]using k4)⟩⟩⟩⟩
 ·subst dG;simp only[Rows.uptoBulk,DS,cz.pair]
  have hs:(List.map Rows.uptoBulk (xs.map (·.1))).sum=Rows.uptoBulk xs[0].1+(Rows.uptoBulk xs[1].1+(Rows.uptoBulk xs[2].1+(Rows.uptoBulk xs[3].1+(Rows.uptoBulk xs[4].1)))):=by obtain⟨x0,x1,x2,x3,x4,rfl⟩:=aix xs hxl;simp
  rw[hs];exact Nat.le_succ_of_le (lT b0 (lT b1 (lT b2 (lT b3 b4))))
theorem aiy{α:Type}(l:List α)(h:l.length=6):∃x0 x1 x2 x3 x4 x5,l=[x0,x1,x2,x3,x4,x5]:=by
 match l,h with
 |[x0,x1,x2,x3,x4,x5],_=>exact⟨x0,x1,x2,x3,x4,x5,rfl⟩
theorem aic{F:Nat→Prop}{P:Program}{yy rz uP yz zJ NJ:Type}{t:TypeId}{f0 f1 f2 f3 f4 f5:Field}{c0:cz yy}{c1:cz rz}{c2:cz uP}{c3:cz yz}{c4:cz zJ}{c5:cz NJ}(ht:P.underlying t=some (.struct #[f0,f1,f2,f3,f4,f5]))(hz:P.cellsOf t=c0.size+c1.size+c2.size+c3.size+c4.size+c5.size)(o0:f0.offset=0)(o1:f1.offset=c0.size)(o2:f2.offset=c0.size+c1.size)(o3:f3.offset=c0.size+c1.size+c2.size)(o4:f4.offset=c0.size+c1.size+c2.size+c3.size)(o5:f5.offset=c0.size+c1.size+c2.size+c3.size+c4.size)(z0:P.cellsOf f0.type=c0.size)(z1:P.cellsOf f1.type=c1.size)(z2:P.cellsOf f2.type=c2.size)(z3:P.cellsOf f3.type=c3.size)(z4:P.cellsOf f4.type=c4.size)(z5:P.cellsOf f5.type=c5.size)(r0:fR (λm=>F (m+1)) P c0 f0.type) (r1:fR (λm=>F (m+1)) P c1 f1.type) (r2:fR (λm=>F (m+1)) P c2 f2.type) (r3:fR (λm=>F (m+1)) P c3 f3.type) (r4:fR (λm=>F (m+1)) P c4 f4.type) (r5:fR (λm=>F (m+1)) P c5 f5.type):fR F P (c0.pair (c1.pair (c2.pair (c3.pair (c4.pair c5))))) t:=by
 intro H enc w base spare held fuel cs x hF h;obtain⟨xs,m,iC,dG,hlen,hxl,hf⟩:=DataW.trod_struct ht h;rw[hz]at hlen;have hxl:xs.length=6:=hxl;have h0:=hf 0 f0 rfl;rw[o0,z0,bR (show 0<xs.length by omega)]at h0;obtain⟨a0,k0,b0⟩:=r0 (by subst iC;exact hF) h0;have h1:=hf 1 f1 rfl;rw[o1,z1,bR (show 1<xs.length by omega)]at h1;obtain⟨a1,k1,b1⟩:=r1 (by subst iC;exact hF) h1;have h2:=hf 2 f2 rfl;rw[o2,z2,bR (show 2<xs.length by omega)]at h2;obtain⟨a2,k2,b2⟩:=r2 (by subst iC;exact hF) h2;have h3:=hf 3 f3 rfl;rw[o3,z3,bR (show 3<xs.length by omega)]at h3;obtain⟨a3,k3,b3⟩:=r3 (by subst iC;exact hF) h3;have h4:=hf 4 f4 rfl;rw[o4,z4,bR (show 4<xs.length by omega)]at h4;obtain⟨a4,k4,b4⟩:=r4 (by subst iC;exact hF) h4;have h5:=hf 5 f5 rfl;rw[o5,z5,bR (show 5<xs.length by omega)]at h5;obtain⟨a5,k5,b5⟩:=r5 (by subst iC;exact hF) h5;rw[Ft cs (c0.size+c1.size+c2.size+c3.size+c4.size) c5.size (by omega)]at k5;refine⟨(a0,(a1,(a2,(a3,(a4,a5))))),?_,?_⟩
 ·exact⟨by simpa using k0,⟨by simpa [lq,jD]using k1,⟨by simpa [lq,jD]using k2,⟨by simpa [lq,jD]using k3,⟨by simpa [lq,jD]using k4,(by simpa [lq,jD]using k5)⟩⟩⟩⟩⟩
 ·subst dG;simp only[Rows.uptoBulk,DS,cz.pair]
  have hs:(List.map Rows.uptoBulk (xs.map (·.1))).sum=Rows.uptoBulk xs[0].1+(Rows.uptoBulk xs[1].1+(Rows.uptoBulk xs[2].1+(Rows.uptoBulk xs[3].1+(Rows.uptoBulk xs[4].1+(Rows.uptoBulk xs[5].1))))):=by obtain⟨x0,x1,x2,x3,x4,x5,rfl⟩:=aiy xs hxl;simp
  rw[hs];exact Nat.le_succ_of_le (lT b0 (lT b1 (lT b2 (lT b3 (lT b4 b5)))))
theorem aiz{α:Type}(l:List α)(h:l.length=7):∃x0 x1 x2 x3 x4 x5 x6,l=[x0,x1,x2,x3,x4,x5,x6]:=by
 match l,h with
 |[x0,x1,x2,x3,x4,x5,x6],_=>exact⟨x0,x1,x2,x3,x4,x5,x6,rfl⟩
theorem aid{F:Nat→Prop}{P:Program}{yy rz uP yz zJ NJ Yi:Type}{t:TypeId}{f0 f1 f2 f3 f4 f5 f6:Field}{c0:cz yy}{c1:cz rz}{c2:cz uP}{c3:cz yz}{c4:cz zJ}{c5:cz NJ}{c6:cz Yi}(ht:P.underlying t=some (.struct #[f0,f1,f2,f3,f4,f5,f6]))(hz:P.cellsOf t=c0.size+c1.size+c2.size+c3.size+c4.size+c5.size+c6.size)(o0:f0.offset=0)(o1:f1.offset=c0.size)(o2:f2.offset=c0.size+c1.size)(o3:f3.offset=c0.size+c1.size+c2.size)(o4:f4.offset=c0.size+c1.size+c2.size+c3.size)(o5:f5.offset=c0.size+c1.size+c2.size+c3.size+c4.size)(o6:f6.offset=c0.size+c1.size+c2.size+c3.size+c4.size+c5.size)(z0:P.cellsOf f0.type=c0.size)(z1:P.cellsOf f1.type=c1.size)(z2:P.cellsOf f2.type=c2.size)(z3:P.cellsOf f3.type=c3.size)(z4:P.cellsOf f4.type=c4.size)(z5:P.cellsOf f5.type=c5.size)(z6:P.cellsOf f6.type=c6.size)(r0:fR (λm=>F (m+1)) P c0 f0.type) (r1:fR (λm=>F (m+1)) P c1 f1.type) (r2:fR (λm=>F (m+1)) P c2 f2.type) (r3:fR (λm=>F (m+1)) P c3 f3.type) (r4:fR (λm=>F (m+1)) P c4 f4.type) (r5:fR (λm=>F (m+1)) P c5 f5.type) (r6:fR (λm=>F (m+1)) P c6 f6.type):fR F P (c0.pair (c1.pair (c2.pair (c3.pair (c4.pair (c5.pair c6)))))) t:=by
 intro H enc w base spare held fuel cs x hF h;obtain⟨xs,m,iC,dG,hlen,hxl,hf⟩:=DataW.trod_struct ht h;rw[hz]at hlen;have hxl:xs.length=7:=hxl;have h0:=hf 0 f0 rfl;rw[o0,z0,bR (show 0<xs.length by omega)]at h0;obtain⟨a0,k0,b0⟩:=r0 (by subst iC;exact hF) h0;have h1:=hf 1 f1 rfl;rw[o1,z1,bR (show 1<xs.length by omega)]at h1;obtain⟨a1,k1,b1⟩:=r1 (by subst iC;exact hF) h1;have h2:=hf 2 f2 rfl;rw[o2,z2,bR (show 2<xs.length by omega)]at h2;obtain⟨a2,k2,b2⟩:=r2 (by subst iC;exact hF) h2;have h3:=hf 3 f3 rfl;rw[o3,z3,bR (show 3<xs.length by omega)]at h3;obtain⟨a3,k3,b3⟩:=r3 (by subst iC;exact hF) h3;have h4:=hf 4 f4 rfl;rw[o4,z4,bR (show 4<xs.length by omega)]at h4;obtain⟨a4,k4,b4⟩:=r4 (by subst iC;exact hF) h4;have h5:=hf 5 f5 rfl;rw[o5,z5,bR (show 5<xs.length by omega)]at h5;obtain⟨a5,k5,b5⟩:=r5 (by subst iC;exact hF) h5;have h6:=hf 6 f6 rfl;rw[o6,z6,bR (show 6<xs.length by omega)]at h6;obtain⟨a6,k6,b6⟩:=r6 (by subst iC;exact hF) h6;rw[Ft cs (c0.size+c1.size+c2.size+c3.size+c4.size+c5.size) c6.size (by omega)]at k6;refine⟨(a0,(a1,(a2,(a3,(a4,(a5,a6)))))),?_,?_⟩
 ·exact⟨by simpa using k0,⟨by simpa [lq,jD]using k1,⟨by simpa [lq,jD]using k2,⟨by simpa [lq,jD]using k3,⟨by simpa [lq,jD]using k4,⟨by simpa [lq,jD]using k5,(by simpa [lq,jD]using k6)⟩⟩⟩⟩⟩⟩
 ·subst dG;simp only[Rows.uptoBulk,DS,cz.pair]
  have hs:(List.map Rows.uptoBulk (xs.map (·.1))).sum=Rows.uptoBulk xs[0].1+(Rows.uptoBulk xs[1].1+(Rows.uptoBulk xs[2].1+(Rows.uptoBulk xs[3].1+(Rows.uptoBulk xs[4].1+(Rows.uptoBulk xs[5].1+(Rows.uptoBulk xs[6].1)))))):=by obtain⟨x0,x1,x2,x3,x4,x5,x6,rfl⟩:=aiz xs hxl;simp
  rw[hs];exact Nat.le_succ_of_le (lT b0 (lT b1 (lT b2 (lT b3 (lT b4 (lT b5 b6))))))
theorem ah3{α:Type}(l:List α)(h:l.length=10):∃x0 x1 x2 x3 x4 x5 x6 x7 x8 x9,l=[x0,x1,x2,x3,x4,x5,x6,x7,x8,x9]:=by
 match l,h with
 |[x0,x1,x2,x3,x4,x5,x6,x7,x8,x9],_=>exact⟨x0,x1,x2,x3,x4,x5,x6,x7,x8,x9,rfl⟩
theorem ahM{F:Nat→Prop}{P:Program}{yy rz uP yz zJ NJ Yi α7 α8 α9:Type}{t:TypeId}{f0 f1 f2 f3 f4 f5 f6 f7 f8 f9:Field}{c0:cz yy}{c1:cz rz}{c2:cz uP}{c3:cz yz}{c4:cz zJ}{c5:cz NJ}{c6:cz Yi}{c7:cz α7}{c8:cz α8}{c9:cz α9}(ht:P.underlying t=some (.struct #[f0,f1,f2,f3,f4,f5,f6,f7,f8,f9]))(hz:P.cellsOf t=c0.size+c1.size+c2.size+c3.size+c4.size+c5.size+c6.size+c7.size+c8.size+c9.size)(o0:f0.offset=0)(o1:f1.offset=c0.size)(o2:f2.offset=c0.size+c1.size)(o3:f3.offset=c0.size+c1.size+c2.size)(o4:f4.offset=c0.size+c1.size+c2.size+c3.size)(o5:f5.offset=c0.size+c1.size+c2.size+c3.size+c4.size)(o6:f6.offset=c0.size+c1.size+c2.size+c3.size+c4.size+c5.size)(o7:f7.offset=c0.size+c1.size+c2.size+c3.size+c4.size+c5.size+c6.size)(o8:f8.offset=c0.size+c1.size+c2.size+c3.size+c4.size+c5.size+c6.size+c7.size)(o9:f9.offset=c0.size+c1.size+c2.size+c3.size+c4.size+c5.size+c6.size+c7.size+c8.size)(z0:P.cellsOf f0.type=c0.size)(z1:P.cellsOf f1.type=c1.size)(z2:P.cellsOf f2.type=c2.size)(z3:P.cellsOf f3.type=c3.size)(z4:P.cellsOf f4.type=c4.size)(z5:P.cellsOf f5.type=c5.size)(z6:P.cellsOf f6.type=c6.size)(z7:P.cellsOf f7.type=c7.size)(z8:P.cellsOf f8.type=c8.size)(z9:P.cellsOf f9.type=c9.size)(r0:fR (λm=>F (m+1)) P c0 f0.type) (r1:fR (λm=>F (m+1)) P c1 f1.type) (r2:fR (λm=>F (m+1)) P c2 f2.type) (r3:fR (λm=>F (m+1)) P c3 f3.type) (r4:fR (λm=>F (m+1)) P c4 f4.type) (r5:fR (λm=>F (m+1)) P c5 f5.type) (r6:fR (λm=>F (m+1)) P c6 f6.type) (r7:fR (λm=>F (m+1)) P c7 f7.type) (r8:fR (λm=>F (m+1)) P c8 f8.type) (r9:fR (λm=>F (m+1)) P c9 f9.type):fR F P (c0.pair (c1.pair (c2.pair (c3.pair (c4.pair (c5.pair (c6.pair (c7.pair (c8.pair c9))))))))) t:=by
 intro H enc w base spare held fuel cs x hF h;obtain⟨xs,m,iC,dG,hlen,hxl,hf⟩:=DataW.trod_struct ht h;rw[hz]at hlen;have hxl:xs.length=10:=hxl;have h0:=hf 0 f0 rfl;rw[o0,z0,bR (show 0<xs.length by omega)]at h0;obtain⟨a0,k0,b0⟩:=r0 (by subst iC;exact hF) h0;have h1:=hf 1 f1 rfl;rw[o1,z1,bR (show 1<xs.length by omega)]at h1;obtain⟨a1,k1,b1⟩:=r1 (by subst iC;exact hF) h1;have h2:=hf 2 f2 rfl;rw[o2,z2,bR (show 2<xs.length by omega)]at h2;obtain⟨a2,k2,b2⟩:=r2 (by subst iC;exact hF) h2;have h3:=hf 3 f3 rfl;rw[o3,z3,bR (show 3<xs.length by omega)]at h3;obtain⟨a3,k3,b3⟩:=r3 (by subst iC;exact hF) h3;have h4:=hf 4 f4 rfl;rw[o4,z4,bR (show 4<xs.length by omega)]at h4;obtain⟨a4,k4,b4⟩:=r4 (by subst iC;exact hF) h4;have h5:=hf 5 f5 rfl;rw[o5,z5,bR (show 5<xs.length by omega)]at h5;obtain⟨a5,k5,b5⟩:=r5 (by subst iC;exact hF) h5;have h6:=hf 6 f6 rfl;rw[o6,z6,bR (show 6<xs.length by omega)]at h6;obtain⟨a6,k6,b6⟩:=r6 (by subst iC;exact hF) h6;have h7:=hf 7 f7 rfl;rw[o7,z7,bR (show 7<xs.length by omega)]at h7;obtain⟨a7,k7,b7⟩:=r7 (by subst iC;exact hF) h7;have h8:=hf 8 f8 rfl;rw[o8,z8,bR (show 8<xs.length by omega)]at h8;obtain⟨a8,k8,b8⟩:=r8 (by subst iC;exact hF) h8;have h9:=hf 9 f9 rfl;rw[o9,z9,bR (show 9<xs.length by omega)]at h9;obtain⟨a9,k9,b9⟩:=r9 (by subst iC;exact hF) h9;rw[Ft cs (c0.size+c1.size+c2.size+c3.size+c4.size+c5.size+c6.size+c7.size+c8.size) c9.size (by omega)]at k9;refine⟨(a0,(a1,(a2,(a3,(a4,(a5,(a6,(a7,(a8,a9))))))))),?_,?_⟩
 ·exact⟨by simpa using k0,⟨by simpa [lq,jD]using k1,⟨by simpa [lq,jD]using k2,⟨by simpa [lq,jD]using k3,⟨by simpa [lq,jD]using k4,⟨by simpa [lq,jD]using k5,⟨by simpa [lq,jD]using k6,⟨by simpa [lq,jD]using k7,⟨by simpa [lq,jD]using k8,(by simpa [lq,jD]using k9)⟩⟩⟩⟩⟩⟩⟩⟩⟩
 ·subst dG;simp only[Rows.uptoBulk,DS,cz.pair]
  have hs:(List.map Rows.uptoBulk (xs.map (·.1))).sum=Rows.uptoBulk xs[0].1+(Rows.uptoBulk xs[1].1+(Rows.uptoBulk xs[2].1+(Rows.uptoBulk xs[3].1+(Rows.uptoBulk xs[4].1+(Rows.uptoBulk xs[5].1+(Rows.uptoBulk xs[6].1+(Rows.uptoBulk xs[7].1+(Rows.uptoBulk xs[8].1+(Rows.uptoBulk xs[9].1))))))))):=by obtain⟨x0,x1,x2,x3,x4,x5,x6,x7,x8,x9,rfl⟩:=ah3 xs hxl;simp
  rw[hs];exact Nat.le_succ_of_le (lT b0 (lT b1 (lT b2 (lT b3 (lT b4 (lT b5 (lT b6 (lT b7 (lT b8 b9)))))))))
end
section
open Go.RowKit Go.Deep
theorem fR.imp{F:Nat→Prop}{P:Program}{α β:Type}{c:cz α}{d:cz β}{t:TypeId}(h:fR F P c t)(k:∀w cs a,c.is w cs a→∃b,d.is w cs b∧d.cB b≤c.cB a):fR F P d t:=by intro H enc w base spare held fuel cs x hF h1;obtain⟨a,ha,hb⟩:=h hF h1;obtain⟨b,h2,h3⟩:=k _ _ _ ha;exact⟨b,h2,Nat.le_trans h3 hb⟩
theorem iB{α:Type}{cs a b:List α}{n:Nat}(h1:cs.take n=a)(h2:cs.drop n=b):cs=a++b:=by rw[←h1,←h2,List.take_append_drop]
theorem aiR{α:Type}{c:cz α}{w:World}{v:Value}{l:List α}(h:(cK c).is w [v] l):∃(a:Option Addr)(cap:Nat),v=.slice a l.length cap∧l.length≤cap∧cap≤maxLen:=by
 rcases h with⟨h,rfl⟩|⟨b,off,sp,cap,h,h1,h2,_⟩
 ·exact⟨none,0,by simpa using h,aQ _,jQ _⟩
 ·exact⟨some ⟨b,off,sp⟩,cap,by simpa using h,h1,h2⟩
theorem we{α:Type}{c:cz α}{w:World}{v:Value}{l:List α}(h:(cK c).is w [v] l):∃(a:Option Addr)(n cap:Nat),v=.slice a n cap∧Hid (n=l.length)∧n≤cap∧cap≤9223372036854775807:=by obtain⟨a,cap,h1,h2,h3⟩:=aiR h;exact⟨a,l.length,cap,h1,Lib.hid rfl,h2,by unfold maxLen at h3;omega⟩
theorem ajH{α:Type}{c:cz α}{w:World}{a:Option Addr}{n cap:Nat}{l:List α}(h:(cK c).is w [.slice a n cap] l){k:Nat}(hk:k<l.length):
  ∃(b off:Nat),a=some ⟨b,off,none⟩∧∃cs,(∀j,j<c.size→w.cell? ⟨b,off+(k*c.size+j),none⟩=cs[j]?)∧c.is w cs l[k]:=by
 rcases h with⟨_,rfl⟩|⟨b,off,sp,cap',h1,h2,h3,h4⟩
 ·simp at hk
 ·obtain⟨rfl,cs,h5,h6⟩:=h4 k hk;simp only[List.cons.injEq,Value.slice.injEq,and_true]at h1;exact⟨b,off,h1.1,cs,h5,h6⟩
theorem yE{w:World}{a:Option Addr}{n cap:Nat}{l:List Int}(h:(cK cH).is w [.slice a n cap] l){k:Nat}(hk:k<l.length):
  ∃(b off:Nat),a=some ⟨b,off,none⟩∧w.cell? ⟨b,off+k,none⟩=some (.int .i64 l[k])∧aU l[k]:=by
 obtain⟨b,off,e,cs,h1,h2⟩:=ajH h hk;obtain⟨rfl,h3⟩:=h2;exact⟨b,off,e,by simpa [cH]using h1 0 (by decide),h3⟩
def Ad:cz nL where
 size:=2
 is:=λw cs x=>cs=[.int .i64 x.time,.int .i64 x.way]∧aU x.time∧aU x.way
 len:=λh=>by obtain⟨rfl,_⟩:=h;rfl
 mono:=λh _=>h
 cB:=λx=>cH.cB x.time+(cH.cB x.way)
theorem aju:Reads Tryz.prog Ad 151:=
 (Fq (F:=λ_=>True) Tryz.underlying151 (c0:=cH) (c1:=cH) (by kernel_rfl) rfl rfl (by kernel_rfl) (by kernel_rfl) (jY Tryz.underlying3) (jY Tryz.underlying3)).imp λw cs a h=>by obtain⟨a0,a1⟩:=a;obtain⟨h0,h1⟩:=h;obtain⟨e0,b0⟩:=h0;obtain⟨e1,b1⟩:=h1;have kO:=iB e0 e1;exact⟨⟨a0,a1⟩,⟨by rw[kO];rfl,b0,b1⟩,aQ _⟩
theorem aiG:Reads Tryz.prog (cK Ad) 130:=yC Tryz.underlying130 (c:=Ad) (by kernel_rfl) (by decide) aju
def U7:cz sy where
 size:=2
 is:=λw cs x=>∃v0:Value,cs=[.int .i64 x.kind,v0]∧aU x.kind∧(cK Ad).is w [v0] x.ck
 len:=λh=>by obtain⟨v0,rfl,_⟩:=h;rfl
 mono:=λ{w w' cs x}h g=>by obtain⟨v0,e,h0,h1⟩:=h;exact⟨v0,e,h0,((cK Ad)).mono h1 g⟩
 cB:=λx=>cH.cB x.kind+((cK Ad).cB x.ck)
theorem ajq:Reads Tryz.prog U7 132:=
 (Fq (F:=λ_=>True) Tryz.underlying132 (c0:=cH) (c1:=(cK Ad)) (by kernel_rfl) rfl rfl (by kernel_rfl) (by kernel_rfl) (jY Tryz.underlying3) aiG).imp λw cs a h=>by obtain⟨a0,a1⟩:=a;obtain⟨h0,h1⟩:=h;obtain⟨e0,b0⟩:=h0;obtain⟨s1,e1⟩:=vg.1 (((cK Ad)).len h1);rw[e1]at h1;have kO:=iB e0 e1;exact⟨⟨a0,a1⟩,⟨s1,by rw[kO];rfl,b0,h1⟩,aQ _⟩
def CG:cz rM where
 size:=3
 is:=λw cs x=>cs=[.int .i64 x.low,.int .i64 x.high,.string x.name]∧aU x.low∧aU x.high∧x.name.size≤maxLen
 len:=λh=>by obtain⟨rfl,_⟩:=h;rfl
 mono:=λh _=>h
 cB:=λx=>cH.cB x.low+(cH.cB x.high+(uA.cB x.name))
theorem ajv:Reads Tryz.prog CG 185:=
 (Om (F:=λ_=>True) Tryz.underlying185 (c0:=cH) (c1:=cH) (c2:=uA) (by kernel_rfl) rfl rfl rfl (by kernel_rfl) (by kernel_rfl) (by kernel_rfl) (jY Tryz.underlying3) (jY Tryz.underlying3) (FQ Tryz.underlying9)).imp λw cs a h=>by obtain⟨a0,a1,a2⟩:=a;obtain⟨h0,h1,h2⟩:=h;obtain⟨e0,b0⟩:=h0;obtain⟨e1,b1⟩:=h1;obtain⟨e2,b2⟩:=h2;have qJ:=iB e1 e2;have kO:=iB e0 qJ;exact⟨⟨a0,a1,a2⟩,⟨by rw[kO];rfl,b0,b1,b2⟩,aQ _⟩
theorem aiI:Reads Tryz.prog (cK CG) 48:=yC Tryz.underlying48 (c:=CG) (by kernel_rfl) (by decide) ajv
def CF:cz fu where
 size:=7
 is:=λw cs x=>∃v0:Value,cs=[.string x.name,.int .i64 x.group,.int .i64 x.qv,.int .i64 x.oN,.int .i64 x.default,.bool x.snap,v0]∧x.name.size≤maxLen∧aU x.group∧aU x.qv∧aU x.oN∧aU x.default∧(cK CG).is w [v0] x.ranges
 len:=λh=>by obtain⟨v0,rfl,_⟩:=h;rfl
 mono:=λ{w w' cs x}h g=>by obtain⟨v0,e,h0,h1,h2,h3,h4,h5⟩:=h;exact⟨v0,e,h0,h1,h2,h3,h4,((cK CG)).mono h5 g⟩
 cB:=λx=>uA.cB x.name+(cH.cB x.group+(cH.cB x.qv+(cH.cB x.oN+(cH.cB x.default+(xy.cB x.snap+((cK CG).cB x.ranges))))))
theorem ajt:Reads Tryz.prog CF 50:=
 (aid (F:=λ_=>True) Tryz.underlying50 (c0:=uA) (c1:=cH) (c2:=cH) (c3:=cH) (c4:=cH) (c5:=xy) (c6:=(cK CG)) (by kernel_rfl) rfl rfl rfl rfl rfl rfl rfl (by kernel_rfl) (by kernel_rfl) (by kernel_rfl) (by kernel_rfl) (by kernel_rfl) (by kernel_rfl) (by kernel_rfl) (FQ Tryz.underlying9) (jY Tryz.underlying3) (jY Tryz.underlying3) (jY Tryz.underlying3) (jY Tryz.underlying3) (ON Tryz.underlying4) aiI).imp λw cs a h=>by obtain⟨a0,a1,a2,a3,a4,a5,a6⟩:=a;obtain⟨h0,h1,h2,h3,h4,h5,h6⟩:=h;obtain⟨e0,b0⟩:=h0;obtain⟨e1,b1⟩:=h1;obtain⟨e2,b2⟩:=h2;obtain⟨e3,b3⟩:=h3;obtain⟨e4,b4⟩:=h4;have e5:=h5;simp only[xy]at e5;obtain⟨s6,e6⟩:=vg.1 (((cK CG)).len h6);rw[e6]at h6;have V3:=iB e5 e6;have Mh:=iB e4 V3;have Gy:=iB e3 Mh;have AD:=iB e2 Gy;have qJ:=iB e1 AD;have kO:=iB e0 qJ;exact⟨⟨a0,a1,a2,a3,a4,a5,a6⟩,⟨s6,by rw[kO];rfl,b0,b1,b2,b3,b4,h6⟩,aQ _⟩
theorem aiF:Reads Tryz.prog (cK CF) 99:=yC Tryz.underlying99 (c:=CF) (by kernel_rfl) (by decide) ajt
def zU:cz cG where
 size:=3
 is:=λw cs x=>∃v0:Value,cs=[.string x.name,.int .i64 x.size,v0]∧x.name.size≤maxLen∧aU x.size∧(cK CF).is w [v0] x.params
 len:=λh=>by obtain⟨v0,rfl,_⟩:=h;rfl
 mono:=λ{w w' cs x}h g=>by obtain⟨v0,e,h0,h1,h2⟩:=h;exact⟨v0,e,h0,h1,((cK CF)).mono h2 g⟩
 cB:=λx=>uA.cB x.name+(cH.cB x.size+((cK CF).cB x.params))
theorem ah9:Reads Tryz.prog zU 101:=
 (Om (F:=λ_=>True) Tryz.underlying101 (c0:=uA) (c1:=cH) (c2:=(cK CF)) (by kernel_rfl) rfl rfl rfl (by kernel_rfl) (by kernel_rfl) (by kernel_rfl) (FQ Tryz.underlying9) (jY Tryz.underlying3) aiF).imp λw cs a h=>by obtain⟨a0,a1,a2⟩:=a;obtain⟨h0,h1,h2⟩:=h;obtain⟨e0,b0⟩:=h0;obtain⟨e1,b1⟩:=h1;obtain⟨s2,e2⟩:=vg.1 (((cK CF)).len h2);rw[e2]at h2;have qJ:=iB e1 e2;have kO:=iB e0 qJ;exact⟨⟨a0,a1,a2⟩,⟨s2,by rw[kO];rfl,b0,b1,h2⟩,aQ _⟩
theorem ahK:Reads Tryz.prog (cK zU) 22:=yC Tryz.underlying22 (c:=zU) (by kernel_rfl) (by decide) ah9
def Al:cz iG where
 size:=4
 is:=λw cs x=>cs=[.int .i64 x.aA,.string x.gW,.int .i64 x.univ,.int .i64 x.address]∧aU x.aA∧x.gW.size≤maxLen∧aU x.univ∧aU x.address
 len:=λh=>by obtain⟨rfl,_⟩:=h;rfl
 mono:=λh _=>h
 cB:=λx=>cH.cB x.aA+(uA.cB x.gW+(cH.cB x.univ+(cH.cB x.address)))
theorem akK:Reads Tryz.prog Al 103:=
 (Y2 (F:=λ_=>True) Tryz.underlying103 (c0:=cH) (c1:=uA) (c2:=cH) (c3:=cH) (by kernel_rfl) rfl rfl rfl rfl (by kernel_rfl) (by kernel_rfl) (by kernel_rfl) (by kernel_rfl) (jY Tryz.underlying3) (FQ Tryz.underlying9) (jY Tryz.underlying3) (jY Tryz.underlying3)).imp λw cs a h=>by obtain⟨a0,a1,a2,a3⟩:=a;obtain⟨h0,h1,h2,h3⟩:=h;obtain⟨e0,b0⟩:=h0;obtain⟨e1,b1⟩:=h1;obtain⟨e2,b2⟩:=h2;obtain⟨e3,b3⟩:=h3;have AD:=iB e2 e3;have qJ:=iB e1 AD;have kO:=iB e0 qJ;exact⟨⟨a0,a1,a2,a3⟩,⟨by rw[kO];rfl,b0,b1,b2,b3⟩,aQ _⟩
theorem ajx:Reads Tryz.prog (cK Al) 23:=yC Tryz.underlying23 (c:=Al) (by kernel_rfl) (by decide) akK
def WB:cz gC where
 size:=2
 is:=λw cs x=>∃v0 v1:Value,cs=[v0,v1]∧(cK zU).is w [v0] x.bg∧(cK Al).is w [v1] x.cW
 len:=λh=>by obtain⟨v0,v1,rfl,_⟩:=h;rfl
 mono:=λ{w w' cs x}h g=>by obtain⟨v0,v1,e,h0,h1⟩:=h;exact⟨v0,v1,e,((cK zU)).mono h0 g,((cK Al)).mono h1 g⟩
 cB:=λx=>(cK zU).cB x.bg+((cK Al).cB x.cW)
theorem amn:Reads Tryz.prog WB 25:=
 (Fq (F:=λ_=>True) Tryz.underlying25 (c0:=(cK zU)) (c1:=(cK Al)) (by kernel_rfl) rfl rfl (by kernel_rfl) (by kernel_rfl) ahK ajx).imp λw cs a h=>by obtain⟨a0,a1⟩:=a;obtain⟨h0,h1⟩:=h;obtain⟨s0,e0⟩:=vg.1 (((cK zU)).len h0);rw[e0]at h0;obtain⟨s1,e1⟩:=vg.1 (((cK Al)).len h1);rw[e1]at h1;have kO:=iB e0 e1;exact⟨⟨a0,a1⟩,⟨s0,s1,by rw[kO];rfl,h0,h1⟩,aQ _⟩
def Mt:cz aG where
 size:=2
 is:=λw cs x=>cs=[.int .i64 x.unit,.string x.param]∧aU x.unit∧x.param.size≤maxLen
 len:=λh=>by obtain⟨rfl,_⟩:=h;rfl
 mono:=λh _=>h
 cB:=λx=>cH.cB x.unit+(uA.cB x.param)
theorem abf:Reads Tryz.prog Mt 45:=
 (Fq (F:=λ_=>True) Tryz.underlying45 (c0:=cH) (c1:=uA) (by kernel_rfl) rfl rfl (by kernel_rfl) (by kernel_rfl) (jY Tryz.underlying3) (FQ Tryz.underlying9)).imp λw cs a h=>by obtain⟨a0,a1⟩:=a;obtain⟨h0,h1⟩:=h;obtain⟨e0,b0⟩:=h0;obtain⟨e1,b1⟩:=h1;have kO:=iB e0 e1;exact⟨⟨a0,a1⟩,⟨by rw[kO];rfl,b0,b1⟩,aQ _⟩
def Cp:cz nK where
 size:=3
 is:=λw cs x=>cs=[.int .i64 x.key.unit,.string x.key.param,.int .i64 x.level]∧aU x.key.unit∧x.key.param.size≤maxLen∧aU x.level
 len:=λh=>by obtain⟨rfl,_⟩:=h;rfl
 mono:=λh _=>h
 cB:=λx=>Mt.cB x.key+(cH.cB x.level)
theorem aia:Reads Tryz.prog Cp 47:=
 (Fq (F:=λ_=>True) Tryz.underlying47 (c0:=Mt) (c1:=cH) (by kernel_rfl) rfl rfl (by kernel_rfl) (by kernel_rfl) abf (jY Tryz.underlying3)).imp λw cs a h=>by obtain⟨a0,a1⟩:=a;obtain⟨h0,h1⟩:=h;obtain⟨e0,b0⟩:=h0;obtain⟨LR,LU⟩:=b0;obtain⟨e1,b1⟩:=h1;have kO:=iB e0 e1;exact⟨⟨a0,a1⟩,⟨by rw[kO];rfl,LR,LU,b1⟩,aQ _⟩
theorem ahL:Reads Tryz.prog (cK Cp) 40:=yC Tryz.underlying40 (c:=Cp) (by kernel_rfl) (by decide) aia
def Cx:cz mj where
 size:=3
 is:=λw cs x=>∃v0:Value,cs=[.int .i64 x.aA,.string x.title,v0]∧aU x.aA∧x.title.size≤maxLen∧(cK Cp).is w [v0] x.lZ
 len:=λh=>by obtain⟨v0,rfl,_⟩:=h;rfl
 mono:=λ{w w' cs x}h g=>by obtain⟨v0,e,h0,h1,h2⟩:=h;exact⟨v0,e,h0,h1,((cK Cp)).mono h2 g⟩
 cB:=λx=>cH.cB x.aA+(uA.cB x.title+((cK Cp).cB x.lZ))
theorem aiH:Reads Tryz.prog Cx 187:=
 (Om (F:=λ_=>True) Tryz.underlying187 (c0:=cH) (c1:=uA) (c2:=(cK Cp)) (by kernel_rfl) rfl rfl rfl (by kernel_rfl) (by kernel_rfl) (by kernel_rfl) (jY Tryz.underlying3) (FQ Tryz.underlying9) ahL).imp λw cs a h=>by obtain⟨a0,a1,a2⟩:=a;obtain⟨h0,h1,h2⟩:=h;obtain⟨e0,b0⟩:=h0;obtain⟨e1,b1⟩:=h1;obtain⟨s2,e2⟩:=vg.1 (((cK Cp)).len h2);rw[e2]at h2;have qJ:=iB e1 e2;have kO:=iB e0 qJ;exact⟨⟨a0,a1,a2⟩,⟨s2,by rw[kO];rfl,b0,b1,h2⟩,aQ _⟩
theorem ah8:Reads Tryz.prog (cK Cx) 26:=yC Tryz.underlying26 (c:=Cx) (by kernel_rfl) (by decide) aiH
def Vo:cz oI where
 size:=2
 is:=λw cs x=>cs=[.int .i64 x.level,.int .i64 x.iV]∧aU x.level∧aU x.iV
 len:=λh=>by obtain⟨rfl,_⟩:=h;rfl
 mono:=λh _=>h
 cB:=λx=>cH.cB x.level+(cH.cB x.iV)
theorem ajy:Reads Tryz.prog Vo 193:=
 (Fq (F:=λ_=>True) Tryz.underlying193 (c0:=cH) (c1:=cH) (by kernel_rfl) rfl rfl (by kernel_rfl) (by kernel_rfl) (jY Tryz.underlying3) (jY Tryz.underlying3)).imp λw cs a h=>by obtain⟨a0,a1⟩:=a;obtain⟨h0,h1⟩:=h;obtain⟨e0,b0⟩:=h0;obtain⟨e1,b1⟩:=h1;have kO:=iB e0 e1;exact⟨⟨a0,a1⟩,⟨by rw[kO];rfl,b0,b1⟩,aQ _⟩
def CP:cz gX where
 size:=8
 is:=λw cs x=>cs=[.int .i64 x.key.unit,.string x.key.param,.int .i64 x.value.level,.int .i64 x.value.iV,.bool x.release,.bool x.BN,.int .i64 x.cD,.int .i64 x.time]∧aU x.key.unit∧x.key.param.size≤maxLen∧aU x.value.level∧aU x.value.iV∧aU x.cD∧aU x.time
 len:=λh=>by obtain⟨rfl,_⟩:=h;rfl
 mono:=λh _=>h
 cB:=λx=>Mt.cB x.key+(Vo.cB x.value+(xy.cB x.release+(xy.cB x.BN+(cH.cB x.cD+(cH.cB x.time)))))
theorem akJ:Reads Tryz.prog CP 195:=
 (aic (F:=λ_=>True) Tryz.underlying195 (c0:=Mt) (c1:=Vo) (c2:=xy) (c3:=xy) (c4:=cH) (c5:=cH) (by kernel_rfl) rfl rfl rfl rfl rfl rfl (by kernel_rfl) (by kernel_rfl) (by kernel_rfl) (by kernel_rfl) (by kernel_rfl) (by kernel_rfl) abf ajy (ON Tryz.underlying4) (ON Tryz.underlying4) (jY Tryz.underlying3) (jY Tryz.underlying3)).imp λw cs a h=>by obtain⟨a0,a1,a2,a3,a4,a5⟩:=a;obtain⟨h0,h1,h2,h3,h4,h5⟩:=h;obtain⟨e0,b0⟩:=h0;obtain⟨LR,LU⟩:=b0;obtain⟨e1,b1⟩:=h1;obtain⟨arN,arO⟩:=b1;have e2:=h2;simp only[xy]at e2;have e3:=h3;simp only[xy]at e3;obtain⟨e4,b4⟩:=h4;obtain⟨e5,b5⟩:=h5;have Mh:=iB e4 e5;have Gy:=iB e3 Mh;have AD:=iB e2 Gy;have qJ:=iB e1 AD;have kO:=iB e0 qJ;exact⟨⟨a0,a1,a2,a3,a4,a5⟩,⟨by rw[kO];rfl,LR,LU,arN,arO,b4,b5⟩,aQ _⟩
theorem ajs:Reads Tryz.prog (cK CP) 133:=yC Tryz.underlying133 (c:=CP) (by kernel_rfl) (by decide) akJ
def C5:cz bE where
 size:=11
 is:=λw cs x=>∃v0 v1:Value,cs=[.int .i64 x.aA,.string x.title,.int .i64 x.cD,.int .i64 x.up,.int .i64 x.down,.int .i64 x.other,.int .i64 x.gP.kind,v0,.bool x.block,.int .i64 x.eF,v1]∧aU x.aA∧x.title.size≤maxLen∧aU x.cD∧aU x.up∧aU x.down∧aU x.other∧aU x.gP.kind∧(cK Ad).is w [v0] x.gP.ck∧aU x.eF∧(cK CP).is w [v1] x.eB
 len:=λh=>by obtain⟨v0,v1,rfl,_⟩:=h;rfl
 mono:=λ{w w' cs x}h g=>by obtain⟨v0,v1,e,h0,h1,h2,h3,h4,h5,h6,h7,h8,h9⟩:=h;exact⟨v0,v1,e,h0,h1,h2,h3,h4,h5,h6,((cK Ad)).mono h7 g,h8,((cK CP)).mono h9 g⟩
 cB:=λx=>cH.cB x.aA+(uA.cB x.title+(cH.cB x.cD+(cH.cB x.up+(cH.cB x.down+(cH.cB x.other+(U7.cB x.gP+(xy.cB x.block+(cH.cB x.eF+((cK CP).cB x.eB)))))))))
theorem amm:Reads Tryz.prog C5 135:=
 (ahM (F:=λ_=>True) Tryz.underlying135 (c0:=cH) (c1:=uA) (c2:=cH) (c3:=cH) (c4:=cH) (c5:=cH) (c6:=U7) (c7:=xy) (c8:=cH) (c9:=(cK CP)) (by kernel_rfl) rfl rfl rfl rfl rfl rfl rfl rfl rfl rfl (by kernel_rfl) (by kernel_rfl) (by kernel_rfl) (by kernel_rfl) (by kernel_rfl) (by kernel_rfl) (by kernel_rfl) (by kernel_rfl) (by kernel_rfl) (by kernel_rfl) (jY Tryz.underlying3) (FQ Tryz.underlying9) (jY Tryz.underlying3) (jY Tryz.underlying3) (jY Tryz.underlying3) (jY Tryz.underlying3) ajq (ON Tryz.underlying4) (jY Tryz.underlying3) ajs).imp λw cs a h=>by obtain⟨a0,a1,a2,a3,a4,a5,a6,a7,a8,a9⟩:=a;obtain⟨h0,h1,h2,h3,h4,h5,h6,h7,h8,h9⟩:=h;obtain⟨e0,b0⟩:=h0;obtain⟨e1,b1⟩:=h1;obtain⟨e2,b2⟩:=h2;obtain⟨e3,b3⟩:=h3;obtain⟨e4,b4⟩:=h4;obtain⟨e5,b5⟩:=h5;obtain⟨atS,e6,b6⟩:=h6;obtain⟨arP,arQ⟩:=b6;have e7:=h7;simp only[xy]at e7;obtain⟨e8,b8⟩:=h8;obtain⟨s9,e9⟩:=vg.1 (((cK CP)).len h9);rw[e9]at h9;have asP:=iB e8 e9;have asO:=iB e7 asP;have asN:=iB e6 asO;have V3:=iB e5 asN;have Mh:=iB e4 V3;have Gy:=iB e3 Mh;have AD:=iB e2 Gy;have qJ:=iB e1 AD;have kO:=iB e0 qJ;exact⟨⟨a0,a1,a2,a3,a4,a5,a6,a7,a8,a9⟩,⟨atS,s9,by rw[kO];rfl,b0,b1,b2,b3,b4,b5,arP,arQ,b8,h9⟩,aQ _⟩
theorem akH:Reads Tryz.prog (cK C5) 68:=yC Tryz.underlying68 (c:=C5) (by kernel_rfl) (by decide) amm
def CN:cz kL where
 size:=2
 is:=λw cs x=>∃v0:Value,cs=[.int .i64 x.aA,v0]∧aU x.aA∧(cK C5).is w [v0] x.bU
 len:=λh=>by obtain⟨v0,rfl,_⟩:=h;rfl
 mono:=λ{w w' cs x}h g=>by obtain⟨v0,e,h0,h1⟩:=h;exact⟨v0,e,h0,((cK C5)).mono h1 g⟩
 cB:=λx=>cH.cB x.aA+((cK C5).cB x.bU)
theorem akI:Reads Tryz.prog CN 70:=
 (Fq (F:=λ_=>True) Tryz.underlying70 (c0:=cH) (c1:=(cK C5)) (by kernel_rfl) rfl rfl (by kernel_rfl) (by kernel_rfl) (jY Tryz.underlying3) akH).imp λw cs a h=>by obtain⟨a0,a1⟩:=a;obtain⟨h0,h1⟩:=h;obtain⟨e0,b0⟩:=h0;obtain⟨s1,e1⟩:=vg.1 (((cK C5)).len h1);rw[e1]at h1;have kO:=iB e0 e1;exact⟨⟨a0,a1⟩,⟨s1,by rw[kO];rfl,b0,h1⟩,aQ _⟩
theorem ajr:Reads Tryz.prog (cK CN) 27:=yC Tryz.underlying27 (c:=CN) (by kernel_rfl) (by decide) akI
def Cj:cz nY where
 size:=3
 is:=λw cs x=>cs=[.int .i64 x.aA,.int .i64 x.list,.int .i64 x.ku]∧aU x.aA∧aU x.list∧aU x.ku
 len:=λh=>by obtain⟨rfl,_⟩:=h;rfl
 mono:=λh _=>h
 cB:=λx=>cH.cB x.aA+(cH.cB x.list+(cH.cB x.ku))
theorem ahJ:Reads Tryz.prog Cj 57:=
 (Om (F:=λ_=>True) Tryz.underlying57 (c0:=cH) (c1:=cH) (c2:=cH) (by kernel_rfl) rfl rfl rfl (by kernel_rfl) (by kernel_rfl) (by kernel_rfl) (jY Tryz.underlying3) (jY Tryz.underlying3) (jY Tryz.underlying3)).imp λw cs a h=>by obtain⟨a0,a1,a2⟩:=a;obtain⟨h0,h1,h2⟩:=h;obtain⟨e0,b0⟩:=h0;obtain⟨e1,b1⟩:=h1;obtain⟨e2,b2⟩:=h2;have qJ:=iB e1 e2;have kO:=iB e0 qJ;exact⟨⟨a0,a1,a2⟩,⟨by rw[kO];rfl,b0,b1,b2⟩,aQ _⟩
theorem ahr:Reads Tryz.prog (cK Cj) 28:=yC Tryz.underlying28 (c:=Cj) (by kernel_rfl) (by decide) ahJ
def ad9:cz iT where
 size:=5
 is:=λw cs x=>∃v0 v1 v2 v3 v4:Value,cs=[v0,v1,v2,v3,v4]∧(cK zU).is w [v0] x.aZ.bg∧(cK Al).is w [v1] x.aZ.cW∧(cK Cx).is w [v2] x.cA∧(cK CN).is w [v3] x.cV∧(cK Cj).is w [v4] x.cm
 len:=λh=>by obtain⟨v0,v1,v2,v3,v4,rfl,_⟩:=h;rfl
 mono:=λ{w w' cs x}h g=>by obtain⟨v0,v1,v2,v3,v4,e,h0,h1,h2,h3,h4⟩:=h;exact⟨v0,v1,v2,v3,v4,e,((cK zU)).mono h0 g,((cK Al)).mono h1 g,((cK Cx)).mono h2 g,((cK CN)).mono h3 g,((cK Cj)).mono h4 g⟩
 cB:=λx=>WB.cB x.aZ+((cK Cx).cB x.cA+((cK CN).cB x.cV+((cK Cj).cB x.cm)))
theorem ajw:Reads Tryz.prog ad9 30:=
 (Y2 (F:=λ_=>True) Tryz.underlying30 (c0:=WB) (c1:=(cK Cx)) (c2:=(cK CN)) (c3:=(cK Cj)) (by kernel_rfl) rfl rfl rfl rfl (by kernel_rfl) (by kernel_rfl) (by kernel_rfl) (by kernel_rfl) amn ah8 ajr ahr).imp λw cs a h=>by obtain⟨a0,a1,a2,a3⟩:=a;obtain⟨h0,h1,h2,h3⟩:=h;obtain⟨atO,atP,e0,b0⟩:=h0;obtain⟨LR,LU⟩:=b0;obtain⟨s1,e1⟩:=vg.1 (((cK Cx)).len h1);rw[e1]at h1;obtain⟨s2,e2⟩:=vg.1 (((cK CN)).len h2);rw[e2]at h2;obtain⟨s3,e3⟩:=vg.1 (((cK Cj)).len h3);rw[e3]at h3;have AD:=iB e2 e3;have qJ:=iB e1 AD;have kO:=iB e0 qJ;exact⟨⟨a0,a1,a2,a3⟩,⟨atO,atP,s1,s2,s3,by rw[kO];rfl,LR,LU,h1,h2,h3⟩,aQ _⟩
def PA:cz fk where
 size:=5
 is:=λw cs x=>cs=[.int .i64 x.time,.int .i64 x.kind,.int .i64 x.kr,.int .i64 x.cZ,.int .i64 x.level]∧aU x.time∧aU x.kind∧aU x.kr∧aU x.cZ∧aU x.level
 len:=λh=>by obtain⟨rfl,_⟩:=h;rfl
 mono:=λh _=>h
 cB:=λx=>cH.cB x.time+(cH.cB x.kind+(cH.cB x.kr+(cH.cB x.cZ+(cH.cB x.level))))
theorem aiE:Reads Tryz.prog PA 37:=
 (aib (F:=λ_=>True) Tryz.underlying37 (c0:=cH) (c1:=cH) (c2:=cH) (c3:=cH) (c4:=cH) (by kernel_rfl) rfl rfl rfl rfl rfl (by kernel_rfl) (by kernel_rfl) (by kernel_rfl) (by kernel_rfl) (by kernel_rfl) (jY Tryz.underlying3) (jY Tryz.underlying3) (jY Tryz.underlying3) (jY Tryz.underlying3) (jY Tryz.underlying3)).imp λw cs a h=>by obtain⟨a0,a1,a2,a3,a4⟩:=a;obtain⟨h0,h1,h2,h3,h4⟩:=h;obtain⟨e0,b0⟩:=h0;obtain⟨e1,b1⟩:=h1;obtain⟨e2,b2⟩:=h2;obtain⟨e3,b3⟩:=h3;obtain⟨e4,b4⟩:=h4;have Gy:=iB e3 e4;have AD:=iB e2 Gy;have qJ:=iB e1 AD;have kO:=iB e0 qJ;exact⟨⟨a0,a1,a2,a3,a4⟩,⟨by rw[kO];rfl,b0,b1,b2,b3,b4⟩,aQ _⟩
theorem ah7:Reads Tryz.prog (cK PA) 31:=yC Tryz.underlying31 (c:=PA) (by kernel_rfl) (by decide) aiE
end
def lW(l:List Int):Prop:=∀x∈l,0≤x∧x<1000000000
def bF:List Int→Int
 |[]=>0
 |x::r=>x+1000000000*bF r
def bz(n:Nat):List Int:=if h:n=0 then[]else((n % 1000000000:Nat):Int)::bz (n / 1000000000)
termination_by n
decreasing_by omega
theorem tX:bz 0=[]:=by unfold bz;simp
theorem zW{n:Nat}(h:0<n):bz n=((n % 1000000000:Nat):Int)::bz (n / 1000000000):=by rw[bz,dif_neg (by omega)]
theorem zZ:lW []:=λx h=>by simp at h
theorem yH{x:Int}{l:List Int}:lW (x::l)↔(0≤x∧x<1000000000)∧lW l:=by
 constructor
 ·intro h;exact⟨h x (by simp),λy hy=>h y (by simp [hy])⟩
 ·rintro⟨h1,h2⟩ y hy;rcases jt.1 hy with rfl|hy
  ·exact h1
  ·exact h2 y hy
theorem DY{l m:List Int}:lW (l++m)↔lW l∧lW m:=by
 constructor
 ·intro h;exact⟨λx hx=>h x (by simp [hx]),λx hx=>h x (by simp [hx])⟩
 ·rintro⟨h1,h2⟩ y hy;rcases jP.1 hy with hy|hy
  ·exact h1 y hy
  ·exact h2 y hy
theorem xm(n:Nat):lW (bz n):=by
 induction n using Nat.strongRecOn with
 |_ n ih=>
  by_cases h:n=0
  ·subst h;rw[tX];exact zZ
  ·rw[zW (by omega),yH];exact⟨⟨by omega,by omega⟩,ih _ (by omega)⟩
theorem xh(n:Nat):bF (bz n)=n:=by
 induction n using Nat.strongRecOn with
 |_ n ih=>
  by_cases h:n=0
  ·subst h;rw[tX];rfl
  ·rw[zW (by omega),bF,ih _ (by omega)];omega
theorem DT{l:List Int}(h:lW l):0≤bF l:=by
 induction l with
 |nil=>simp [bF]
 |cons x r ih=>have h1:=yH.1 h;have:=ih h1.2;simp only[bF];omega
theorem IE(l m:List Int):bF (l++m)=bF l+1000000000 ^ l.length*bF m:=by
 induction l with
 |nil=>simp [bF]
 |cons x r ih=>simp only[nO,bF,ih,List.length_cons,Int.pow_succ];rw[Int.mul_add,←Int.mul_assoc,Int.mul_comm (1000000000 ^ r.length) 1000000000];omega
theorem Ln{l:List Int}(h:lW l):bF l<1000000000 ^ l.length:=by
 induction l with
 |nil=>simp [bF]
 |cons x r ih=>
  have h1:=yH.1 h;have:=ih h1.2;simp only[bF,List.length_cons,Int.pow_succ];generalize (1000000000:Int) ^ r.length=q at *
  omega
def Ak:List Int→List Int
 |[]=>[]
 |x::r=>if Ak r=[]∧x=0 then[]else x::Ak r
theorem aoc{l:List Int}(h:lW l):Ak l=bz (bF l).toNat:=by
 induction l with
 |nil=>simp [Ak,bF,tX]
 |cons x r ih=>
  have h1:=yH.1 h;have h2:=ih h1.2;have h3:=DT h1.2;simp only[Ak,bF,h2];by_cases hz:bF r=0
  ·rw[hz];simp only[Int.toNat_zero,tX,true_and];by_cases hx:x=0
   ·subst hx;simp [tX]
   ·rw[aK hx,zW (by omega)];have e1:(x+1000000000*0).toNat % 1000000000=x.toNat:=by omega
    have e2:(x+1000000000*0).toNat / 1000000000=0:=by omega
    rw[e1,e2,tX,Int.toNat_of_nonneg h1.1.1]
  ·have hne:bz (bF r).toNat≠[]:=by rw[zW (by omega)];simp
   rw[aK (λhh=>hne hh.1),zW (n:=(x+1000000000*bF r).toNat) (by omega)];have e1:(((x+1000000000*bF r).toNat % 1000000000:Nat):Int)=x:=by omega
   have e2:(x+1000000000*bF r).toNat / 1000000000=(bF r).toNat:=by omega
   rw[e1,e2]
theorem ak9(l:List Int)(x:Int):Ak (l++[x])=if x=0 then Ak l else l++[x]:=by
 induction l with
 |nil=>simp [Ak]
 |cons y r ih=>
  simp only[nO,Ak,ih];by_cases hx:x=0
  ·simp [hx]
  ·simp [hx]
theorem Ot{n:Nat}(h:n<1000000000)(h0:0<n):bz n=[(n:Int)]:=by rw[zW h0,Nat.div_eq_of_lt h,tX,Nat.mod_eq_of_lt h]
theorem ai2{n:Nat}:bz n=[]↔n=0:=by
 constructor
 ·intro h;have:=xh n;rw[h]at this;simp [bF]at this;omega
 ·rintro rfl;exact tX
theorem amj(l:List Int)(c x y u v S:Int)(h:bF l+1000000000 ^ l.length*(c+(x+1000000000*u)+(y+1000000000*v))=S):
  bF (l++[(c+x+y) % 1000000000])+1000000000 ^ (l.length+1)*((c+x+y) / 1000000000+u+v)=S:=by
 rw[IE,Int.pow_succ,←h];simp only[bF];have hn:=Int.emod_add_mul_ediv (c+x+y) 1000000000;generalize (1000000000:Int) ^ l.length=q at *
 generalize (c+x+y) % 1000000000=r at *
 generalize (c+x+y) / 1000000000=d at *
 have:r=c+x+y-1000000000*d:=by omega
 subst this
 grind
theorem D0(l:List Int)(k:Nat):bF (l.drop k)=l.getD k 0+1000000000*bF (l.drop (k+1)):=by
 by_cases h:k<l.length
 ·rw[List.drop_eq_getElem_cons h,bF];simp [List.getD,bR h]
 ·rw[List.drop_eq_nil_of_le (by omega),List.drop_eq_nil_of_le (by omega)];simp [bF,List.getD,oL (show l.length≤k by omega)]
theorem Cn{l:List Int}(h:lW l)(k:Nat):0≤l.getD k 0∧l.getD k 0<1000000000:=by
 by_cases hk:k<l.length
 ·simp only[List.getD,bR hk,Option.getD_some];exact h _ (List.getElem_mem hk)
 ·simp [List.getD,oL (show l.length≤k by omega)]
theorem wZ{l:List Int}{k:Nat}(h:k<l.length):l[k]=l.getD k 0:=by simp [List.getD,bR h]
theorem KR{l:List Int}{k:Nat}(h:l.length≤k):l.getD k 0=0:=by simp [List.getD,oL h]
theorem am6(l:List Int)(j:Nat)(d:Int)(h:j<l.length):bF (l.set j d)=bF l+(d-l.getD j 0)*1000000000 ^ j:=by
 induction l generalizing j with
 |nil=>simp at h
 |cons x r ih=>
  cases j with
  |zero=>simp [bF];omega
  |succ j=>
   simp only[List.set_cons_succ,bF,ih j (by simpa using h),Int.pow_succ,cQ]
   grind
theorem UW{l:List Int}(h:lW l)(j:Nat)(d:Int)(hd:0≤d∧d<1000000000):lW (l.set j d):=λx hx=>by
 rcases List.mem_or_eq_of_mem_set hx with h1|rfl
 ·exact h x h1
 ·exact hd
theorem YS(l:List Int)(k:Nat):bF (l.take (k+1))=bF (l.take k)+1000000000 ^ k*l.getD k 0:=by
 by_cases h:k<l.length
 ·rw[List.take_succ_eq_append_getElem h,IE,oM,Nat.min_eq_left (by omega),wZ h];simp [bF]
 ·rw[KR (by omega),rS (by omega),rS (by omega)];simp
theorem Lf{l:List Int}(h:lW l)(k:Nat):lW (l.take k):=λx hx=>h x (wC hx)
theorem ak8(out A D:List Int)(i k:Nat)(c x:Int)(hk:i+k<out.length)
  (h:bF out+c*1000000000 ^ (i+k)=bF (A.take i)*bF D+x*1000000000 ^ i*bF (D.take k)):
  bF (out.set (i+k) ((out.getD (i+k) 0+c+x*D.getD k 0) % 1000000000))+(out.getD (i+k) 0+c+x*D.getD k 0) / 1000000000*1000000000 ^ (i+(k+1))=bF (A.take i)*bF D+x*1000000000 ^ i*bF (D.take (k+1)):=by
 rw[am6 _ _ _ hk,YS,←jD,Int.pow_succ];rw[Int.pow_add]at *
 have hn:=Int.emod_add_mul_ediv (out.getD (i+k) 0+c+x*D.getD k 0) 1000000000;generalize (out.getD (i+k) 0+c+x*D.getD k 0) % 1000000000=r at *
 generalize (out.getD (i+k) 0+c+x*D.getD k 0) / 1000000000=d at *
 generalize (1000000000:Int) ^ i=q at *
 generalize (1000000000:Int) ^ k=p at *
 generalize D.getD k 0=y at *
 generalize out.getD (i+k) 0=o at *
 grind
theorem I7(k:Nat):(0:Int)<1000000000 ^ k:=Int.pow_pos (by omega)
theorem ajK(out A D:List Int)(i:Nat)(c x:Int)(ho:lW out)(hA:lW A)(hD:lW D)(hi:i≤A.length)(hx:0≤x∧x<1000000000)(hc:0≤c)
  (h:bF out+c*1000000000 ^ (i+(D.length+1))=bF (A.take i)*bF D+x*1000000000 ^ i*bF (D.take (D.length+1))):c=0:=by
 have h1:=DT ho;have h2:=Ln (Lf hA i);rw[oM,Nat.min_eq_left hi]at h2;have h3:=Ln hD;have h4:=DT hD;have h5:=DT (Lf hA i);rw[rS (l:=D) (by omega),←jD,Int.pow_succ,Int.pow_add]at h;have hq:=I7 i;have hp:=I7 D.length;generalize (1000000000:Int) ^ i=q at *
 generalize (1000000000:Int) ^ D.length=p at *
 generalize bF D=d at *
 generalize bF (A.take i)=a at *
 generalize bF out=o at *
 have hxq:x*q≤999999999*q:=Int.mul_le_mul_of_nonneg_right (by omega) (by omega);have avt:0≤x*q:=Int.mul_nonneg (by omega) (by omega);have hP:a+x*q<1000000000*q:=by omega
 have e:a*d+x*q*d=(a+x*q)*d:=by grind
 rw[e]at h;have hP0:0≤a+x*q:=by omega
 generalize a+x*q=P at *
 have h6:P*d≤P*p:=Int.mul_le_mul_of_nonneg_left (by omega) hP0;have h7:P*p<1000000000*q*p:=Int.mul_lt_mul_of_pos_right hP hp;rcases Int.lt_or_le 0 c with hc1|hc1
 ·exfalso;have h8:1*(q*p*1000000000)≤c*(q*p*1000000000):=Int.mul_le_mul_of_nonneg_right (by omega) (Int.mul_nonneg (Int.mul_nonneg (by omega) (by omega)) (by omega));have h9:1000000000*q*p=1*(q*p*1000000000):=by grind
  omega
 ·omega
theorem amF(out A D:List Int)(i k:Nat)(x:Int)(hx:x=A.getD i 0)(hk:D.length≤k)(h:bF out+0*1000000000 ^ (i+k)=bF (A.take i)*bF D+x*1000000000 ^ i*bF (D.take k)):
  bF out=bF (A.take (i+1))*bF D:=by
 rw[YS,←hx];rw[rS (l:=D) (by omega)]at h;generalize (1000000000:Int) ^ i=q at *
 generalize bF (A.take i)=a at *
 generalize bF D=d at *
 clear hx hk
 grind
theorem aqc{y:Nat}(h:0<y):(1000000000:Int) ^ ((bz y).length-1)≤y:=by
 induction y using Nat.strongRecOn with
 |_ y ih=>
  rw[zW h];simp only[List.length_cons,Nat.add_sub_cancel];by_cases h1:y / 1000000000=0
  ·rw[h1,tX];simp;omega
  ·have h2:=ih (y / 1000000000) (by omega) (by omega);have h3:0<(bz (y / 1000000000)).length:=List.length_pos_iff.2 (by rw[Ne,ai2];exact h1);obtain⟨q,hq⟩:∃q,(bz (y / 1000000000)).length=q+1:=⟨_,(Nat.sub_add_cancel h3).symm⟩
   rw[hq]at h2 ⊢;simp only[Nat.add_sub_cancel]at h2;rw[Int.pow_succ];generalize (1000000000:Int) ^ q=p at *
   omega
theorem amk{a b:Nat}(h:a≤b):(1000000000:Int) ^ a≤1000000000 ^ b:=by
 obtain⟨c,rfl⟩:=Nat.exists_eq_add_of_le h;rw[Int.pow_add];have h1:=I7 a;have h2:=I7 c;generalize (1000000000:Int) ^ a=p at *
 generalize (1000000000:Int) ^ c=q at *
 have h4:p*1≤p*q:=Int.mul_le_mul_of_nonneg_left (by omega) (by omega);omega
theorem Tv{x y:Nat}(h:(bz x).length<(bz y).length):x<y:=by
 have h1:=Ln (xm x);rw[xh]at h1
 have h0:0<y:=by
  rcases Nat.eq_zero_or_pos y with rfl|h0
  ·rw[tX]at h;simp at h
  ·exact h0
 have h2:=aqc h0;have h3:=amk (a:=(bz x).length) (b:=(bz y).length-1) (by omega);omega
theorem Y9{x y:Nat}(k:Nat)(hlx:k<(bz x).length)(hly:k<(bz y).length)(hd:(bz x).drop (k+1)=(bz y).drop (k+1))(h:(bz x).getD k 0<(bz y).getD k 0):x<y:=by
 have e1:=IE ((bz x).take k) ((bz x).drop k);have e2:=IE ((bz y).take k) ((bz y).drop k);rw[List.take_append_drop,xh,D0,oM,Nat.min_eq_left (by omega)]at e1 e2;rw[hd]at e1;have b1:=Ln (Lf (xm x) k);have b2:=DT (Lf (xm y) k);rw[oM,Nat.min_eq_left (by omega)]at b1;generalize bF ((bz y).drop (k+1))=r at *
 generalize (bz x).getD k 0=dx at *
 generalize (bz y).getD k 0=dy at *
 have hp:=I7 k;generalize (1000000000:Int) ^ k=p at *
 have h4:p*(dx+1000000000*r+1)≤p*(dy+1000000000*r):=Int.mul_le_mul_of_nonneg_left (by omega) (by omega);rw[Int.mul_add p (dx+1000000000*r) 1]at h4;generalize p*(dx+1000000000*r)=u at *
 generalize p*(dy+1000000000*r)=v at *
 omega
theorem ahC{x y:Nat}(h:(bz x).drop 0=(bz y).drop 0):x=y:=by have h1:=xh x;have h2:=xh y;simp at h;rw[h,h2]at h1;omega
theorem Za{x:Nat}(k:Nat):0≤bF ((bz x).drop k)∧bF ((bz x).drop k)≤x:=by
 have hok:lW ((bz x).drop k):=λy hy=>xm x y (List.mem_of_mem_drop hy)
 have e1:=IE ((bz x).take k) ((bz x).drop k);rw[List.take_append_drop,xh]at e1;have b2:=DT (Lf (xm x) k);have b3:=DT hok;have hp:=I7 ((bz x).take k).length;generalize (1000000000:Int) ^ ((bz x).take k).length=p at *
 generalize bF ((bz x).drop k)=r at *
 have h4:1*r≤p*r:=Int.mul_le_mul_of_nonneg_right (by omega) b3;omega
theorem akl(l:List Int)(c x y u v S:Int)(d c':Int)(hd:d=x-c-y+1000000000*c')(h:bF l+1000000000 ^ l.length*((x+1000000000*u) -(y+1000000000*v) -c)=S):
  bF (l++[d])+1000000000 ^ (l.length+1)*(u-v-c')=S:=by
 rw[IE,Int.pow_succ,←h];simp only[bF];generalize (1000000000:Int) ^ l.length=q at *
 subst hd
 grind
theorem al3{l:List Int}(h:lW l)(c:Int)(S:Int)(hS:0≤S)(hc:c=0∨c=1)(hE:bF l+1000000000 ^ l.length*(0-0-c)=S):bF l=S:=by
 have:=Ln h;generalize (1000000000:Int) ^ l.length=q at *
 rcases hc with rfl|rfl<;>omega
theorem ak0(out X:List Int)(k:Nat)(n rest:Int)(hk:k<out.length)(hn:0<n)(h:bF (out.drop (k+1))*n+rest=bF (X.drop (k+1))):
  bF ((out.set k ((rest*1000000000+X.getD k 0) / n)).drop k)*n+(rest*1000000000+X.getD k 0) % n=bF (X.drop k):=by
 rw[D0 X k,←h,D0];have e1:(out.set k ((rest*1000000000+X.getD k 0) / n)).getD k 0=(rest*1000000000+X.getD k 0) / n:=by simp [List.getD,oK hk]
 have e2:(out.set k ((rest*1000000000+X.getD k 0) / n)).drop (k+1)=out.drop (k+1):=by rw[List.drop_set_of_lt (by omega)]
 rw[e1,e2];have:=Int.emod_add_mul_ediv (rest*1000000000+X.getD k 0) n;generalize (rest*1000000000+X.getD k 0) % n=r at *
 generalize hq:(rest*1000000000+X.getD k 0) / n=q at *
 grind
theorem Ul{n:Nat}(h:n<1000000000000000000000000000):(bz n).length≤3:=by
 by_cases h0:n=0
 ·subst h0;simp [tX]
 rw[zW (by omega)];by_cases h1:n / 1000000000=0
 ·rw[h1];simp [tX]
 rw[zW (by omega)];by_cases h2:n / 1000000000 / 1000000000=0
 ·rw[h2];simp [tX]
 rw[zW (by omega),show n / 1000000000 / 1000000000 / 1000000000=0 by omega];simp [tX]
section
open Go.RowKit
def Eh(n lo hi:Int):Bool:=decide (lo≤n∧n≤hi)
theorem ajP(n lo hi:Int)(w:World):
  Calls Tryz.prog 112 #[.int .i64 n,.int .i64 lo,.int .i64 hi] w λe w'=>e=.returned (.bool (Eh n lo hi))∧w=w':=by
 by_cases h1:lo≤n
 ·go_enter Tryz.func112,Tryz.ntmps112
  go_wp2
  go_ret
  exact⟨by simp [Eh,h1],rfl⟩
 ·have h1':decide (lo≤n)=false:=by simpa using h1
  go_enter Tryz.func112,Tryz.ntmps112
  go_wp2
  go_ret
  exact⟨by simp [Eh];omega,rfl⟩
end
section
open Go.RowKit
def cz.Flat{α:Type}(c:cz α):Prop:=∀w w' cs a,c.is w cs a→c.is w' cs a
theorem alS:cH.Flat:=λ_ _ _ _ h=>h
def je{α:Type}(w:World)(base:Nat)(e:TypeId)(c:cz α)(v:Value)(l:List α):Prop:=∃xs:List Value,w.ownsRow base e c.size v l.length xs∧∀i(h:i<l.length),c.is w ((xs.drop (i*c.size)).take c.size) l[i]
theorem je.nil{α:Type}(w:World)(base:Nat)(e:TypeId)(c:cz α):je w base e c (.slice none 0 0) []:=
 ⟨[],World.ownsRow_nil w base e c.size,λi h=>by simp at h⟩
theorem je.mono{α:Type}{w w':World}{base:Nat}{e:TypeId}{c:cz α}{v:Value}{l:List α}(h:je w base e c v l)(g:Gr w w'):je w' base e c v l:=by
 obtain⟨xs,h1,h2⟩:=h;refine⟨xs,⟨h1.1,?_⟩,λi hi=>c.mono (h2 i hi) g⟩;rcases h1.2 with h|⟨b,cap,cur,rfl,hb,hh,r⟩
 ·exact .inl h
 ·exact .inr ⟨b,cap,cur,rfl,hb,by rw[g.below.block b (xF.1 hh).1];exact hh,r⟩
theorem je.alloc{α:Type}{w:World}{base:Nat}{e:TypeId}{c:cz α}{v:Value}{l:List α}(h:je w base e c v l)(o:Obj):je (w.alloc o) base e c v l:=h.mono ((Gr.refl _).alloc o)
theorem je.gr{α:Type}{W w w':World}{base:Nat}{e:TypeId}{c:cz α}{v:Value}{l:List α}(h:je w base e c v l)(hG:Gr W w)(hb:W.heap.size≤base)(hg:w.grownBy w' v.ownBlock):Gr W w':=by obtain⟨xs,h1,_⟩:=h;exact Below.grown hG hg hG.size (λk hk=>Nat.le_trans hb (h1.lt k hk).1)
theorem je.is{α:Type}{w:World}{base:Nat}{e:TypeId}{c:cz α}{v:Value}{l:List α}(h:je w base e c v l):(cK c).is w [v] l:=by
 obtain⟨xs,h1,h2⟩:=h;rcases h1.2 with⟨rfl,h3⟩|⟨b,cap,cur,rfl,hb,hh,hnc,Hl,hsz,au2⟩
 ·exact .inl ⟨rfl,Am h3⟩
 ·refine .inr ⟨b,0,none,cap,rfl,hnc,Hl,λi hi=>⟨rfl,_,λj hj=>?_,h2 i hi⟩⟩
  have hlt:i*c.size+j<l.length*c.size:=by have:(i+1)*c.size≤l.length*c.size:=qp _ hi;rw[gJ]at this;omega
  rw[Nat.zero_add,h1.cellAt (i*c.size+j) hlt,List.getElem?_take_of_lt hj,List.getElem?_drop]
theorem je.shape{α:Type}{w:World}{base:Nat}{e:TypeId}{c:cz α}{v:Value}{l:List α}(h:je w base e c v l):∃(a:Option Addr)(n cap:Nat),v=.slice a n cap∧Hid (n=l.length)∧n≤cap∧cap≤9223372036854775807:=we h.is
theorem aqM{P:Program}{α:Type}{c:cz α}{o:Oper}{a:Act}{K:Act→World→Prop}{Q:Exit→Act→World→Prop}(w:World)(s x:Operand)(t:TypeId)
  (ho:o.op=.call {callee:=.builtin .append,args:=#[s,x],argTypes:=#[t,t]})
  (e:TypeId) (z:Value) (bytes:Nat) (ht:P.underlying t=some (.slice e)) (hinfo:(P.info? e).map (λi=>(i.zero,i.size,i.bytes))=some (some z,c.size,bytes)) (hzs:z.cells.size=c.size) (hsz:0<c.size) (hf:c.Flat)
  (base:Nat) (v:Value) (l:List α) (hs:a.eval s=v) (hown:je w base e c v l)
  (g:Nat) (hx:a.eval x=.slice (some ⟨g,0,none⟩) 1 1) (y:α) (cs:Array Value) (tt:TypeId) (hg:w.heap[g]? =some (.cells cs tt (0,0))) (hy:c.is w cs.toList y) (h1:∀u∈cs.toList,u.oneCell'=true)
  (hlen:(l.length+1)*bytes≤140737488355328) (hm:l.length+1≤maxLen) (hbase:base≤w.heap.size)
  (h:∀v' w',je w' base e c v' (l++[y])→w.grownBy w' v.ownBlock→K (a.put o.dst v') w'):o.wp P a w K Q:=by
 obtain⟨i0,hi,fZ,hz1,Hv⟩:=info_parts hinfo;obtain⟨xs,E5,M1⟩:=hown;have iq:=c.len hy;refine wp_append_own w s x t ho base e i0 z c.size bytes ht hi fZ hz1 Hv hzs hsz v l.length xs hs E5 ⟨g,0,none⟩ 1 1 cs.toList hx (by simpa using iq) ?_ h1 hm hlen hbase ?_
 ·intro j u hu;have ae5:(⟨g,0,none⟩:Addr).add j=⟨g,j,none⟩:=by unfold Addr.add;split<;>simp_all
  rw[ae5,cell_of_row w g j cs tt (0,0) hg];simpa using hu
 ·intro v' w' h3 h4 _;refine h v' w' ⟨xs++cs.toList,by simpa using h3,λi hi'=>?_⟩ h4;have hxl:=E5.1;by_cases hil:i<l.length
  ·have hle:(i+1)*c.size≤l.length*c.size:=qp _ hil;rw[gJ,Nat.one_mul]at hle;rw[List.getElem_append_left hil]
   have e1:((xs++cs.toList).drop (i*c.size)).take c.size=(xs.drop (i*c.size)).take c.size:=by rw[List.drop_append_of_le_length (by omega),List.take_append_of_le_length (by simp;omega)]
   rw[e1];exact hf _ _ _ _ (M1 i hil)
  ·have ata:i=l.length:=by simp at hi';omega
   subst ata;rw[List.getElem_append_right (aQ _)]
   have e1:((xs++cs.toList).drop (l.length*c.size)).take c.size=cs.toList:=by rw[←hxl,List.drop_left];exact rS (by omega)
   rw[e1];simpa using hf _ _ _ _ hy
theorem ale{P:Program}{α:Type}{c:cz α}{ops:Array Oper}{rest:List Oper}{o:Oper}{a:Act}{Q:Exit→Act→World→Prop}(w:World)(hgd:o.guard=none)(s x:Operand)(t:TypeId)
  (ho:o.op=.call {callee:=.builtin .append,args:=#[s,x],argTypes:=#[t,t]})
  (e:TypeId) (z:Value) (bytes:Nat) (ht:P.underlying t=some (.slice e)) (hinfo:(P.info? e).map (λi=>(i.zero,i.size,i.bytes))=some (some z,c.size,bytes)) (hzs:z.cells.size=c.size) (hsz:0<c.size) (hf:c.Flat)
  (base:Nat) (v:Value) (l:List α) (hs:a.eval s=v) (hown:je w base e c v l)
  (g:Nat) (hx:a.eval x=.slice (some ⟨g,0,none⟩) 1 1) (y:α) (cs:Array Value) (tt:TypeId) (hg:w.heap[g]? =some (.cells cs tt (0,0))) (hy:c.is w cs.toList y) (h1:∀u∈cs.toList,u.oneCell'=true)
  (hlen:(l.length+1)*bytes≤140737488355328) (hm:l.length+1≤maxLen) (hbase:base≤w.heap.size)
  (h:∀v' w',je w' base e c v' (l++[y])→w.grownBy w' v.ownBlock→wpList P ops Q rest (a.put o.dst v') w'):wpList P ops Q (o::rest) a w:=
 wpList_plain hgd λ_ hK=>aqM w s x t ho e z bytes ht hinfo hzs hsz hf base v l hs hown g hx y cs tt hg hy h1 hlen hm hbase λv' w' h2 h3=>hK _ _ (h v' w' h2 h3)
theorem Cr{ops:Array Oper}{rest:List Oper}{o:Oper}{a:Act}{Q:Exit→Act→World→Prop}(w:World)(hgd:o.guard=none)(s x:Operand)(t:TypeId)
  (ho:o.op=.call {callee:=.builtin .append,args:=#[s,x],argTypes:=#[t,t]}) (ht:Tryz.prog.underlying t=some (.slice 3))
  (base:Nat) (v:Value) (l:List Int) (hs:a.eval s=v) (hown:je w base 3 cH v l)
  (g:Nat) (hx:a.eval x=.slice (some ⟨g,0,none⟩) 1 1) (y:Int) (tt:TypeId) (hg:w.heap[g]? =some (.cells #[.int .i64 y] tt (0,0))) (hy:aU y)
  (hlen:l.length≤1000000000000) (hbase:base≤w.heap.size)
  (h:∀v' w',je w' base 3 cH v' (l++[y])→w.grownBy w' v.ownBlock→wpList Tryz.prog ops Q rest (a.put o.dst v') w'):wpList Tryz.prog ops Q (o::rest) a w:=
 ale (c:=cH) w hgd s x t ho 3 (.int .i64 0) 8 ht (by kernel_rfl) rfl (by decide) alS base v l hs hown g hx y _ tt hg ⟨rfl,hy⟩ (by simp [Value.oneCell']) (by omega) (by unfold maxLen;omega) hbase h
end
section
open Go.RowKit
def dN(w:World)(v:Value)(n:Nat):Prop:=(cK cH).is w [v] (bz n)
theorem dN.mono{w w':World}{v:Value}{n:Nat}(h:dN w v n)(g:Gr w w'):dN w' v n:=(cK cH).mono h g
def pJ(B:Nat):Value→Prop
 |.slice (some a) _ _=>B≤a.block
 |_=>True
theorem je.fresh{α:Type}{w:World}{base:Nat}{e:TypeId}{c:cz α}{a:Option Addr}{n cap:Nat}{l:List α}(h:je w base e c (.slice a n cap) l)(k:Nat):pJ base (.slice a k cap):=by
 obtain⟨xs,h1,_⟩:=h;cases a with
 |none=>trivial
 |some a=>exact(h1.lt a.block rfl).1
theorem dN.off{w:World}{v:Value}{n B g i:Nat}{u:Value}(h:dN w v n)(hf:pJ B v)(hg:g<B):dN (w.setCell ⟨g,i,none⟩ u) v n:=by
 rcases h with h|⟨b,off,sp,cap,h1,h2,h3,h4⟩
 ·exact .inl h
 ·refine .inr ⟨b,off,sp,cap,h1,h2,h3,λj hj=>?_⟩;obtain⟨h5,cs,h6,h7⟩:=h4 j hj;refine⟨h5,cs,λq hq=>?_,h7⟩
  have hbg:g≠b:=by
   have:v=.slice (some ⟨b,off,sp⟩) (bz n).length cap:=by simpa using h1
   subst this;simp only[pJ]at hf;omega
  rw[World.cell?_setCell_far _ _ _ _ (by exact hbg)];exact h6 q hq
def Qz(n:Nat)(w:World)(e:Ending)(w':World):Prop:=∃v,e=.returned v∧dN w' v n∧pJ w.heap.size v∧Gr w w'
theorem ZM{α:Type}{c:cz α}{w:World}{a:Option Addr}{n cap:Nat}{l:List α}(h:(cK c).is w [.slice a n cap] l)(k:Nat)(hk:k≤l.length):(cK c).is w [.slice a k cap] (l.take k):=by
 rcases h with⟨h1,rfl⟩|⟨b,off,sp,cap',h1,h2,h3,h4⟩
 ·simp at hk;subst hk;simp at h1;obtain⟨rfl,rfl,rfl⟩:=h1;exact .inl ⟨rfl,by simp⟩
 ·simp only[List.cons.injEq,Value.slice.injEq,and_true]at h1;obtain⟨rfl,rfl,rfl⟩:=h1;have hl:(l.take k).length=k:=by simp;omega
  refine .inr ⟨b,off,sp,cap,by rw[hl],by omega,h3,λi hi=>?_⟩;obtain⟨h5,cs,h6,h7⟩:=h4 i (by omega);exact⟨h5,cs,h6,by simpa using h7⟩
set_option maxHeartbeats 1000000 in
theorem Px(l:List Int)(a:Option Addr)(n cap:Nat)(w:World)(hl:(cK cH).is w [.slice a n cap] l)(hd:lW l):
  Calls Tryz.prog 208 #[.slice a n cap] w λe w'=>∃k,e=.returned (.slice a k cap)∧dN w (.slice a k cap) (bF l).toNat∧w=w':=by
 obtain⟨a',n',cap',e',HN,hn,hcap⟩:=we hl;injection e' with e1 e2 e3
 subst e1;subst e2;subst e3;have HL:=Lib.hid hl;clear hl;have HT:=Lib.hid (aoc hd);clear hd
 go_enter Tryz.func208,Tryz.ntmps208
 go_wp2
 go_loop [3] (λi=>∃k:Nat,k≤n∧i=.int .i64 k∧Hid (Ak (l.take k)=Ak l)) (λi=>(intOf i).toNat)
 case atStart=>exact⟨n,aQ _,rfl,Lib.hid (by rw[HN.out,List.take_length])⟩
 case round=>
  obtain⟨k,hk,rfl,HE⟩:=hrel;cases k with
  |zero=>
   go_wp2
   go_ret
   refine⟨0,rfl,?_,rfl⟩;have h1:=ZM HL.out 0 (jQ _);have h2:=HE.out.trans HT.out;rw[List.take_zero]at h1 h2;unfold dN;rw[←h2];exact h1
  |succ k=>
   have wR:k<l.length:=by have:=HN.out;omega
   obtain⟨b,off,rfl,hc,hi⟩:=yE HL.out wR;have hE:=HE.out;rw[List.take_succ_eq_append_getElem wR,ak9]at hE;clear HE;generalize hgx:l[k]=x at *
   have HX:=Lib.hid hgx;clear hgx;by_cases hx:x=0
   ·subst hx;rw[aO rfl]at hE;have HE:=Lib.hid hE;clear hE
    go_wp2
    go_round
    case rel=>exact⟨k,by omega,by first|rfl|(simp;done),HE⟩
    case measure=>simp [intOf]<;>omega
   ·have hx':(x==0)=false:=by simpa using hx
    rw[aK hx]at hE;have HE:=Lib.hid hE;clear hE
    go_wp2
    go_ret
    refine⟨k+1,rfl,?_,rfl⟩;have h1:=ZM HL.out (k+1) wR;have h2:=HE.out.trans HT.out;unfold dN;rw[←h2,←HX.out,←List.take_succ_eq_append_getElem wR];exact h1
set_option maxHeartbeats 1000000 in
theorem Ue(n:Nat)(w:World)(hn:n≤9223372036854775807):
  Calls Tryz.prog 113 #[.int .i64 n] w (Qz n w):=by
 have hown:je w w.heap.size 3 cH (.slice none 0 0) []:=je.nil _ _ _ _;have HL:Hid ((bz n).length≤3):=Lib.hid (Ul (by omega))
 go_enter Tryz.func113,Tryz.ntmps113
 go_wp2
 go_loopw [0,3] (λx v wr=>∃(m:Nat)(l:List Int),m≤n∧x=.int .i64 m∧je wr w.heap.size 3 cH v l∧Hid (l++bz m=bz n)∧Gr w wr) (λx _ _=>(intOf x).toNat)
 case atStart=>exact⟨n,[],aQ _,rfl,hown,Lib.hid rfl,Gr.refl _⟩
 case round=>
  clear hown;obtain⟨m,l,hm,rfl,hown,HE,hG⟩:=hrel;by_cases h0:0<m
  ·have Dx:l.length≤3:=by have h1:=congrArg List.length HE.out;have h2:=HL.out;simp at h1;omega
   have hsz:=hG.size;have nD:Hid (l++[((m % 1000000000:Nat):Int)]++bz (m / 1000000000)=bz n):=Lib.hid (by rw[←HE.out,zW h0];simp);clear HE;obtain⟨va,vn,vc,rfl,Hvn,h7,h8⟩:=hown.shape
   go_wp2_with (at_builtin;refine Cr _ rfl _ _ 124 rfl Tryz.underlying124 w.heap.size _ l rfl (hown.alloc _) _ rfl _ _ (oH _ _) (by unfold aU;omega) (by omega) (by simp;omega) ?_;intro v' w' sH sG)
   go_roundw
   case rel=>exact⟨m / 1000000000,_,by omega,by go_num,sH,nD,je.gr (hown.alloc _) (hG.alloc _) (aQ _) sG⟩
   case measure=>simp [intOf];omega
  ·go_wp2
   go_ret
   obtain rfl:m=0:=by omega
   have e:=HE.out;rw[tX,List.append_nil]at e;subst e;obtain⟨va,vn,vc,rfl,-,-,-⟩:=hown.shape;exact⟨_,rfl,hown.is,hown.fresh _,hG⟩
set_option maxHeartbeats 2000000 in
theorem anR(x y:Nat)(vx vy:Value)(w:World)(hx:dN w vx x)(hy:dN w vy y)(hxl:(bz x).length≤1000000)(Ng:(bz y).length≤1000000):
  Calls Tryz.prog 165 #[vx,vy] w (Qz (x+y) w):=by
 obtain⟨a,n,cap,rfl,HN,hn,hcap⟩:=we hx;obtain⟨b,m,Xo,rfl,HM,hm,V9⟩:=we hy;have HX:=Lib.hid hx;have HY:=Lib.hid hy;clear hx hy;have Kb:n≤1000000:=by rw[HN.out];exact hxl
 have hm6:m≤1000000:=by rw[HM.out];exact Ng
 clear hxl Ng;have HS:Hid (bF (bz x)+bF (bz y)=((x+y:Nat):Int)):=Lib.hid (by rw[xh,xh];omega);have B3:=Lib.hid (xm x);have JW:=Lib.hid (xm y);have hown:je w w.heap.size 3 cH (.slice none 0 0) []:=je.nil _ _ _ _
 go_enter Tryz.func165,Tryz.ntmps165
 go_wp2
 go_loopw [5,6,7] (λv cr i wr=>∃(k:Nat)(c:Int)(l:List Int),i=.int .i64 k∧cr=.int .i64 c∧0≤c∧c≤1∧(k≤max n m∨c=0∧k≤max n m+1)∧Hid (l.length=k)∧Hid (lW l)∧je wr w.heap.size 3 cH v l∧
  Hid (bF l+1000000000 ^ k*(c+bF ((bz x).drop k)+bF ((bz y).drop k))=((x+y:Nat):Int))∧Gr w wr) (λ_ _ i _=>max n m+1-(intOf i).toNat)
 case atStart=>exact⟨0,0,[],rfl,rfl,by omega,by omega,.inl (jQ _),Lib.hid rfl,Lib.hid zZ,hown,Lib.hid (by rw[←HS.out];simp [bF]),Gr.refl _⟩
 case round=>
  clear hown;obtain⟨k,c,l,rfl,rfl,hc0,hc1,hkm,HK,mG,hown,HE,hG⟩:=hrel;by_cases hgo:k<max n m∨0<c
  ·have hkk:k≤max n m:=by omega
   have hsz:=hG.size;obtain⟨va,vn,vc,rfl,Hvn,h7,h8⟩:=hown.shape;have mY:=Cn B3.out k;have Q6:=Cn JW.out k
   have HX1:Hid (k<n→∃(b off:Nat),a=some ⟨b,off,none⟩∧w.cell? ⟨b,off+k,none⟩=some (.int .i64 ((bz x).getD k 0))):=Lib.hid λh=>by obtain⟨b,off,e,h1,_⟩:=yE HX.out (k:=k) (by have:=HN.out;omega);exact⟨b,off,e,by rw[h1,wZ]⟩
   have JY:Hid (k<m→∃(b' off:Nat),b=some ⟨b',off,none⟩∧w.cell? ⟨b',off+k,none⟩=some (.int .i64 ((bz y).getD k 0))):=Lib.hid λh=>by obtain⟨b,off,e,h1,_⟩:=yE HY.out (k:=k) (by have:=HM.out;omega);exact⟨b,off,e,by rw[h1,wZ]⟩
   have HX0:Hid (¬k<n→(bz x).getD k 0=0):=Lib.hid λh=>KR (by have:=HN.out;omega)
   have JX:Hid (¬k<m→(bz y).getD k 0=0):=Lib.hid λh=>KR (by have:=HM.out;omega)
   have nD:Hid (bF (l++[(c+(bz x).getD k 0+(bz y).getD k 0) % 1000000000])+1000000000 ^ (k+1)*((c+(bz x).getD k 0+(bz y).getD k 0) / 1000000000+bF ((bz x).drop (k+1))+bF ((bz y).drop (k+1)))=((x+y:Nat):Int)):=Lib.hid (by
    have h1:=HE.out;rw[D0 (bz x) k,D0 (bz y) k,←HK.out]at h1;have h2:=amj l _ _ _ _ _ _ h1;rw[HK.out]at h2
    exact h2)
   clear HE;generalize (bz x).getD k 0=dx at *
   generalize (bz y).getD k 0=dy at *
   by_cases h1:k<n<;>by_cases h2:k<m
   ·obtain⟨B1,o1,rfl,c1⟩:=HX1.out h1;replace c1:=hG.cell c1;obtain⟨B2,o2,rfl,c2⟩:=JY.out h2;replace c2:=hG.cell c2;have hz:k<max n m:=by omega
    go_wp2_with (at_builtin;refine Cr _ rfl _ _ 124 rfl Tryz.underlying124 w.heap.size _ l rfl (hown.alloc _) _ rfl _ _ (oH _ _) (by unfold aU;omega) (by have:=HK.out;omega) (by simp;omega) ?_;intro v' w' sH sG)
    all_goals
     go_roundw
     case rel=>exact⟨k+1,(c+dx+dy) / 1000000000,_,by go_num,by first|rfl|go_num,by omega,by omega,by omega,Lib.hid (by simp [HK.out]),Lib.hid (DY.2 ⟨mG.out,yH.2 ⟨by omega,zZ⟩⟩),sH,nD,je.gr (hown.alloc _) (hG.alloc _) (aQ _) sG⟩
     case measure=>simp [intOf];omega
   ·obtain⟨B1,o1,rfl,c1⟩:=HX1.out h1;replace c1:=hG.cell c1;obtain rfl:=JX.out h2;simp only[Int.add_zero]at nD;have hz:k<max n m:=by omega
    go_wp2_with (at_builtin;refine Cr _ rfl _ _ 124 rfl Tryz.underlying124 w.heap.size _ l rfl (hown.alloc _) _ rfl _ _ (oH _ _) (by unfold aU;omega) (by have:=HK.out;omega) (by simp;omega) ?_;intro v' w' sH sG)
    all_goals
     go_roundw
     case rel=>exact⟨k+1,(c+dx) / 1000000000,_,by go_num,by first|rfl|go_num,by omega,by omega,by omega,Lib.hid (by simp [HK.out]),Lib.hid (DY.2 ⟨mG.out,yH.2 ⟨by omega,zZ⟩⟩),sH,nD,je.gr (hown.alloc _) (hG.alloc _) (aQ _) sG⟩
     case measure=>simp [intOf];omega
   ·obtain rfl:=HX0.out h1;simp only[Int.add_zero]at nD;obtain⟨B2,o2,rfl,c2⟩:=JY.out h2;replace c2:=hG.cell c2;have hz:k<max n m:=by omega
    go_wp2_with (at_builtin;refine Cr _ rfl _ _ 124 rfl Tryz.underlying124 w.heap.size _ l rfl (hown.alloc _) _ rfl _ _ (oH _ _) (by unfold aU;omega) (by have:=HK.out;omega) (by simp;omega) ?_;intro v' w' sH sG)
    all_goals
     go_roundw
     case rel=>exact⟨k+1,(c+dy) / 1000000000,_,by go_num,by first|rfl|go_num,by omega,by omega,by omega,Lib.hid (by simp [HK.out]),Lib.hid (DY.2 ⟨mG.out,yH.2 ⟨by omega,zZ⟩⟩),sH,nD,je.gr (hown.alloc _) (hG.alloc _) (aQ _) sG⟩
     case measure=>simp [intOf];omega
   ·obtain rfl:=HX0.out h1;simp only[Int.add_zero]at nD;obtain rfl:=JX.out h2;simp only[Int.add_zero]at nD;have hz:decide (k<max n m)=false:=by simp;omega
    have qY:0<c:=by omega
    go_wp2_with (at_builtin;refine Cr _ rfl _ _ 124 rfl Tryz.underlying124 w.heap.size _ l rfl (hown.alloc _) _ rfl _ _ (oH _ _) (by unfold aU;omega) (by have:=HK.out;omega) (by simp;omega) ?_;intro v' w' sH sG)
    all_goals
     go_roundw
     case rel=>exact⟨k+1,(c) / 1000000000,_,by go_num,by first|rfl|go_num,by omega,by omega,by omega,Lib.hid (by simp [HK.out]),Lib.hid (DY.2 ⟨mG.out,yH.2 ⟨by omega,zZ⟩⟩),sH,nD,je.gr (hown.alloc _) (hG.alloc _) (aQ _) sG⟩
     case measure=>simp [intOf];omega
  ·have hk2:max n m≤k:=by omega
   obtain rfl:c=0:=by omega
   obtain⟨va,vn,vc,rfl,-,-,-⟩:=hown.shape;have Dj:=Lib.hid hown.is;have hz:decide (k<max n m)=false:=by simp;omega
   go_wp2_with (go_at_call 208;refine(Px _ _ _ _ _ Dj.out mG.out).mono ?_;rintro e w' ⟨kt,rfl,hnt,rfl⟩)
   all_goals
    go_ret
    refine⟨_,rfl,?_,hown.fresh _,hG⟩;have h1:=HE.out;rw[List.drop_eq_nil_of_le (by have:=HN.out;omega),List.drop_eq_nil_of_le (by have:=HM.out;omega)]at h1;simp only[bF,Int.add_zero,Int.mul_zero]at h1;rw[h1,Int.toNat_natCast]at hnt;exact hnt
def uq(w:World)(g:Nat)(l:List Int):Prop:=w.rowIs g 3 l.length (λj=>.int .i64 (l.getD j 0))
theorem uq.set{w:World}{g:Nat}{l:List Int}(h:uq w g l)(j:Nat)(d:Int)(hj:j<l.length):uq (w.setCell ⟨g,j,none⟩ (.int .i64 d)) g (l.set j d):=by
 have h1:=World.rowIs.set h j (.int .i64 d);unfold uq;rw[List.length_set];refine h1.congr λi hi=>?_
 by_cases e:i=j
 ·subst e;simp [List.getD,oK hi]
 ·rw[aK e];simp [List.getD,List.getElem?_set_ne (λh=>e h.symm)]
theorem uq.is{w:World}{g:Nat}{l:List Int}(h:uq w g l)(hd:lW l)(hl:l.length≤maxLen):(cK cH).is w [.slice (some ⟨g,0,none⟩) l.length l.length] l:=by
 refine .inr ⟨g,0,none,l.length,rfl,aQ _,hl,λi hi=>⟨rfl,[.int .i64 l[i]],λj hj=>?_,rfl,?_⟩⟩
 ·have hj0:j=0:=by simp [cH]at hj;exact hj
  subst hj0;have:=World.rowIs.cell h hi;simp only[cH,Nat.mul_one,Nat.add_zero,Nat.zero_add,List.getElem?_cons_zero];rw[this,wZ hi]
 ·have:=hd _ (List.getElem_mem hi);omega
theorem uq.made(w:World)(n:Nat):uq (w.alloc (.cells (madeCells #[.int .i64 0] n) 3)) w.heap.size (List.replicate n 0):=by have h:=World.rowIs_made w (.int .i64 0) n 3;unfold uq;rw[List.length_replicate];exact h.congr λi hi=>by simp [List.getD,List.getElem?_replicate,hi]
theorem aa3(n:Nat):lW (List.replicate n 0):=λx hx=>by rw[List.eq_of_mem_replicate hx];omega
theorem aj6(n:Nat):bF (List.replicate n 0)=0:=by
 induction n with
 |zero=>rfl
 |succ n ih=>simp [List.replicate_succ,bF,ih]
theorem adT(n:Nat)(hn:n≤10000000)(w:World):(Instr.makeSlice 124 (.int .i64 (n:Int)) (.int .i64 (n:Int))).run Tryz.prog w=.ok (.slice (some ⟨w.heap.size,0,none⟩) n n) (w.alloc (.cells (madeCells #[.int .i64 0] n) 3)):=
 run_make_row' 124 3 (.int .i64 0) 8 Tryz.underlying124 (by kernel_rfl) rfl .i64 .i64 n (by omega) (by omega) w
end
section
open Go.RowKit
set_option maxHeartbeats 4000000 in
set_option maxRecDepth 100000 in
theorem Cm(x y:Nat)(vx vy:Value)(w:World)(hx:dN w vx x)(hy:dN w vy y)(hxl:(bz x).length≤1000000)(Ng:(bz y).length≤1000000):
  Calls Tryz.prog 164 #[vx,vy] w (Qz (x*y) w):=by
 obtain⟨a,n,cap,rfl,HN,hn,hcap⟩:=we hx;obtain⟨b,m,Xo,rfl,HM,hm,V9⟩:=we hy;have HX:=Lib.hid hx;have HY:=Lib.hid hy;clear hx hy;have Kb:n≤1000000:=by rw[HN.out];exact hxl
 have hm6:m≤1000000:=by rw[HM.out];exact Ng
 clear hxl Ng;have B3:=Lib.hid (xm x);have JW:=Lib.hid (xm y);have hmk:∀W:World,(Instr.makeSlice 124 (.int .i64 ((n:Int)+(m:Int)+1)) (.int .i64 ((n:Int)+(m:Int)+1))).run Tryz.prog W=.ok (.slice (some ⟨W.heap.size,0,none⟩) (n+m+1) (n+m+1)) (W.alloc (.cells (madeCells #[.int .i64 0] (n+m+1)) 3)):=λW=>by rw[show((n:Int)+(m:Int)+1)=((n+m+1:Nat):Int) by omega];exact adT _ (by omega) W
 go_enter Tryz.func164,Tryz.ntmps164
 go_wp2
 have hrow:=uq.made w (n+m+1);have g0:Gr w (w.alloc (.cells (madeCells #[.int .i64 0] (n+m+1)) 3)):=(by repeat (first|exact Gr.refl _|assumption|refine Gr.alloc ?_ _|refine Gr.drew ?_|refine Gr.drewN ?_ _|(refine Gr.put ?_ ?_ _;first|exact aQ _|(simp;done)|omega)|(apply Gr.after;assumption)))
 generalize hW:w.alloc (.cells (madeCells #[.int .i64 0] (n+m+1)) 3)=W at *
 have hg:w.heap.size≤w.heap.size:=aQ _;generalize rY:w.heap.size=g at hrow hg ⊢;clear hW hmk;have HG:=Lib.hid rY;clear rY
 go_loopw [19] (λi wr=>∃(k:Nat)(out:List Int),k≤n∧i=.int .i64 k∧out.length=n+m+1∧Hid (lW out)∧uq wr g out∧Hid (bF out=bF ((bz x).take k)*bF (bz y))∧Gr w wr) (λi _=>n-(intOf i).toNat)
 case atStart=>exact⟨0,_,jQ _,rfl,by simp,Lib.hid (aa3 _),hrow,Lib.hid (by rw[aj6];simp [bF]),g0⟩
 case round=>
  clear hrow;obtain⟨i,out,hi,rfl,hlen,mG,hrow,HE,hG⟩:=hrel;by_cases hlt:i<n
  ·obtain⟨B1,o1,rfl,c1,-⟩:=yE HX.out (k:=i) (by have:=HN.out;omega);rw[wZ]at c1;have c1w:=c1;replace c1:=hG.cell c1;have mY:=Cn B3.out i;generalize ae6:(bz x).getD i 0=dx at *
   have HDX:=Lib.hid ae6;clear ae6
   go_wp2
   obtain⟨wo,rfl⟩:∃wo:World,wo=wr:=⟨_,rfl⟩
   go_loopw [7,8] (λcr kk wr=>∃(k:Nat)(c:Int)(out:List Int),kk=.int .i64 k∧cr=.int .i64 c∧0≤c∧c<1000000000∧(k≤m∨c=0∧k≤m+1)∧out.length=n+m+1∧Hid (lW out)∧uq wr g out∧
    Hid (bF out+c*1000000000 ^ (i+k)=bF ((bz x).take i)*bF (bz y)+dx*1000000000 ^ i*bF ((bz y).take k))∧Gr w wr) (λ_ kk _=>m+1-(intOf kk).toNat)
   case atStart=>exact⟨0,0,out,rfl,rfl,by omega,by omega,.inl (jQ _),hlen,mG,hrow,Lib.hid (by rw[HE.out];simp [bF]),hG⟩
   case round=>
    clear hrow HE mG c1 hG hlen;obtain⟨k,c,out,rfl,rfl,hc0,hc1,hkm,hlen,mG,hrow,HE,hG⟩:=hrel;have c1:=hG.cell c1w;by_cases hgo:k<m∨0<c
    ·have hkk:k≤m:=by omega
     have E3:=Cn mG.out (i+k);have Q6:=Cn JW.out k;have HR:=Lib.hid hrow;have r1:=World.rowIs.cell hrow (i:=i+k) (by omega);have r2:=World.rowIs.frozen hrow (i+k);have nD:=Lib.hid (ak8 out (bz x) (bz y) i k c dx (by omega) HE.out)
     have JY:Hid (k<m→∃(b' off:Nat),b=some ⟨b',off,none⟩∧w.cell? ⟨b',off+k,none⟩=some (.int .i64 ((bz y).getD k 0))):=Lib.hid λh=>by obtain⟨b,off,e,h1,_⟩:=yE HY.out (k:=k) (by have:=HM.out;omega);exact⟨b,off,e,by rw[h1,wZ]⟩
     have JX:Hid (¬k<m→(bz y).getD k 0=0):=Lib.hid λh=>KR (by have:=HM.out;omega)
     clear HE hrow
     have HLT:Hid (k=m→∀(out':List Int)(c':Int),lW out'→0≤c'→bF out'+c'*1000000000 ^ (i+(k+1))=bF ((bz x).take i)*bF (bz y)+dx*1000000000 ^ i*bF ((bz y).take (k+1))→c'=0):=Lib.hid λatc out' c' h1 h2 h3=>by subst atc;rw[HM.out]at h3;exact ajK out' (bz x) (bz y) i c' dx h1 B3.out JW.out (by have:=HN.out;omega) mY h2 h3
     have auZ:0≤dx*(bz y).getD k 0:=Int.mul_nonneg mY.1 Q6.1;have au0:dx*(bz y).getD k 0≤999999999*999999999:=Int.mul_le_mul (by omega) (by omega) Q6.1 (by omega);generalize M6:out.getD (i+k) 0=o at *
     have HOO:=Lib.hid M6;clear M6;generalize (bz y).getD k 0=dy at *
     by_cases h2:k<m
     ·obtain⟨B2,o2,rfl,c2⟩:=JY.out h2;replace c2:=hG.cell c2;have hw1:IntKind.i64.wrap (dx*dy)=dx*dy:=U2 (by omega);have XP:IntKind.i64.wrap (o+c+dx*dy)=o+c+dx*dy:=U2 (by omega)
      go_wp2
      go_quiet (fail)
      go_wp2
      go_roundw
      case rel=>
       have hgb:=HG.out;have Vx:=(HR.out).set (i+k) ((o+c+dx*dy) % 1000000000) (by omega)
       have Qy:=UW mG.out (i+k) ((o+c+dx*dy) % 1000000000) (by omega);exact⟨k+1,(o+c+dx*dy) / 1000000000,_,by go_num,by first|rfl|go_num,by omega,by omega,.inl (by omega),by simp [hlen],Lib.hid Qy,Vx,nD,(hG.drewN _).put (by omega) _⟩
      case measure=>simp [intOf]<;>omega
     ·obtain rfl:=JX.out h2;obtain rfl:k=m:=by omega
      have wQ:0<c:=by omega
      simp only[Int.mul_zero,Int.add_zero]at nD;have Qy:=UW mG.out (i+k) ((o+c) % 1000000000) (by omega);have hcz:(o+c) / 1000000000=0:=HLT.out rfl _ _ Qy (by omega) nD.out;have HCZ:=Lib.hid hcz;clear hcz
      go_wp2
      go_roundw
      case rel=>
       have hgb:=HG.out;have Vx:=(HR.out).set (i+k) ((o+c) % 1000000000) (by omega)
       exact⟨k+1,(o+c) / 1000000000,_,by go_num,by first|rfl|go_num,by omega,by omega,.inr ⟨HCZ.out,aQ _⟩,by simp [hlen],Lib.hid Qy,Vx,nD,hG.put (by omega) _⟩
      case measure=>simp [intOf]<;>omega
    ·obtain rfl:c=0:=by omega
     go_wp2
     go_roundw
     case rel=>exact⟨i+1,out,by omega,by go_num,hlen,mG,hrow,Lib.hid (amF out (bz x) (bz y) i k dx HDX.out.symm (by have:=HM.out;omega) HE.out),hG⟩
     case measure=>simp [intOf]<;>omega
  ·have Dj:=Lib.hid (uq.is hrow mG.out (by unfold maxLen;omega));rw[hlen]at Dj
   go_wp2_with (go_at_call 208;refine(Px _ _ _ _ _ Dj.out mG.out).mono ?_;rintro e w' ⟨kt,rfl,hnt,rfl⟩)
   go_ret
   refine⟨.slice (some ⟨g,0,none⟩) kt (n+m+1),rfl,?_,Nat.le_of_eq HG.out,hG⟩;have h1:=HE.out;rw[rS (by have:=HN.out;omega),xh,xh]at h1;rw[h1,←Int.natCast_mul,Int.toNat_natCast]at hnt;exact hnt
end
section
open Go.RowKit
def sY(x y:Nat):Int:=if x<y then -1 else if x=y then 0 else 1
set_option maxHeartbeats 2000000 in
theorem KZ(x y:Nat)(vx vy:Value)(w:World)(hx:dN w vx x)(hy:dN w vy y):
  Calls Tryz.prog 167 #[vx,vy] w λe w'=>e=.returned (.int .i64 (sY x y))∧∃k,w'=w.drewN k:=by
 obtain⟨a,n,cap,rfl,HN,hn,hcap⟩:=we hx;obtain⟨b,m,Xo,rfl,HM,hm,V9⟩:=we hy;have HX:=Lib.hid hx;have HY:=Lib.hid hy;clear hx hy;by_cases hnm:n=m
 ·subst hnm;have h0:((n:Int)!=(n:Int))=false:=by simp
  go_enter Tryz.func167,Tryz.ntmps167
  go_wp2
  go_loopw [5] (λi wr=>∃k:Nat,k≤n∧i=.int .i64 ((k:Int) -1)∧Hid ((bz x).drop k=(bz y).drop k)∧∃q,wr=w.drewN q) (λi _=>(intOf i+1).toNat)
  case atStart=>exact⟨n,aQ _,rfl,Lib.hid (by rw[List.drop_eq_nil_of_le (by have:=HN.out;omega),List.drop_eq_nil_of_le (by have:=HM.out;omega)]),0,rfl⟩
  case round=>
   obtain⟨k,hk,rfl,HE,q,rfl⟩:=hrel;cases k with
   |zero=>
    go_wp2
    go_ret
    have e:=ahC HE.out;exact⟨FY (by simp [sY,e]),_,rfl⟩
   |succ k=>
    obtain⟨B1,o1,rfl,c1,-⟩:=yE HX.out (k:=k) (by have:=HN.out;omega);obtain⟨B2,o2,rfl,c2,-⟩:=yE HY.out (k:=k) (by have:=HM.out;omega);rw[wZ]at c1 c2;have QS:Hid (k<(bz x).length):=Lib.hid (by have:=HN.out;omega);have QT:Hid (k<(bz y).length):=Lib.hid (by have:=HM.out;omega);have BZ:Hid ((bz x).getD k 0<(bz y).getD k 0→x<y):=Lib.hid λh=>Y9 k QS.out QT.out HE.out h
    have B0:Hid ((bz y).getD k 0<(bz x).getD k 0→y<x):=Lib.hid λh=>Y9 k QT.out QS.out HE.out.symm h
    have HD3:Hid ((bz x).getD k 0=(bz y).getD k 0→(bz x).drop k=(bz y).drop k):=Lib.hid λh=>by rw[List.drop_eq_getElem_cons QS.out,List.drop_eq_getElem_cons QT.out,HE.out,wZ QS.out,wZ QT.out,h]
    generalize (bz x).getD k 0=dx at *
    generalize (bz y).getD k 0=dy at *
    have hi0:(0:Int)≤(k:Int):=by omega
    have hi1:(k:Int)<(n:Int):=by omega
    have hi2:k<n:=by omega
    have hs:((k+1:Nat):Int) -1=(k:Int):=by omega
    rw[hs];clear hs;by_cases h1:dx=dy
    ·subst h1;have h1':(dx !=dx)=false:=by simp
     go_wp2
     go_quiet (fail)
     go_wp2
     go_roundw
     case rel=>exact⟨k,by omega,by first|rfl|go_num,Lib.hid (HD3.out (by trivial)),_,by first|rfl|(simp only[World.drewN_drewN];rfl)⟩
     case measure=>simp [intOf]<;>omega
    ·have h1':(dx !=dy)=true:=by simpa using h1
     by_cases h2:dx<dy
     ·go_wp2
      go_quiet (fail)
      go_wp2
      go_quiet (fail)
      go_wp2
      go_ret
      have:=BZ.out h2;exact⟨FY (by simp [sY,this]),_,by first|rfl|(simp only[World.drewN_drewN];rfl)⟩
     ·have h2':decide (dx<dy)=false:=by simpa using h2
      go_wp2
      go_quiet (fail)
      go_wp2
      go_quiet (fail)
      go_wp2
      go_ret
      have:=B0.out (by omega);exact⟨FY (by rw[sY,aK (by omega),aK (by omega)]),_,by first|rfl|(simp only[World.drewN_drewN];rfl)⟩
 ·have h0:((n:Int)!=(m:Int))=true:=by simp;omega
  by_cases h1:n<m
  ·have:=Tv (x:=x) (y:=y) (by rw[←HN.out,←HM.out];exact h1);have HR:Hid (sY x y=-1):=Lib.hid (by simp [sY,this]);clear this
   go_enter Tryz.func167,Tryz.ntmps167
   go_wp2
   go_ret
   exact⟨FY HR.out.symm,0,rfl⟩
  ·have:=Tv (x:=y) (y:=x) (by rw[←HN.out,←HM.out];omega);have HR:Hid (sY x y=1):=Lib.hid (by rw[sY,aK (by omega),aK (by omega)]);clear this
   go_enter Tryz.func167,Tryz.ntmps167
   go_wp2
   go_ret
   exact⟨FY HR.out.symm,0,rfl⟩
set_option maxHeartbeats 2000000 in
theorem aa0(x y:Nat)(vx vy:Value)(w:World)(hx:dN w vx x)(hy:dN w vy y)(hxl:(bz x).length≤1000000)(hyx:y≤x):
  Calls Tryz.prog 168 #[vx,vy] w (Qz (x-y) w):=by
 obtain⟨a,n,cap,rfl,HN,hn,hcap⟩:=we hx;obtain⟨b,m,Xo,rfl,HM,hm,V9⟩:=we hy;have HX:=Lib.hid hx;have HY:=Lib.hid hy;clear hx hy;have Kb:n≤1000000:=by rw[HN.out];exact hxl
 have hmn:m≤n:=by
  rcases Nat.lt_or_ge n m with h|h
  ·have:=Tv (x:=x) (y:=y) (by rw[←HN.out,←HM.out];exact h);omega
  ·exact h
 clear hxl;have B3:=Lib.hid (xm x);have JW:=Lib.hid (xm y);have hown:je w w.heap.size 3 cH (.slice none 0 0) []:=je.nil _ _ _ _
 go_enter Tryz.func168,Tryz.ntmps168
 go_wp2
 go_loopw [5,6,11] (λv cr i wr=>∃(k:Nat)(c:Int)(l:List Int),i=.int .i64 k∧cr=.int .i64 c∧(c=0∨c=1)∧k≤n∧Hid (l.length=k)∧Hid (lW l)∧je wr w.heap.size 3 cH v l∧
  Hid (bF l+1000000000 ^ k*(bF ((bz x).drop k) -bF ((bz y).drop k) -c)=(x:Int) -(y:Int))∧Gr w wr) (λ_ _ i _=>n-(intOf i).toNat)
 case atStart=>exact⟨0,0,[],rfl,rfl,.inl rfl,jQ _,Lib.hid rfl,Lib.hid zZ,hown,Lib.hid (by simp [bF,xh]),Gr.refl _⟩
 case round=>
  clear hown;obtain⟨k,c,l,rfl,rfl,as2,hkm,HK,mG,hown,HE,hG⟩:=hrel;have hc0:0≤c:=by omega
  have hc1:c≤1:=by omega
  by_cases hgo:k<n
  ·have hsz:=hG.size;obtain⟨va,vn,vc,rfl,Hvn,h7,h8⟩:=hown.shape;have mY:=Cn B3.out k;have Q6:=Cn JW.out k;obtain⟨B1,o1,rfl,c1,-⟩:=yE HX.out (k:=k) (by have:=HN.out;omega);rw[wZ]at c1;replace c1:=hG.cell c1
   have JY:Hid (k<m→∃(b' off:Nat),b=some ⟨b',off,none⟩∧w.cell? ⟨b',off+k,none⟩=some (.int .i64 ((bz y).getD k 0))):=Lib.hid λh=>by obtain⟨b,off,e,h1,_⟩:=yE HY.out (k:=k) (by have:=HM.out;omega);exact⟨b,off,e,by rw[h1,wZ]⟩
   have JX:Hid (¬k<m→(bz y).getD k 0=0):=Lib.hid λh=>KR (by have:=HM.out;omega)
   have nD:Hid (∀d c',d=(bz x).getD k 0-c-(bz y).getD k 0+1000000000*c'→bF (l++[d])+1000000000 ^ (k+1)*(bF ((bz x).drop (k+1)) -bF ((bz y).drop (k+1)) -c')=(x:Int) -(y:Int)):=Lib.hid (λd c' hd=>by
    have h1:=HE.out;have hk:=HK.out;subst hk;rw[D0 (bz x),D0 (bz y)]at h1
    exact akl l _ _ _ _ _ _ d c' hd h1)
   clear HE;generalize (bz x).getD k 0=dx at *
   generalize (bz y).getD k 0=dy at *
   by_cases h2:k<m
   ·obtain⟨B2,o2,rfl,c2⟩:=JY.out h2;replace c2:=hG.cell c2;by_cases hneg:dx-c-dy<0
    ·go_wp2_with (first|(at_builtin;refine Cr _ rfl _ _ 124 rfl Tryz.underlying124 w.heap.size _ l rfl (hown.alloc _) _ rfl _ _ (oH _ _) (by unfold aU;omega) (by have:=HK.out;omega) (by simp;omega) ?_;intro v' w' sH sG))
     go_roundw
     case rel=>exact⟨k+1,1,_,by go_num,rfl,.inr rfl,by omega,Lib.hid (by simp [HK.out]),Lib.hid (DY.2 ⟨mG.out,yH.2 ⟨by omega,zZ⟩⟩),sH,Lib.hid (nD.out _ _ (by omega)),je.gr (hown.alloc _) (hG.alloc _) (aQ _) sG⟩
     case measure=>simp [intOf]<;>omega
    ·go_wp2_with (first|(at_builtin;refine Cr _ rfl _ _ 124 rfl Tryz.underlying124 w.heap.size _ l rfl (hown.alloc _) _ rfl _ _ (oH _ _) (by unfold aU;omega) (by have:=HK.out;omega) (by simp;omega) ?_;intro v' w' sH sG))
     go_roundw
     case rel=>exact⟨k+1,0,_,by go_num,rfl,.inl rfl,by omega,Lib.hid (by simp [HK.out]),Lib.hid (DY.2 ⟨mG.out,yH.2 ⟨by omega,zZ⟩⟩),sH,Lib.hid (nD.out _ _ (by omega)),je.gr (hown.alloc _) (hG.alloc _) (aQ _) sG⟩
     case measure=>simp [intOf]<;>omega
   ·obtain rfl:=JX.out h2;by_cases hneg:dx-c<0
    ·go_wp2_with (first|(at_builtin;refine Cr _ rfl _ _ 124 rfl Tryz.underlying124 w.heap.size _ l rfl (hown.alloc _) _ rfl _ _ (oH _ _) (by unfold aU;omega) (by have:=HK.out;omega) (by simp;omega) ?_;intro v' w' sH sG))
     go_roundw
     case rel=>exact⟨k+1,1,_,by go_num,rfl,.inr rfl,by omega,Lib.hid (by simp [HK.out]),Lib.hid (DY.2 ⟨mG.out,yH.2 ⟨by omega,zZ⟩⟩),sH,Lib.hid (nD.out _ _ (by omega)),je.gr (hown.alloc _) (hG.alloc _) (aQ _) sG⟩
     case measure=>simp [intOf]<;>omega
    ·go_wp2_with (first|(at_builtin;refine Cr _ rfl _ _ 124 rfl Tryz.underlying124 w.heap.size _ l rfl (hown.alloc _) _ rfl _ _ (oH _ _) (by unfold aU;omega) (by have:=HK.out;omega) (by simp;omega) ?_;intro v' w' sH sG))
     go_roundw
     case rel=>exact⟨k+1,0,_,by go_num,rfl,.inl rfl,by omega,Lib.hid (by simp [HK.out]),Lib.hid (DY.2 ⟨mG.out,yH.2 ⟨by omega,zZ⟩⟩),sH,Lib.hid (nD.out _ _ (by omega)),je.gr (hown.alloc _) (hG.alloc _) (aQ _) sG⟩
     case measure=>simp [intOf]<;>omega
  ·obtain⟨va,vn,vc,rfl,-,-,-⟩:=hown.shape;have Dj:=Lib.hid hown.is
   go_wp2_with (go_at_call 208;refine(Px _ _ _ _ _ Dj.out mG.out).mono ?_;rintro e w' ⟨kt,rfl,hnt,rfl⟩)
   go_ret
   refine⟨_,rfl,?_,hown.fresh _,hG⟩;have h1:=HE.out;rw[List.drop_eq_nil_of_le (by have:=HN.out;omega),List.drop_eq_nil_of_le (by have:=HM.out;omega),←HK.out]at h1;have h2:=al3 mG.out c _ (by omega) as2 h1;rw[h2,show((x:Int) -(y:Int)).toNat=x-y by omega]at hnt;exact hnt
end
section
open Go.RowKit
theorem amz{X out:List Int}{x:Nat}{n rest:Int}(hX:bF X=x)(hn:0<n)(Kh:0≤rest)(l9:rest<n)(ho:lW out)(h:bF (out.drop 0)*n+rest=bF (X.drop 0)):
  (bF out).toNat=x / n.toNat∧rest=((x % n.toNat:Nat):Int):=by
 simp only[List.drop_zero,hX]at h;have h1:=DT ho;obtain⟨m,rfl⟩:∃m:Nat,n=m:=⟨n.toNat,by omega⟩
 obtain⟨r,rfl⟩:∃m:Nat,rest=m:=⟨rest.toNat,by omega⟩
 obtain⟨q,hq⟩:∃m:Nat,bF out=m:=⟨(bF out).toNat,by omega⟩
 rw[hq]at h ⊢;have h2:q*m+r=x:=by exact_mod_cast h
 simp only[Int.toNat_natCast];have hm:0<m:=by omega
 have hrm:r<m:=by omega
 subst h2;constructor
 ·rw[Nat.mul_comm,Nat.mul_add_div hm,Nat.div_eq_of_lt hrm];omega
 ·rw[Nat.mul_comm,Nat.mul_add_mod,Nat.mod_eq_of_lt hrm]
set_option maxHeartbeats 2000000 in
set_option maxRecDepth 100000 in
theorem amy(x:Nat)(n:Int)(vx:Value)(w:World)(hx:dN w vx x)(hxl:(bz x).length≤1000000)(hn0:0<n)(hn1:n≤1000000000):
  Calls Tryz.prog 210 #[vx,.int .i64 n] w λe w'=>∃v,e=.returned (.tuple #[v,.int .i64 ((x % n.toNat:Nat):Int)])∧dN w' v (x / n.toNat)∧Gr w w':=by
 obtain⟨a,m,cap,rfl,HN,hn,hcap⟩:=we hx;have HX:=Lib.hid hx;clear hx;have Kb:m≤1000000:=by rw[HN.out];exact hxl
 clear hxl;have B3:=Lib.hid (xm x);have hmk:=λW=>adT m (by omega) W
 go_enter Tryz.func210,Tryz.ntmps210
 go_wp2
 have hrow:=uq.made w m;have g0:Gr w (w.alloc (.cells (madeCells #[.int .i64 0] m) 3)):=(by repeat (first|exact Gr.refl _|assumption|refine Gr.alloc ?_ _|refine Gr.drew ?_|refine Gr.drewN ?_ _|(refine Gr.put ?_ ?_ _;first|exact aQ _|(simp;done)|omega)|(apply Gr.after;assumption)))
 generalize hW:w.alloc (.cells (madeCells #[.int .i64 0] m) 3)=W at *
 have hg:w.heap.size≤w.heap.size:=aQ _;generalize rY:w.heap.size=g at hrow hg ⊢;clear hW hmk;have HG:=Lib.hid rY;clear rY
 go_loopw [7,8] (λr i wr=>∃(k:Nat)(rest:Int)(out:List Int),k≤m∧i=.int .i64 ((k:Int) -1)∧r=.int .i64 rest∧0≤rest∧rest<n∧out.length=m∧Hid (lW out)∧uq wr g out∧Hid (bF (out.drop k)*n+rest=bF ((bz x).drop k))∧Gr w wr) (λ_ i _=>(intOf i+1).toNat)
 case atStart=>exact⟨m,0,_,aQ _,rfl,rfl,by omega,by omega,by simp,Lib.hid (aa3 _),hrow,Lib.hid (by rw[List.drop_eq_nil_of_le (by simp),List.drop_eq_nil_of_le (by have:=HN.out;omega)];simp [bF]),g0⟩
 case round=>
  clear hrow;obtain⟨k,rest,out,hk,rfl,rfl,Kh,l9,hlen,mG,hrow,HE,hG⟩:=hrel;cases k with
  |zero=>
   have Dj:=Lib.hid (uq.is hrow mG.out (by unfold maxLen;omega));rw[hlen]at Dj
   go_wp2_with (go_at_call 208;refine(Px _ _ _ _ _ Dj.out mG.out).mono ?_;rintro e w' ⟨kt,rfl,hnt,rfl⟩)
   go_ret2
   obtain⟨h1,h2⟩:=amz (xh x) hn0 Kh l9 mG.out HE.out;refine⟨.slice (some ⟨g,0,none⟩) kt m,?_,?_,hG⟩
   ·rw[←h2];rfl
   ·rw[h1]at hnt;exact hnt
  |succ k=>
   obtain⟨B1,o1,rfl,c1,-⟩:=yE HX.out (k:=k) (by have:=HN.out;omega);rw[wZ]at c1;replace c1:=hG.cell c1;have mY:=Cn B3.out k;have nD:=Lib.hid (ak0 out (bz x) k n rest (by omega) hn0 HE.out);have HR:=Lib.hid hrow;have r1:=World.rowIs.cell hrow (i:=k) (by omega);have r2:=World.rowIs.frozen hrow k;clear HE hrow;generalize (bz x).getD k 0=dx at *
   have M8:0≤(rest*1000000000+dx) / n:=Int.ediv_nonneg (by omega) (by omega)
   have hq1:(rest*1000000000+dx) / n<1000000000:=Int.ediv_lt_of_lt_mul hn0 (by
    have:(rest+1)*1000000000≤n*1000000000:=Int.mul_le_mul_of_nonneg_right (by omega) (by omega)
    rw[Int.mul_comm 1000000000 n];omega)
   have hm0:=Int.emod_nonneg (rest*1000000000+dx) (show n≠0 by omega);have hm1:=Int.emod_lt_of_pos (rest*1000000000+dx) hn0;have hs:((k+1:Nat):Int) -1=(k:Int):=by omega
   rw[hs];clear hs
   go_wp2
   go_roundw
   case rel=>
    have hgb:=HG.out;exact⟨k,(rest*1000000000+dx) % n,_,by omega,by first|rfl|go_num,by first|rfl|go_num,hm0,hm1,by simp [hlen],Lib.hid (UW mG.out k ((rest*1000000000+dx) / n) ⟨M8,hq1⟩),(HR.out).set k ((rest*1000000000+dx) / n) (by omega),nD,hG.put (by omega) _⟩
   case measure=>simp [intOf]<;>omega
set_option maxHeartbeats 2000000 in
theorem ajl(x:Nat)(vx:Value)(w:World)(hx:dN w vx x)(avr:x≤9223372036854775807):
  Calls Tryz.prog 170 #[vx] w λe w'=>e=.returned (.int .i64 x)∧w=w':=by
 obtain⟨a,m,cap,rfl,HN,hn,hcap⟩:=we hx;have HX:=Lib.hid hx;clear hx;have B3:=Lib.hid (xm x)
 go_enter Tryz.func170,Tryz.ntmps170
 go_wp2
 go_loop [3,4] (λr i=>∃(k:Nat)(acc:Int),k≤m∧i=.int .i64 ((k:Int) -1)∧r=.int .i64 acc∧Hid (acc=bF ((bz x).drop k))) (λ_ i=>(intOf i+1).toNat)
 case atStart=>exact⟨m,0,aQ _,rfl,rfl,Lib.hid (by rw[List.drop_eq_nil_of_le (by have:=HN.out;omega)];rfl)⟩
 case round=>
  obtain⟨k,acc,hk,rfl,rfl,HE⟩:=hrel;cases k with
  |zero=>
   go_wp2
   go_ret
   exact⟨FY (by rw[HE.out,List.drop_zero,xh]),rfl⟩
  |succ k=>
   obtain⟨B1,o1,rfl,c1,-⟩:=yE HX.out (k:=k) (by have:=HN.out;omega);rw[wZ]at c1;have mY:=Cn B3.out k;have tJ:=Za (x:=x) k;have nV:=Za (x:=x) (k+1);have XB:=D0 (bz x) k;rw[←HE.out]at nV XB;have nD:Hid (acc*1000000000+(bz x).getD k 0=bF ((bz x).drop k)):=Lib.hid (by omega);rw[←nD.out]at tJ;clear HE XB;generalize (bz x).getD k 0=dx at *
   have hs:((k+1:Nat):Int) -1=(k:Int):=by omega
   rw[hs];clear hs
   go_wp2
   go_round
   case rel=>exact⟨k,acc*1000000000+dx,by omega,by first|rfl|go_num,by first|rfl|go_num,nD⟩
   case measure=>simp [intOf]<;>omega
def aqX(n m:Nat)(w:World)(e:Ending)(w':World):Prop:=∃v u,e=.returned (.tuple #[v,u])∧dN w' v n∧dN w' u m∧Gr w w'
set_option maxHeartbeats 2000000 in
set_option maxRecDepth 100000 in
theorem ai3(x y:Nat)(vx vy:Value)(w:World)(hx:dN w vx x)(hy:dN w vy y)(hxl:(bz x).length≤1000000)(hy0:0<y)(Rg:y<1000000000):
  Calls Tryz.prog 169 #[vx,vy] w (aqX (x / y) (x % y) w):=by
 have HX:=Lib.hid hx;have HY:=Lib.hid hy;obtain⟨a,m,cap,rfl,HN,hn,hcap⟩:=we hy;obtain⟨B1,o1,rfl,c1,-⟩:=yE hy (k:=0) (by rw[Ot Rg hy0];simp);have hm1:m=1:=by rw[HN.out,Ot Rg hy0];rfl
 subst hm1
 have hyy:(bz y)[0]'(by rw[Ot Rg hy0];simp)=(y:Int):=by simp [Ot Rg hy0]
 rw[hyy,Nat.add_zero]at c1;clear hx hy HN hyy;by_cases hlt:x<y
 ·have HO:Hid (sY x y=-1):=Lib.hid (by simp [sY,hlt]);have HR:Hid (x / y=0∧x % y=x):=Lib.hid ⟨Nat.div_eq_of_lt hlt,Nat.mod_eq_of_lt hlt⟩
  go_enter Tryz.func169,Tryz.ntmps169
  go_wp2_with (first|(go_at_call 167;refine(KZ x y _ _ _ HX.out HY.out).mono ?_;rintro e w' ⟨rfl,k,rfl⟩;rw[HO.out]))
  go_ret2
  obtain⟨h1,h2⟩:=HR.out;rw[h1,h2];exact⟨_,_,rfl,by unfold dN;rw[tX];exact .inl ⟨rfl,rfl⟩,HX.out.mono ((Gr.refl _).drewN _),(Gr.refl _).drewN _⟩
 ·have hoI:¬sY x y<0:=by rw[sY,aK hlt];split<;>omega
  have avm:decide (sY x y<0)=false:=by simpa using hoI
  clear hoI;have Rc:x % y≤9223372036854775807:=by have:=Nat.mod_lt x hy0;omega
  go_enter Tryz.func169,Tryz.ntmps169
  go_wp2_with (first
   |(go_at_call 167;refine(KZ x y _ _ _ HX.out HY.out).mono ?_;rintro e w' ⟨rfl,k,rfl⟩)
   |(go_at_call 210;refine(amy x y _ _ (HX.out.mono ((Gr.refl _).drewN _)) hxl (by omega) (by omega)).mono ?_;rintro e w1 ⟨v1,rfl,h1,tJ⟩;simp only[Int.toNat_natCast]at h1 ⊢;have H1:=Lib.hid h1;clear h1)
   |(go_at_call 113;refine(Ue _ _ Rc).mono ?_;rintro e w2 ⟨v2,rfl,h2,-,nV⟩;have H2:=Lib.hid h2;clear h2))
  go_ret2
  exact⟨_,_,rfl,H1.out.mono nV,H2.out,(((Gr.refl _).drewN _).trans tJ).trans nV⟩
end
section
open Go.RowKit
theorem fV.other{w:World}{b c o:Nat}{u:Value}{v0 v1 v2:Value}(k:fV w b v0 v1 v2)(h:c≠b):fV (w.setCell ⟨c,o,none⟩ u) b v0 v1 v2:=by obtain⟨⟨k0,k1,k2⟩,⟨f0,f1,f2⟩,hlt⟩:=k;have hb:(w.setCell ⟨c,o,none⟩ u).heap[b]? =w.heap[b]? :=Below.heap_setCell w ⟨c,o,none⟩ u b (λe=>h e.symm);refine⟨⟨by rw[World.cell?_of_block (w:=w) hb];exact k0,by rw[World.cell?_of_block (w:=w) hb];exact k1,by rw[World.cell?_of_block (w:=w) hb];exact k2⟩,⟨by rw[World.frozen?_of_block (w:=w) hb];exact f0,by rw[World.frozen?_of_block (w:=w) hb];exact f1,by rw[World.frozen?_of_block (w:=w) hb];exact f2⟩,by simpa [World.setCell]using hlt⟩
end
section
open Go.RowKit
theorem fV.Ib{w:World}{b:Nat}{u v0 v1 v2:Value}(k:fV w b v0 v1 v2):fV (w.setCell ⟨b,0,none⟩ u) b u v1 v2:=by obtain⟨⟨k0,k1,k2⟩,⟨f0,f1,f2⟩,hlt⟩:=k;exact⟨⟨World.cell?_setCell_same _ _ _ k0,(World.cell?_setCell_other _ _ _ _ (by simp)).trans k1,(World.cell?_setCell_other _ _ _ _ (by simp)).trans k2⟩,⟨(World.frozen?_setCell _ _ _ _).trans f0,(World.frozen?_setCell _ _ _ _).trans f1,(World.frozen?_setCell _ _ _ _).trans f2⟩,by simpa [World.setCell]using hlt⟩
theorem fV.st1{w:World}{b:Nat}{u v0 v1 v2:Value}(k:fV w b v0 v1 v2):fV (w.setCell ⟨b,1,none⟩ u) b v0 u v2:=by obtain⟨⟨k0,k1,k2⟩,⟨f0,f1,f2⟩,hlt⟩:=k;exact⟨⟨(World.cell?_setCell_other _ _ _ _ (by simp)).trans k0,World.cell?_setCell_same _ _ _ k1,(World.cell?_setCell_other _ _ _ _ (by simp)).trans k2⟩,⟨(World.frozen?_setCell _ _ _ _).trans f0,(World.frozen?_setCell _ _ _ _).trans f1,(World.frozen?_setCell _ _ _ _).trans f2⟩,by simpa [World.setCell]using hlt⟩
theorem fV.st2{w:World}{b:Nat}{u v0 v1 v2:Value}(k:fV w b v0 v1 v2):fV (w.setCell ⟨b,2,none⟩ u) b v0 v1 u:=by obtain⟨⟨k0,k1,k2⟩,⟨f0,f1,f2⟩,hlt⟩:=k;exact⟨⟨(World.cell?_setCell_other _ _ _ _ (by simp)).trans k0,(World.cell?_setCell_other _ _ _ _ (by simp)).trans k1,World.cell?_setCell_same _ _ _ k2⟩,⟨(World.frozen?_setCell _ _ _ _).trans f0,(World.frozen?_setCell _ _ _ _).trans f1,(World.frozen?_setCell _ _ _ _).trans f2⟩,by simpa [World.setCell]using hlt⟩
end
section
open Go.RowKit
theorem qB{n:Nat}(h:n<1000000000000000000000000000):(bz n).length≤1000000:=Nat.le_trans (Ul h) (by omega)
def Gk(s:Bool)(n d:Nat)(w:World)(e:Ending)(w':World):Prop:=∃v u,e=.returned (.agg #[.bool s,v,u])∧dN w' v n∧dN w' u d∧pJ w.heap.size v∧pJ w.heap.size u∧Gr w w'
theorem pJ.le{B C:Nat}{v:Value}(h:pJ B v)(hc:C≤B):pJ C v:=by
 cases v with
 |slice a n c=>cases a with
  |none=>trivial
  |some a=>exact Nat.le_trans hc h
 |_=>trivial
theorem dN.shape{w:World}{v:Value}{n:Nat}(h:dN w v n)(hn:n<1000000000000000000000000000):∃(a:Option Addr)(k cap:Nat),v=.slice a k cap∧k≤3∧cap≤9223372036854775807:=by obtain⟨a,k,cap,h1,h2,_,h4⟩:=we h;exact⟨a,k,cap,h1,by rw[h2.out];exact Ul hn,h4⟩
set_option maxHeartbeats 1000000 in
theorem ab8(a b:Nat)(w:World)(ha:a≤9223372036854775807)(hb:b≤9223372036854775807):
  Calls Tryz.prog 54 #[.int .i64 a,.int .i64 b] w (Gk false a b w):=by
 have K:fV (w.alloc (.cells #[.bool false,.slice none 0 0,.slice none 0 0] 126)) w.heap.size (.bool false) (.slice none 0 0) (.slice none 0 0):=fV.of (by repeat (first|exact oH _ _|(refine yL _ _ _ ?_;(simp;done))|(refine yG _ _ _ _ (by simp;try omega) ?_)));have g0:Gr w (w.alloc (.cells #[.bool false,.slice none 0 0,.slice none 0 0] 126)):=(by repeat (first|exact Gr.refl _|assumption|refine Gr.alloc ?_ _|refine Gr.drew ?_|refine Gr.drewN ?_ _|(refine Gr.put ?_ ?_ _;first|exact aQ _|(simp;done)|omega)|(apply Gr.after;assumption)))
 have hs0:w.heap.size<(w.alloc (.cells #[.bool false,.slice none 0 0,.slice none 0 0] 126)).heap.size:=by simp
 go_enter Tryz.func54,Tryz.ntmps54
 go_wp2_with (first
  |(go_at_call 113;(with_reducible refine(Ue a _ ha).mono ?_);rintro e w1 ⟨v1,rfl,h1,f1,tJ⟩;replace K:=K.mono tJ;have hs1:=tJ.size;obtain⟨a1,k1,c1,rfl,-,-⟩:=h1.shape (by omega);have H1:=Lib.hid h1;have F1:=Lib.hid f1;clear h1 f1)
  |(go_at_call 113;(with_reducible refine(Ue b _ hb).mono ?_);rintro e w2 ⟨v2,rfl,h2,f2,nV⟩;replace K:=K.mono nV;have hs2:=nV.size;obtain⟨a2,k2,c2,rfl,-,-⟩:=h2.shape (by omega);have H2:=Lib.hid h2;have F2:=Lib.hid f2;clear h2 f2))
 have K':fV (((w2.setCell ⟨w.heap.size,0,none⟩ (.bool false)).setCell ⟨w.heap.size,1,none⟩ (.slice a1 k1 c1)).setCell ⟨w.heap.size,2,none⟩ (.slice a2 k2 c2)) w.heap.size (.bool false) (.slice a1 k1 c1) (.slice a2 k2 c2):=K.Ib.st1.st2;refine bodyPost_ret (v:=.agg #[.bool false,.slice a1 k1 c1,.slice a2 k2 c2]) (by simp [results,Tryz.results54,go_sem,K']) rfl ?_;have q1:=H1.out.mono nV;exact⟨_,_,rfl,((q1.off F1.out hs0).off F1.out hs0).off F1.out hs0,((H2.out.off F2.out (by omega)).off F2.out (by omega)).off F2.out (by omega),F1.out.le (by omega),F2.out.le (by omega),((((g0.trans tJ).trans nV).put (by omega) _).put (by omega) _).put (by omega) _⟩
set_option maxHeartbeats 1000000 in
theorem Tl(s:Bool)(a1:Option Addr)(k1 c1:Nat)(a2:Option Addr)(k2 c2:Nat)(w:World)(h1:k1≤5)(h2:k2≤5):
  Calls Tryz.prog 166 #[.agg #[.bool s,.slice a1 k1 c1,.slice a2 k2 c2]] w λe w'=>e=.returned (.agg #[.bool s,.slice a1 k1 c1,.slice a2 k2 c2])∧Gr w w':=by
 go_enter Tryz.func166,Tryz.ntmps166
 go_wp2
 refine bodyPost_ret (v:=.agg #[.bool s,.slice a1 k1 c1,.slice a2 k2 c2]) (by simp [results,Tryz.results166,go_sem]) rfl ⟨rfl,(by repeat (first|exact Gr.refl _|assumption|refine Gr.alloc ?_ _|refine Gr.drew ?_|refine Gr.drewN ?_ _|(refine Gr.put ?_ ?_ _;first|exact aQ _|(simp;done)|omega)|(apply Gr.after;assumption)))⟩
end
section
open Go.RowKit
abbrev auO(w:World)(b c d:Nat)(v0 v1 v2 u0 u1 u2 x0 x1 x2:Value):Prop:=fV w b v0 v1 v2∧fV w c u0 u1 u2∧fV w d x0 x1 x2
abbrev yQ(w:World)(b c:Nat)(v0 v1 v2 u0 u1 u2:Value):Prop:=fV w b v0 v1 v2∧fV w c u0 u1 u2
theorem yQ.mono{w w':World}{b c:Nat}{v0 v1 v2 u0 u1 u2:Value}(h:yQ w b c v0 v1 v2 u0 u1 u2)(g:Gr w w'):yQ w' b c v0 v1 v2 u0 u1 u2:=⟨h.1.mono g,h.2.mono g⟩
end
section
open Go.RowKit
def B7(s1 s2:Bool)(p q:Nat):Bool:=if s1=s2 then s1 else if q≤p then s1 else s2
def B6(s1 s2:Bool)(p q:Nat):Nat:=if s1=s2 then p+q else if q≤p then p-q else q-p
set_option maxHeartbeats 4000000 in
theorem ang(s1 s2:Bool)(n1 d1 n2 d2:Nat)(a1:Option Addr)(k1 c1:Nat)(e1:Option Addr)(l1 p1:Nat)(a2:Option Addr)(k2 c2:Nat)(e2:Option Addr)(l2 p2:Nat)(w:World)
  (hn1:dN w (.slice a1 k1 c1) n1) (rX:dN w (.slice e1 l1 p1) d1) (hn2:dN w (.slice a2 k2 c2) n2) (hd2:dN w (.slice e2 l2 p2) d2)
  (Dk:n1<10000000000000) (zj:d1<10000000000000) (Dl:n2<10000000000000) (zk:d2<10000000000000) (hc:s1=s2):
  Calls Tryz.prog 114 #[.agg #[.bool s1,.slice a1 k1 c1,.slice e1 l1 p1],.agg #[.bool s2,.slice a2 k2 c2,.slice e2 l2 p2]] w (Gk (B7 s1 s2 (n1*d2) (n2*d1)) (B6 s1 s2 (n1*d2) (n2*d1)) (d1*d2) w):=by
 have MB:=Lib.hid hn1;have MC:=Lib.hid hn2;have BZ:=Lib.hid rX;have B0:=Lib.hid hd2;have L1:=Lib.hid (qB (n:=n1) (by omega));have L2:=Lib.hid (qB (n:=n2) (by omega));have L3:=Lib.hid (qB (n:=d1) (by omega));have L4:=Lib.hid (qB (n:=d2) (by omega));have ae0:n1*d2≤10000000000000*10000000000000:=Nat.mul_le_mul (Nat.le_of_lt Dk) (Nat.le_of_lt zk);have aeZ:n2*d1≤10000000000000*10000000000000:=Nat.mul_le_mul (Nat.le_of_lt Dl) (Nat.le_of_lt zj);have ET:n1*d2<1000000000000000000000000000:=by omega
 have ES:n2*d1<1000000000000000000000000000:=by omega
 have MH:d1*d2<1000000000000000000000000000:=Nat.lt_of_le_of_lt (Nat.mul_le_mul (Nat.le_of_lt zj) (Nat.le_of_lt zk)) (by omega);have L5:=Lib.hid (qB ET);have L6:=Lib.hid (qB ES);clear hn1 hn2 rX hd2;subst hc;rw[show B7 s1 s1 (n1*d2) (n2*d1)=s1 from aO rfl,show B6 s1 s1 (n1*d2) (n2*d1)=n1*d2+n2*d1 from aO rfl];have LV:(n1*d2+n2*d1)<1000000000000000000000000000:=by omega
 go_enter Tryz.func114,Tryz.ntmps114
 go_wp2
 obtain⟨W,hW⟩:∃W,W=((w.alloc (.cells #[.bool s1,.slice a1 k1 c1,.slice e1 l1 p1] 126)).alloc (.cells #[.bool s1,.slice a2 k2 c2,.slice e2 l2 p2] 126)).alloc (.cells #[.bool false,.slice none 0 0,.slice none 0 0] 126):=⟨_,rfl⟩
 have K:yQ W w.heap.size (w.heap.size+1) (.bool s1) (.slice a1 k1 c1) (.slice e1 l1 p1) (.bool s1) (.slice a2 k2 c2) (.slice e2 l2 p2):=by subst hW;exact⟨fV.of (by repeat (first|exact oH _ _|(refine yL _ _ _ ?_;(simp;done))|(refine yG _ _ _ _ (by simp;try omega) ?_))),fV.of (by repeat (first|exact oH _ _|(refine yL _ _ _ ?_;(simp;done))|(refine yG _ _ _ _ (by simp;try omega) ?_)))⟩
 have K3:fV W (w.heap.size+1+1) (.bool false) (.slice none 0 0) (.slice none 0 0):=by subst hW;exact fV.of (by repeat (first|exact oH _ _|(refine yL _ _ _ ?_;(simp;done))|(refine yG _ _ _ _ (by simp;try omega) ?_)))
 have g0:Gr w W:=by subst hW;exact(by repeat (first|exact Gr.refl _|assumption|refine Gr.alloc ?_ _|refine Gr.drew ?_|refine Gr.drewN ?_ _|(refine Gr.put ?_ ?_ _;first|exact aQ _|(simp;done)|omega)|(apply Gr.after;assumption)))
 have hsz:w.heap.size+3=W.heap.size:=by subst hW;simp
 rw[←hW];clear hW
 go_region_held3 (λw'=>yQ w' w.heap.size (w.heap.size+1) (.bool s1) (.slice a1 k1 c1) (.slice e1 l1 p1) (.bool s1) (.slice a2 k2 c2) (.slice e2 l2 p2)) (first|(refine yQ.mono K ?_;(repeat (first|exact Gr.refl _|assumption|refine Gr.alloc ?_ _|refine Gr.drew ?_|refine Gr.drewN ?_ _|(refine Gr.put ?_ ?_ _;first|exact aQ _|(simp;done)|omega)|(apply Gr.after;assumption)));done)|(exact⟨((K1c.other (by omega)).other (by omega)).other (by omega),((K2c.other (by omega)).other (by omega)).other (by omega)⟩)) (first
  |(go_at_call 164;(with_reducible refine(Cm n1 d2 (.slice a1 k1 c1) (.slice e2 l2 p2) _ (by exact MB.out.mono (by repeat (first|exact Gr.refl _|assumption|refine Gr.alloc ?_ _|refine Gr.drew ?_|refine Gr.drewN ?_ _|(refine Gr.put ?_ ?_ _;first|exact aQ _|(simp;done)|omega)|(apply Gr.after;assumption)))) (by exact B0.out.mono (by repeat (first|exact Gr.refl _|assumption|refine Gr.alloc ?_ _|refine Gr.drew ?_|refine Gr.drewN ?_ _|(refine Gr.put ?_ ?_ _;first|exact aQ _|(simp;done)|omega)|(apply Gr.after;assumption)))) L1.out L4.out).mono ?_);rintro e wz ⟨va,rfl,ha,fa,hbz⟩;obtain⟨aa,ka,ca,rfl,hka,-⟩:=ha.shape ET;have HA:=Lib.hid ha;have FA:=Lib.hid (pJ.le (C:=W.heap.size) fa (Gr.size (by repeat (first|exact Gr.refl _|assumption|refine Gr.alloc ?_ _|refine Gr.drew ?_|refine Gr.drewN ?_ _|(refine Gr.put ?_ ?_ _;first|exact aQ _|(simp;done)|omega)|(apply Gr.after;assumption)))));clear ha fa;(try replace HB:=Lib.hid (dN.mono (w':=wz) HB.out (by repeat (first|exact Gr.refl _|assumption|refine Gr.alloc ?_ _|refine Gr.drew ?_|refine Gr.drewN ?_ _|(refine Gr.put ?_ ?_ _;first|exact aQ _|(simp;done)|omega)|(apply Gr.after;assumption)))));have gz:Gr W wz:=(by repeat (first|exact Gr.refl _|assumption|refine Gr.alloc ?_ _|refine Gr.drew ?_|refine Gr.drewN ?_ _|(refine Gr.put ?_ ?_ _;first|exact aQ _|(simp;done)|omega)|(apply Gr.after;assumption))))
  |(go_at_call 164;(with_reducible refine(Cm n2 d1 (.slice a2 k2 c2) (.slice e1 l1 p1) _ (by exact MC.out.mono (by repeat (first|exact Gr.refl _|assumption|refine Gr.alloc ?_ _|refine Gr.drew ?_|refine Gr.drewN ?_ _|(refine Gr.put ?_ ?_ _;first|exact aQ _|(simp;done)|omega)|(apply Gr.after;assumption)))) (by exact BZ.out.mono (by repeat (first|exact Gr.refl _|assumption|refine Gr.alloc ?_ _|refine Gr.drew ?_|refine Gr.drewN ?_ _|(refine Gr.put ?_ ?_ _;first|exact aQ _|(simp;done)|omega)|(apply Gr.after;assumption)))) L2.out L3.out).mono ?_);rintro e wz ⟨vb,rfl,hb,fb,hbz⟩;obtain⟨ab,kb,cb,rfl,hkb,-⟩:=hb.shape ES;have HB:=Lib.hid hb;have FB:=Lib.hid (pJ.le (C:=W.heap.size) fb (Gr.size (by repeat (first|exact Gr.refl _|assumption|refine Gr.alloc ?_ _|refine Gr.drew ?_|refine Gr.drewN ?_ _|(refine Gr.put ?_ ?_ _;first|exact aQ _|(simp;done)|omega)|(apply Gr.after;assumption)))));clear hb fb;(try replace HA:=Lib.hid (dN.mono (w':=wz) HA.out (by repeat (first|exact Gr.refl _|assumption|refine Gr.alloc ?_ _|refine Gr.drew ?_|refine Gr.drewN ?_ _|(refine Gr.put ?_ ?_ _;first|exact aQ _|(simp;done)|omega)|(apply Gr.after;assumption)))));have gz:Gr W wz:=(by repeat (first|exact Gr.refl _|assumption|refine Gr.alloc ?_ _|refine Gr.drew ?_|refine Gr.drewN ?_ _|(refine Gr.put ?_ ?_ _;first|exact aQ _|(simp;done)|omega)|(apply Gr.after;assumption)))))
 all_goals
  rename_i hh;have K1:=hh.1;have K2:=hh.2;clear hh K hbz;replace K3:=K3.mono gz
  go_wp2_with (first
   |(go_at_call 164;(with_reducible refine(Cm d1 d2 (.slice e1 l1 p1) (.slice e2 l2 p2) _ (by exact BZ.out.mono (g0.trans gz)) (by exact B0.out.mono (g0.trans gz)) L3.out L4.out).mono ?_);rintro e wy ⟨vd,rfl,hd,fd,hby⟩;obtain⟨ad,kd,cd,rfl,Q9,-⟩:=hd.shape MH;have HD:=Lib.hid hd;have FD:=Lib.hid (pJ.le (C:=W.heap.size) fd gz.size);clear hd fd;replace HA:=Lib.hid (dN.mono HA.out hby);replace HB:=Lib.hid (dN.mono HB.out hby);have gy:Gr W wy:=gz.trans hby;replace K1:=K1.mono hby;replace K2:=K2.mono hby;replace K3:=K3.mono hby)
   |(go_at_call 167;(with_reducible refine(KZ (n1*d2) (n2*d1) _ _ _ HA.out HB.out).mono ?_);rintro e wo ⟨rfl,q,rfl⟩))
  clear gz hby
  go_region_held3 (λw'=>fV w' w.heap.size (.bool s1) (.slice a1 k1 c1) (.slice e1 l1 p1)) (first|(refine fV.mono K1 ?_;(repeat (first|exact Gr.refl _|assumption|refine Gr.alloc ?_ _|refine Gr.drew ?_|refine Gr.drewN ?_ _|(refine Gr.put ?_ ?_ _;first|exact aQ _|(simp;done)|omega)|(apply Gr.after;assumption)));done)|(exact((Kc.other (by omega)).other (by omega)).other (by omega))) (first
   |(go_at_call 165;(with_reducible refine(anR (n1*d2) (n2*d1) (.slice aa ka ca) (.slice ab kb cb) _ (by exact HA.out.mono (by repeat (first|exact Gr.refl _|assumption|refine Gr.alloc ?_ _|refine Gr.drew ?_|refine Gr.drewN ?_ _|(refine Gr.put ?_ ?_ _;first|exact aQ _|(simp;done)|omega)|(apply Gr.after;assumption)))) (by exact HB.out.mono (by repeat (first|exact Gr.refl _|assumption|refine Gr.alloc ?_ _|refine Gr.drew ?_|refine Gr.drewN ?_ _|(refine Gr.put ?_ ?_ _;first|exact aQ _|(simp;done)|omega)|(apply Gr.after;assumption)))) L5.out L6.out).mono ?_);rintro e wp ⟨vp,rfl,A9,fp,yj⟩;obtain⟨ap,kp,cp,rfl,hkp,-⟩:=A9.shape LV;have HP:=Lib.hid A9;have FP:=Lib.hid (pJ.le (C:=W.heap.size) fp (Gr.size (by repeat (first|exact Gr.refl _|assumption|refine Gr.alloc ?_ _|refine Gr.drew ?_|refine Gr.drewN ?_ _|(refine Gr.put ?_ ?_ _;first|exact aQ _|(simp;done)|omega)|(apply Gr.after;assumption)))));clear A9 fp)
   |(go_at_call 166;(with_reducible refine(Tl _ _ _ _ _ _ _ _ (by omega) (by omega)).mono ?_);rintro e wc ⟨rfl,hbc⟩;have tI:Gr wy wc:=(by repeat (first|exact Gr.refl _|assumption|refine Gr.alloc ?_ _|refine Gr.drew ?_|refine Gr.drewN ?_ _|(refine Gr.put ?_ ?_ _;first|exact aQ _|(simp;done)|omega)|(apply Gr.after;assumption)));have ME:=K3.mono tI;have Kc:=K1.mono tI))
  all_goals
   have MD:dN wc (.slice ap kp cp) (n1*d2+n2*d1):=by clear tI;exact HP.out.mono (by repeat (first|exact Gr.refl _|assumption|refine Gr.alloc ?_ _|refine Gr.drew ?_|refine Gr.drewN ?_ _|(refine Gr.put ?_ ?_ _;first|exact aQ _|(simp;done)|omega)|(apply Gr.after;assumption)))
   have MA:dN wc (.slice ad kd cd) (d1*d2):=HD.out.mono tI;have MO:Gr w wc:=(g0.trans gy).trans tI
   go_wp2
   have K':fV (((wc.setCell ⟨w.heap.size+1+1,0,none⟩ (.bool s1)).setCell ⟨w.heap.size+1+1,1,none⟩ (.slice ap kp cp)).setCell ⟨w.heap.size+1+1,2,none⟩ (.slice ad kd cd)) (w.heap.size+1+1) (.bool s1) (.slice ap kp cp) (.slice ad kd cd):=ME.Ib.st1.st2;refine bodyPost_ret (v:=.agg #[.bool s1,.slice ap kp cp,.slice ad kd cd]) (by simp [results,Tryz.results114,go_sem,K']) rfl ?_;exact⟨_,_,rfl,((MD.off FP.out (by omega)).off FP.out (by omega)).off FP.out (by omega),((MA.off FD.out (by omega)).off FD.out (by omega)).off FD.out (by omega),FP.out.le (by omega),FD.out.le (by omega),((MO.put (by omega) _).put (by omega) _).put (by omega) _⟩
set_option maxHeartbeats 4000000 in
theorem anh(s1 s2:Bool)(n1 d1 n2 d2:Nat)(a1:Option Addr)(k1 c1:Nat)(e1:Option Addr)(l1 p1:Nat)(a2:Option Addr)(k2 c2:Nat)(e2:Option Addr)(l2 p2:Nat)(w:World)
  (hn1:dN w (.slice a1 k1 c1) n1) (rX:dN w (.slice e1 l1 p1) d1) (hn2:dN w (.slice a2 k2 c2) n2) (hd2:dN w (.slice e2 l2 p2) d2)
  (Dk:n1<10000000000000) (zj:d1<10000000000000) (Dl:n2<10000000000000) (zk:d2<10000000000000) (hc:(s1==s2)=false) (hpq:n2*d1≤n1*d2):
  Calls Tryz.prog 114 #[.agg #[.bool s1,.slice a1 k1 c1,.slice e1 l1 p1],.agg #[.bool s2,.slice a2 k2 c2,.slice e2 l2 p2]] w (Gk (B7 s1 s2 (n1*d2) (n2*d1)) (B6 s1 s2 (n1*d2) (n2*d1)) (d1*d2) w):=by
 have MB:=Lib.hid hn1;have MC:=Lib.hid hn2;have BZ:=Lib.hid rX;have B0:=Lib.hid hd2;have L1:=Lib.hid (qB (n:=n1) (by omega));have L2:=Lib.hid (qB (n:=n2) (by omega));have L3:=Lib.hid (qB (n:=d1) (by omega));have L4:=Lib.hid (qB (n:=d2) (by omega));have ae0:n1*d2≤10000000000000*10000000000000:=Nat.mul_le_mul (Nat.le_of_lt Dk) (Nat.le_of_lt zk);have aeZ:n2*d1≤10000000000000*10000000000000:=Nat.mul_le_mul (Nat.le_of_lt Dl) (Nat.le_of_lt zj);have ET:n1*d2<1000000000000000000000000000:=by omega
 have ES:n2*d1<1000000000000000000000000000:=by omega
 have MH:d1*d2<1000000000000000000000000000:=Nat.lt_of_le_of_lt (Nat.mul_le_mul (Nat.le_of_lt zj) (Nat.le_of_lt zk)) (by omega);have L5:=Lib.hid (qB ET);have L6:=Lib.hid (qB ES);clear hn1 hn2 rX hd2;have E0:s1≠s2:=by simpa using hc
 rw[show B7 s1 s2 (n1*d2) (n2*d1)=s1 by rw[B7,aK E0,aO hpq],show B6 s1 s2 (n1*d2) (n2*d1)=n1*d2-n2*d1 by rw[B6,aK E0,aO hpq]];clear E0;have atg:0≤sY (n1*d2) (n2*d1):=by rw[sY,aK (by omega)];split<;>omega
 have LV:(n1*d2-n2*d1)<1000000000000000000000000000:=by omega
 go_enter Tryz.func114,Tryz.ntmps114
 go_wp2
 obtain⟨W,hW⟩:∃W,W=((w.alloc (.cells #[.bool s1,.slice a1 k1 c1,.slice e1 l1 p1] 126)).alloc (.cells #[.bool s2,.slice a2 k2 c2,.slice e2 l2 p2] 126)).alloc (.cells #[.bool false,.slice none 0 0,.slice none 0 0] 126):=⟨_,rfl⟩
 have K:yQ W w.heap.size (w.heap.size+1) (.bool s1) (.slice a1 k1 c1) (.slice e1 l1 p1) (.bool s2) (.slice a2 k2 c2) (.slice e2 l2 p2):=by subst hW;exact⟨fV.of (by repeat (first|exact oH _ _|(refine yL _ _ _ ?_;(simp;done))|(refine yG _ _ _ _ (by simp;try omega) ?_))),fV.of (by repeat (first|exact oH _ _|(refine yL _ _ _ ?_;(simp;done))|(refine yG _ _ _ _ (by simp;try omega) ?_)))⟩
 have K3:fV W (w.heap.size+1+1) (.bool false) (.slice none 0 0) (.slice none 0 0):=by subst hW;exact fV.of (by repeat (first|exact oH _ _|(refine yL _ _ _ ?_;(simp;done))|(refine yG _ _ _ _ (by simp;try omega) ?_)))
 have g0:Gr w W:=by subst hW;exact(by repeat (first|exact Gr.refl _|assumption|refine Gr.alloc ?_ _|refine Gr.drew ?_|refine Gr.drewN ?_ _|(refine Gr.put ?_ ?_ _;first|exact aQ _|(simp;done)|omega)|(apply Gr.after;assumption)))
 have hsz:w.heap.size+3=W.heap.size:=by subst hW;simp
 rw[←hW];clear hW
 go_region_held3 (λw'=>yQ w' w.heap.size (w.heap.size+1) (.bool s1) (.slice a1 k1 c1) (.slice e1 l1 p1) (.bool s2) (.slice a2 k2 c2) (.slice e2 l2 p2)) (first|(refine yQ.mono K ?_;(repeat (first|exact Gr.refl _|assumption|refine Gr.alloc ?_ _|refine Gr.drew ?_|refine Gr.drewN ?_ _|(refine Gr.put ?_ ?_ _;first|exact aQ _|(simp;done)|omega)|(apply Gr.after;assumption)));done)|(exact⟨((K1c.other (by omega)).other (by omega)).other (by omega),((K2c.other (by omega)).other (by omega)).other (by omega)⟩)) (first
  |(go_at_call 164;(with_reducible refine(Cm n1 d2 (.slice a1 k1 c1) (.slice e2 l2 p2) _ (by exact MB.out.mono (by repeat (first|exact Gr.refl _|assumption|refine Gr.alloc ?_ _|refine Gr.drew ?_|refine Gr.drewN ?_ _|(refine Gr.put ?_ ?_ _;first|exact aQ _|(simp;done)|omega)|(apply Gr.after;assumption)))) (by exact B0.out.mono (by repeat (first|exact Gr.refl _|assumption|refine Gr.alloc ?_ _|refine Gr.drew ?_|refine Gr.drewN ?_ _|(refine Gr.put ?_ ?_ _;first|exact aQ _|(simp;done)|omega)|(apply Gr.after;assumption)))) L1.out L4.out).mono ?_);rintro e wz ⟨va,rfl,ha,fa,hbz⟩;obtain⟨aa,ka,ca,rfl,hka,-⟩:=ha.shape ET;have HA:=Lib.hid ha;have FA:=Lib.hid (pJ.le (C:=W.heap.size) fa (Gr.size (by repeat (first|exact Gr.refl _|assumption|refine Gr.alloc ?_ _|refine Gr.drew ?_|refine Gr.drewN ?_ _|(refine Gr.put ?_ ?_ _;first|exact aQ _|(simp;done)|omega)|(apply Gr.after;assumption)))));clear ha fa;(try replace HB:=Lib.hid (dN.mono (w':=wz) HB.out (by repeat (first|exact Gr.refl _|assumption|refine Gr.alloc ?_ _|refine Gr.drew ?_|refine Gr.drewN ?_ _|(refine Gr.put ?_ ?_ _;first|exact aQ _|(simp;done)|omega)|(apply Gr.after;assumption)))));have gz:Gr W wz:=(by repeat (first|exact Gr.refl _|assumption|refine Gr.alloc ?_ _|refine Gr.drew ?_|refine Gr.drewN ?_ _|(refine Gr.put ?_ ?_ _;first|exact aQ _|(simp;done)|omega)|(apply Gr.after;assumption))))
  |(go_at_call 164;(with_reducible refine(Cm n2 d1 (.slice a2 k2 c2) (.slice e1 l1 p1) _ (by exact MC.out.mono (by repeat (first|exact Gr.refl _|assumption|refine Gr.alloc ?_ _|refine Gr.drew ?_|refine Gr.drewN ?_ _|(refine Gr.put ?_ ?_ _;first|exact aQ _|(simp;done)|omega)|(apply Gr.after;assumption)))) (by exact BZ.out.mono (by repeat (first|exact Gr.refl _|assumption|refine Gr.alloc ?_ _|refine Gr.drew ?_|refine Gr.drewN ?_ _|(refine Gr.put ?_ ?_ _;first|exact aQ _|(simp;done)|omega)|(apply Gr.after;assumption)))) L2.out L3.out).mono ?_);rintro e wz ⟨vb,rfl,hb,fb,hbz⟩;obtain⟨ab,kb,cb,rfl,hkb,-⟩:=hb.shape ES;have HB:=Lib.hid hb;have FB:=Lib.hid (pJ.le (C:=W.heap.size) fb (Gr.size (by repeat (first|exact Gr.refl _|assumption|refine Gr.alloc ?_ _|refine Gr.drew ?_|refine Gr.drewN ?_ _|(refine Gr.put ?_ ?_ _;first|exact aQ _|(simp;done)|omega)|(apply Gr.after;assumption)))));clear hb fb;(try replace HA:=Lib.hid (dN.mono (w':=wz) HA.out (by repeat (first|exact Gr.refl _|assumption|refine Gr.alloc ?_ _|refine Gr.drew ?_|refine Gr.drewN ?_ _|(refine Gr.put ?_ ?_ _;first|exact aQ _|(simp;done)|omega)|(apply Gr.after;assumption)))));have gz:Gr W wz:=(by repeat (first|exact Gr.refl _|assumption|refine Gr.alloc ?_ _|refine Gr.drew ?_|refine Gr.drewN ?_ _|(refine Gr.put ?_ ?_ _;first|exact aQ _|(simp;done)|omega)|(apply Gr.after;assumption)))))
 all_goals
  rename_i hh;have K1:=hh.1;have K2:=hh.2;clear hh K hbz;replace K3:=K3.mono gz
  go_wp2_with (first
   |(go_at_call 164;(with_reducible refine(Cm d1 d2 (.slice e1 l1 p1) (.slice e2 l2 p2) _ (by exact BZ.out.mono (g0.trans gz)) (by exact B0.out.mono (g0.trans gz)) L3.out L4.out).mono ?_);rintro e wy ⟨vd,rfl,hd,fd,hby⟩;obtain⟨ad,kd,cd,rfl,Q9,-⟩:=hd.shape MH;have HD:=Lib.hid hd;have FD:=Lib.hid (pJ.le (C:=W.heap.size) fd gz.size);clear hd fd;replace HA:=Lib.hid (dN.mono HA.out hby);replace HB:=Lib.hid (dN.mono HB.out hby);have gy:Gr W wy:=gz.trans hby;replace K1:=K1.mono hby;replace K2:=K2.mono hby;replace K3:=K3.mono hby)
   |(go_at_call 167;(with_reducible refine(KZ (n1*d2) (n2*d1) _ _ _ HA.out HB.out).mono ?_);rintro e wo ⟨rfl,q,rfl⟩))
  have gq:Gr wy (wy.drewN q):=(Gr.refl _).drewN _;replace K1:=K1.mono gq;replace K2:=K2.mono gq;replace K3:=K3.mono gq;replace HA:=Lib.hid (dN.mono HA.out gq);replace HB:=Lib.hid (dN.mono HB.out gq);replace HD:=Lib.hid (dN.mono HD.out gq);replace gy:=gy.trans gq;generalize wy.drewN q=wy at *
  clear gz hby gq
  go_region_held3 (λw'=>fV w' w.heap.size (.bool s1) (.slice a1 k1 c1) (.slice e1 l1 p1)) (first|(refine fV.mono K1 ?_;(repeat (first|exact Gr.refl _|assumption|refine Gr.alloc ?_ _|refine Gr.drew ?_|refine Gr.drewN ?_ _|(refine Gr.put ?_ ?_ _;first|exact aQ _|(simp;done)|omega)|(apply Gr.after;assumption)));done)|(exact((Kc.other (by omega)).other (by omega)).other (by omega))) (first
   |(go_at_call 168;(with_reducible refine(aa0 (n1*d2) (n2*d1) (.slice aa ka ca) (.slice ab kb cb) _ (by exact HA.out.mono (by repeat (first|exact Gr.refl _|assumption|refine Gr.alloc ?_ _|refine Gr.drew ?_|refine Gr.drewN ?_ _|(refine Gr.put ?_ ?_ _;first|exact aQ _|(simp;done)|omega)|(apply Gr.after;assumption)))) (by exact HB.out.mono (by repeat (first|exact Gr.refl _|assumption|refine Gr.alloc ?_ _|refine Gr.drew ?_|refine Gr.drewN ?_ _|(refine Gr.put ?_ ?_ _;first|exact aQ _|(simp;done)|omega)|(apply Gr.after;assumption)))) L5.out hpq).mono ?_);rintro e wp ⟨vp,rfl,A9,fp,yj⟩;obtain⟨ap,kp,cp,rfl,hkp,-⟩:=A9.shape LV;have HP:=Lib.hid A9;have FP:=Lib.hid (pJ.le (C:=W.heap.size) fp (Gr.size (by repeat (first|exact Gr.refl _|assumption|refine Gr.alloc ?_ _|refine Gr.drew ?_|refine Gr.drewN ?_ _|(refine Gr.put ?_ ?_ _;first|exact aQ _|(simp;done)|omega)|(apply Gr.after;assumption)))));clear A9 fp)
   |(go_at_call 166;(with_reducible refine(Tl _ _ _ _ _ _ _ _ (by omega) (by omega)).mono ?_);rintro e wc ⟨rfl,hbc⟩;have tI:Gr wy wc:=(by repeat (first|exact Gr.refl _|assumption|refine Gr.alloc ?_ _|refine Gr.drew ?_|refine Gr.drewN ?_ _|(refine Gr.put ?_ ?_ _;first|exact aQ _|(simp;done)|omega)|(apply Gr.after;assumption)));have ME:=K3.mono tI;have Kc:=K1.mono tI))
  all_goals
   have MD:dN wc (.slice ap kp cp) (n1*d2-n2*d1):=by clear tI;exact HP.out.mono (by repeat (first|exact Gr.refl _|assumption|refine Gr.alloc ?_ _|refine Gr.drew ?_|refine Gr.drewN ?_ _|(refine Gr.put ?_ ?_ _;first|exact aQ _|(simp;done)|omega)|(apply Gr.after;assumption)))
   have MA:dN wc (.slice ad kd cd) (d1*d2):=HD.out.mono tI;have MO:Gr w wc:=(g0.trans gy).trans tI
   go_wp2
   have K':fV (((wc.setCell ⟨w.heap.size+1+1,0,none⟩ (.bool s1)).setCell ⟨w.heap.size+1+1,1,none⟩ (.slice ap kp cp)).setCell ⟨w.heap.size+1+1,2,none⟩ (.slice ad kd cd)) (w.heap.size+1+1) (.bool s1) (.slice ap kp cp) (.slice ad kd cd):=ME.Ib.st1.st2;refine bodyPost_ret (v:=.agg #[.bool s1,.slice ap kp cp,.slice ad kd cd]) (by simp [results,Tryz.results114,go_sem,K']) rfl ?_;exact⟨_,_,rfl,((MD.off FP.out (by omega)).off FP.out (by omega)).off FP.out (by omega),((MA.off FD.out (by omega)).off FD.out (by omega)).off FD.out (by omega),FP.out.le (by omega),FD.out.le (by omega),((MO.put (by omega) _).put (by omega) _).put (by omega) _⟩
set_option maxHeartbeats 4000000 in
theorem ani(s1 s2:Bool)(n1 d1 n2 d2:Nat)(a1:Option Addr)(k1 c1:Nat)(e1:Option Addr)(l1 p1:Nat)(a2:Option Addr)(k2 c2:Nat)(e2:Option Addr)(l2 p2:Nat)(w:World)
  (hn1:dN w (.slice a1 k1 c1) n1) (rX:dN w (.slice e1 l1 p1) d1) (hn2:dN w (.slice a2 k2 c2) n2) (hd2:dN w (.slice e2 l2 p2) d2)
  (Dk:n1<10000000000000) (zj:d1<10000000000000) (Dl:n2<10000000000000) (zk:d2<10000000000000) (hc:(s1==s2)=false) (hpq:n1*d2<n2*d1):
  Calls Tryz.prog 114 #[.agg #[.bool s1,.slice a1 k1 c1,.slice e1 l1 p1],.agg #[.bool s2,.slice a2 k2 c2,.slice e2 l2 p2]] w (Gk (B7 s1 s2 (n1*d2) (n2*d1)) (B6 s1 s2 (n1*d2) (n2*d1)) (d1*d2) w):=by
 have MB:=Lib.hid hn1;have MC:=Lib.hid hn2;have BZ:=Lib.hid rX;have B0:=Lib.hid hd2;have L1:=Lib.hid (qB (n:=n1) (by omega));have L2:=Lib.hid (qB (n:=n2) (by omega));have L3:=Lib.hid (qB (n:=d1) (by omega));have L4:=Lib.hid (qB (n:=d2) (by omega));have ae0:n1*d2≤10000000000000*10000000000000:=Nat.mul_le_mul (Nat.le_of_lt Dk) (Nat.le_of_lt zk);have aeZ:n2*d1≤10000000000000*10000000000000:=Nat.mul_le_mul (Nat.le_of_lt Dl) (Nat.le_of_lt zj);have ET:n1*d2<1000000000000000000000000000:=by omega
 have ES:n2*d1<1000000000000000000000000000:=by omega
 have MH:d1*d2<1000000000000000000000000000:=Nat.lt_of_le_of_lt (Nat.mul_le_mul (Nat.le_of_lt zj) (Nat.le_of_lt zk)) (by omega);have L5:=Lib.hid (qB ET);have L6:=Lib.hid (qB ES);clear hn1 hn2 rX hd2;have E0:s1≠s2:=by simpa using hc
 rw[show B7 s1 s2 (n1*d2) (n2*d1)=s2 by rw[B7,aK E0,aK (by omega)],show B6 s1 s2 (n1*d2) (n2*d1)=n2*d1-n1*d2 by rw[B6,aK E0,aK (by omega)]];clear E0;have atg:decide (0≤sY (n1*d2) (n2*d1))=false:=by rw[sY,aO hpq];rfl
 have LV:(n2*d1-n1*d2)<1000000000000000000000000000:=by omega
 go_enter Tryz.func114,Tryz.ntmps114
 go_wp2
 obtain⟨W,hW⟩:∃W,W=((w.alloc (.cells #[.bool s1,.slice a1 k1 c1,.slice e1 l1 p1] 126)).alloc (.cells #[.bool s2,.slice a2 k2 c2,.slice e2 l2 p2] 126)).alloc (.cells #[.bool false,.slice none 0 0,.slice none 0 0] 126):=⟨_,rfl⟩
 have K:yQ W w.heap.size (w.heap.size+1) (.bool s1) (.slice a1 k1 c1) (.slice e1 l1 p1) (.bool s2) (.slice a2 k2 c2) (.slice e2 l2 p2):=by subst hW;exact⟨fV.of (by repeat (first|exact oH _ _|(refine yL _ _ _ ?_;(simp;done))|(refine yG _ _ _ _ (by simp;try omega) ?_))),fV.of (by repeat (first|exact oH _ _|(refine yL _ _ _ ?_;(simp;done))|(refine yG _ _ _ _ (by simp;try omega) ?_)))⟩
 have K3:fV W (w.heap.size+1+1) (.bool false) (.slice none 0 0) (.slice none 0 0):=by subst hW;exact fV.of (by repeat (first|exact oH _ _|(refine yL _ _ _ ?_;(simp;done))|(refine yG _ _ _ _ (by simp;try omega) ?_)))
 have g0:Gr w W:=by subst hW;exact(by repeat (first|exact Gr.refl _|assumption|refine Gr.alloc ?_ _|refine Gr.drew ?_|refine Gr.drewN ?_ _|(refine Gr.put ?_ ?_ _;first|exact aQ _|(simp;done)|omega)|(apply Gr.after;assumption)))
 have hsz:w.heap.size+3=W.heap.size:=by subst hW;simp
 rw[←hW];clear hW
 go_region_held3 (λw'=>yQ w' w.heap.size (w.heap.size+1) (.bool s1) (.slice a1 k1 c1) (.slice e1 l1 p1) (.bool s2) (.slice a2 k2 c2) (.slice e2 l2 p2)) (first|(refine yQ.mono K ?_;(repeat (first|exact Gr.refl _|assumption|refine Gr.alloc ?_ _|refine Gr.drew ?_|refine Gr.drewN ?_ _|(refine Gr.put ?_ ?_ _;first|exact aQ _|(simp;done)|omega)|(apply Gr.after;assumption)));done)|(exact⟨((K1c.other (by omega)).other (by omega)).other (by omega),((K2c.other (by omega)).other (by omega)).other (by omega)⟩)) (first
  |(go_at_call 164;(with_reducible refine(Cm n1 d2 (.slice a1 k1 c1) (.slice e2 l2 p2) _ (by exact MB.out.mono (by repeat (first|exact Gr.refl _|assumption|refine Gr.alloc ?_ _|refine Gr.drew ?_|refine Gr.drewN ?_ _|(refine Gr.put ?_ ?_ _;first|exact aQ _|(simp;done)|omega)|(apply Gr.after;assumption)))) (by exact B0.out.mono (by repeat (first|exact Gr.refl _|assumption|refine Gr.alloc ?_ _|refine Gr.drew ?_|refine Gr.drewN ?_ _|(refine Gr.put ?_ ?_ _;first|exact aQ _|(simp;done)|omega)|(apply Gr.after;assumption)))) L1.out L4.out).mono ?_);rintro e wz ⟨va,rfl,ha,fa,hbz⟩;obtain⟨aa,ka,ca,rfl,hka,-⟩:=ha.shape ET;have HA:=Lib.hid ha;have FA:=Lib.hid (pJ.le (C:=W.heap.size) fa (Gr.size (by repeat (first|exact Gr.refl _|assumption|refine Gr.alloc ?_ _|refine Gr.drew ?_|refine Gr.drewN ?_ _|(refine Gr.put ?_ ?_ _;first|exact aQ _|(simp;done)|omega)|(apply Gr.after;assumption)))));clear ha fa;(try replace HB:=Lib.hid (dN.mono (w':=wz) HB.out (by repeat (first|exact Gr.refl _|assumption|refine Gr.alloc ?_ _|refine Gr.drew ?_|refine Gr.drewN ?_ _|(refine Gr.put ?_ ?_ _;first|exact aQ _|(simp;done)|omega)|(apply Gr.after;assumption)))));have gz:Gr W wz:=(by repeat (first|exact Gr.refl _|assumption|refine Gr.alloc ?_ _|refine Gr.drew ?_|refine Gr.drewN ?_ _|(refine Gr.put ?_ ?_ _;first|exact aQ _|(simp;done)|omega)|(apply Gr.after;assumption))))
  |(go_at_call 164;(with_reducible refine(Cm n2 d1 (.slice a2 k2 c2) (.slice e1 l1 p1) _ (by exact MC.out.mono (by repeat (first|exact Gr.refl _|assumption|refine Gr.alloc ?_ _|refine Gr.drew ?_|refine Gr.drewN ?_ _|(refine Gr.put ?_ ?_ _;first|exact aQ _|(simp;done)|omega)|(apply Gr.after;assumption)))) (by exact BZ.out.mono (by repeat (first|exact Gr.refl _|assumption|refine Gr.alloc ?_ _|refine Gr.drew ?_|refine Gr.drewN ?_ _|(refine Gr.put ?_ ?_ _;first|exact aQ _|(simp;done)|omega)|(apply Gr.after;assumption)))) L2.out L3.out).mono ?_);rintro e wz ⟨vb,rfl,hb,fb,hbz⟩;obtain⟨ab,kb,cb,rfl,hkb,-⟩:=hb.shape ES;have HB:=Lib.hid hb;have FB:=Lib.hid (pJ.le (C:=W.heap.size) fb (Gr.size (by repeat (first|exact Gr.refl _|assumption|refine Gr.alloc ?_ _|refine Gr.drew ?_|refine Gr.drewN ?_ _|(refine Gr.put ?_ ?_ _;first|exact aQ _|(simp;done)|omega)|(apply Gr.after;assumption)))));clear hb fb;(try replace HA:=Lib.hid (dN.mono (w':=wz) HA.out (by repeat (first|exact Gr.refl _|assumption|refine Gr.alloc ?_ _|refine Gr.drew ?_|refine Gr.drewN ?_ _|(refine Gr.put ?_ ?_ _;first|exact aQ _|(simp;done)|omega)|(apply Gr.after;assumption)))));have gz:Gr W wz:=(by repeat (first|exact Gr.refl _|assumption|refine Gr.alloc ?_ _|refine Gr.drew ?_|refine Gr.drewN ?_ _|(refine Gr.put ?_ ?_ _;first|exact aQ _|(simp;done)|omega)|(apply Gr.after;assumption)))))
 all_goals
  rename_i hh;have K1:=hh.1;have K2:=hh.2;clear hh K hbz;replace K3:=K3.mono gz
  go_wp2_with (first
   |(go_at_call 164;(with_reducible refine(Cm d1 d2 (.slice e1 l1 p1) (.slice e2 l2 p2) _ (by exact BZ.out.mono (g0.trans gz)) (by exact B0.out.mono (g0.trans gz)) L3.out L4.out).mono ?_);rintro e wy ⟨vd,rfl,hd,fd,hby⟩;obtain⟨ad,kd,cd,rfl,Q9,-⟩:=hd.shape MH;have HD:=Lib.hid hd;have FD:=Lib.hid (pJ.le (C:=W.heap.size) fd gz.size);clear hd fd;replace HA:=Lib.hid (dN.mono HA.out hby);replace HB:=Lib.hid (dN.mono HB.out hby);have gy:Gr W wy:=gz.trans hby;replace K1:=K1.mono hby;replace K2:=K2.mono hby;replace K3:=K3.mono hby)
   |(go_at_call 167;(with_reducible refine(KZ (n1*d2) (n2*d1) _ _ _ HA.out HB.out).mono ?_);rintro e wo ⟨rfl,q,rfl⟩))
  have gq:Gr wy (wy.drewN q):=(Gr.refl _).drewN _;replace K1:=K1.mono gq;replace K2:=K2.mono gq;replace K3:=K3.mono gq;replace HA:=Lib.hid (dN.mono HA.out gq);replace HB:=Lib.hid (dN.mono HB.out gq);replace HD:=Lib.hid (dN.mono HD.out gq);replace gy:=gy.trans gq;generalize wy.drewN q=wy at *
  clear gz hby gq
  go_region_held3 (λw'=>fV w' (w.heap.size+1) (.bool s2) (.slice a2 k2 c2) (.slice e2 l2 p2)) (first|(refine fV.mono K2 ?_;(repeat (first|exact Gr.refl _|assumption|refine Gr.alloc ?_ _|refine Gr.drew ?_|refine Gr.drewN ?_ _|(refine Gr.put ?_ ?_ _;first|exact aQ _|(simp;done)|omega)|(apply Gr.after;assumption)));done)|(exact((Kc.other (by omega)).other (by omega)).other (by omega))) (first
   |(go_at_call 168;(with_reducible refine(aa0 (n2*d1) (n1*d2) (.slice ab kb cb) (.slice aa ka ca) _ (by exact HB.out.mono (by repeat (first|exact Gr.refl _|assumption|refine Gr.alloc ?_ _|refine Gr.drew ?_|refine Gr.drewN ?_ _|(refine Gr.put ?_ ?_ _;first|exact aQ _|(simp;done)|omega)|(apply Gr.after;assumption)))) (by exact HA.out.mono (by repeat (first|exact Gr.refl _|assumption|refine Gr.alloc ?_ _|refine Gr.drew ?_|refine Gr.drewN ?_ _|(refine Gr.put ?_ ?_ _;first|exact aQ _|(simp;done)|omega)|(apply Gr.after;assumption)))) L6.out (Nat.le_of_lt hpq)).mono ?_);rintro e wp ⟨vp,rfl,A9,fp,yj⟩;obtain⟨ap,kp,cp,rfl,hkp,-⟩:=A9.shape LV;have HP:=Lib.hid A9;have FP:=Lib.hid (pJ.le (C:=W.heap.size) fp (Gr.size (by repeat (first|exact Gr.refl _|assumption|refine Gr.alloc ?_ _|refine Gr.drew ?_|refine Gr.drewN ?_ _|(refine Gr.put ?_ ?_ _;first|exact aQ _|(simp;done)|omega)|(apply Gr.after;assumption)))));clear A9 fp)
   |(go_at_call 166;(with_reducible refine(Tl _ _ _ _ _ _ _ _ (by omega) (by omega)).mono ?_);rintro e wc ⟨rfl,hbc⟩;have tI:Gr wy wc:=(by repeat (first|exact Gr.refl _|assumption|refine Gr.alloc ?_ _|refine Gr.drew ?_|refine Gr.drewN ?_ _|(refine Gr.put ?_ ?_ _;first|exact aQ _|(simp;done)|omega)|(apply Gr.after;assumption)));have ME:=K3.mono tI;have Kc:=K2.mono tI))
  all_goals
   have MD:dN wc (.slice ap kp cp) (n2*d1-n1*d2):=by clear tI;exact HP.out.mono (by repeat (first|exact Gr.refl _|assumption|refine Gr.alloc ?_ _|refine Gr.drew ?_|refine Gr.drewN ?_ _|(refine Gr.put ?_ ?_ _;first|exact aQ _|(simp;done)|omega)|(apply Gr.after;assumption)))
   have MA:dN wc (.slice ad kd cd) (d1*d2):=HD.out.mono tI;have MO:Gr w wc:=(g0.trans gy).trans tI
   go_wp2
   have K':fV (((wc.setCell ⟨w.heap.size+1+1,0,none⟩ (.bool s2)).setCell ⟨w.heap.size+1+1,1,none⟩ (.slice ap kp cp)).setCell ⟨w.heap.size+1+1,2,none⟩ (.slice ad kd cd)) (w.heap.size+1+1) (.bool s2) (.slice ap kp cp) (.slice ad kd cd):=ME.Ib.st1.st2;refine bodyPost_ret (v:=.agg #[.bool s2,.slice ap kp cp,.slice ad kd cd]) (by simp [results,Tryz.results114,go_sem,K']) rfl ?_;exact⟨_,_,rfl,((MD.off FP.out (by omega)).off FP.out (by omega)).off FP.out (by omega),((MA.off FD.out (by omega)).off FD.out (by omega)).off FD.out (by omega),FP.out.le (by omega),FD.out.le (by omega),((MO.put (by omega) _).put (by omega) _).put (by omega) _⟩
theorem alK(s1 s2:Bool)(n1 d1 n2 d2:Nat)(a1:Option Addr)(k1 c1:Nat)(e1:Option Addr)(l1 p1:Nat)(a2:Option Addr)(k2 c2:Nat)(e2:Option Addr)(l2 p2:Nat)(w:World)
  (hn1:dN w (.slice a1 k1 c1) n1) (rX:dN w (.slice e1 l1 p1) d1) (hn2:dN w (.slice a2 k2 c2) n2) (hd2:dN w (.slice e2 l2 p2) d2)
  (Dk:n1<10000000000000) (zj:d1<10000000000000) (Dl:n2<10000000000000) (zk:d2<10000000000000):
  Calls Tryz.prog 114 #[.agg #[.bool s1,.slice a1 k1 c1,.slice e1 l1 p1],.agg #[.bool s2,.slice a2 k2 c2,.slice e2 l2 p2]] w (Gk (B7 s1 s2 (n1*d2) (n2*d1)) (B6 s1 s2 (n1*d2) (n2*d1)) (d1*d2) w):=by
 by_cases hc:s1=s2
 ·exact ang s1 s2 n1 d1 n2 d2 a1 k1 c1 e1 l1 p1 a2 k2 c2 e2 l2 p2 w hn1 rX hn2 hd2 Dk zj Dl zk hc
 ·rcases Nat.lt_or_ge (n1*d2) (n2*d1)with h|h
  ·exact ani s1 s2 n1 d1 n2 d2 a1 k1 c1 e1 l1 p1 a2 k2 c2 e2 l2 p2 w hn1 rX hn2 hd2 Dk zj Dl zk (by simpa using hc) h
  ·exact anh s1 s2 n1 d1 n2 d2 a1 k1 c1 e1 l1 p1 a2 k2 c2 e2 l2 p2 w hn1 rX hn2 hd2 Dk zj Dl zk (by simpa using hc) h
end
section
open Go.RowKit
set_option maxHeartbeats 2000000 in
theorem aj7(n d:Nat)(a1:Option Addr)(k1 c1:Nat)(e1:Option Addr)(l1 p1:Nat)(w:World)
  (hn:dN w (.slice a1 k1 c1) n) (hd:dN w (.slice e1 l1 p1) d) (bn:n<1000000000000000000) (Xk:0<d) (bd:d<1000000000):
  Calls Tryz.prog 115 #[.agg #[.bool false,.slice a1 k1 c1,.slice e1 l1 p1]] w λe w'=>e=.returned (.int .i64 ((n / d:Nat):Int))∧Gr w w':=by
 have HN:=Lib.hid hn;have HD:=Lib.hid hd;clear hn hd;have L1:=Lib.hid (qB (n:=n) (by omega));have K:fV (w.alloc (.cells #[.bool false,.slice a1 k1 c1,.slice e1 l1 p1] 126)) w.heap.size (.bool false) (.slice a1 k1 c1) (.slice e1 l1 p1):=fV.of (by repeat (first|exact oH _ _|(refine yL _ _ _ ?_;(simp;done))|(refine yG _ _ _ _ (by simp;try omega) ?_)));have g0:Gr w (w.alloc (.cells #[.bool false,.slice a1 k1 c1,.slice e1 l1 p1] 126)):=(by repeat (first|exact Gr.refl _|assumption|refine Gr.alloc ?_ _|refine Gr.drew ?_|refine Gr.drewN ?_ _|(refine Gr.put ?_ ?_ _;first|exact aQ _|(simp;done)|omega)|(apply Gr.after;assumption)))
 have hqn:n / d≤n:=Nat.div_le_self n d;have hqm:n % d<d:=Nat.mod_lt n Xk;generalize hQ:n / d=Q at *
 generalize hR:n % d=R at *
 have HQ:=Lib.hid hQ;have HRR:=Lib.hid hR;clear hQ hR
 go_enter Tryz.func115,Tryz.ntmps115
 go_wp2_with (first
   |(go_at_call 169;(with_reducible refine(ai3 n d _ _ _ (by exact HN.out.mono g0) (by exact HD.out.mono g0) L1.out Xk bd).mono ?_);rintro e w1 ⟨v1,v2,rfl,h1,h2,tJ⟩;rw[HQ.out]at h1;rw[HRR.out]at h2;have H1:=Lib.hid h1;have H2:=Lib.hid h2;clear h1 h2;replace K:=K.mono tJ)
   |(go_at_call 170;(with_reducible refine(ajl Q _ _ H1.out (by omega)).mono ?_);rintro e w2 ⟨rfl,rfl⟩))
 go_ret
 exact⟨rfl,g0.trans tJ⟩
set_option maxHeartbeats 2000000 in
theorem aqx(w:World):Calls Tryz.prog 54 #[.int .i64 1,.int .i64 2] w (Gk false 1 2 w):=ab8 1 2 w (by omega) (by omega)
theorem akd(n d:Nat)(a1:Option Addr)(k1 c1:Nat)(e1:Option Addr)(l1 p1:Nat)(w:World)
  (hn:dN w (.slice a1 k1 c1) n) (hd:dN w (.slice e1 l1 p1) d) (bn:n<10000000000000) (Xk:0<d) (bd:d<500000000):
  Calls Tryz.prog 55 #[.agg #[.bool false,.slice a1 k1 c1,.slice e1 l1 p1]] w λe w'=>e=.returned (.int .i64 (((n*2+1*d) / (d*2):Nat):Int))∧Gr w w':=by
 have HN:=Lib.hid hn;have HD:=Lib.hid hd;clear hn hd
 go_enter Tryz.func55,Tryz.ntmps55
 go_wp2
 obtain⟨W,hW⟩:∃W,W=w.alloc (.cells #[.bool false,.slice a1 k1 c1,.slice e1 l1 p1] 126):=⟨_,rfl⟩
 have K:fV W w.heap.size (.bool false) (.slice a1 k1 c1) (.slice e1 l1 p1):=by subst hW;exact fV.of (by repeat (first|exact oH _ _|(refine yL _ _ _ ?_;(simp;done))|(refine yG _ _ _ _ (by simp;try omega) ?_)))
 have g0:Gr w W:=by subst hW;exact(by repeat (first|exact Gr.refl _|assumption|refine Gr.alloc ?_ _|refine Gr.drew ?_|refine Gr.drewN ?_ _|(refine Gr.put ?_ ?_ _;first|exact aQ _|(simp;done)|omega)|(apply Gr.after;assumption)))
 rw[←hW];clear hW
 go_region_held3 (λw'=>fV w' w.heap.size (.bool false) (.slice a1 k1 c1) (.slice e1 l1 p1)) ((refine fV.mono K ?_;(repeat (first|exact Gr.refl _|assumption|refine Gr.alloc ?_ _|refine Gr.drew ?_|refine Gr.drewN ?_ _|(refine Gr.put ?_ ?_ _;first|exact aQ _|(simp;done)|omega)|(apply Gr.after;assumption)));done)) (first
  |(go_at_call 54;(with_reducible refine(aqx _).mono ?_);rintro e w1 ⟨v1,u1,rfl,h1,h2,-,-,tJ⟩;obtain⟨a2,k2,c2,rfl,-,-⟩:=h1.shape (by omega);obtain⟨e2,l2,p2,rfl,-,-⟩:=h2.shape (by omega);have H1:=Lib.hid h1;have H2:=Lib.hid h2;clear h1 h2)
  |(go_at_call 114;(with_reducible refine(alK false false n d 1 2 a1 k1 c1 e1 l1 p1 a2 k2 c2 e2 l2 p2 _ (by exact HN.out.mono (by repeat (first|exact Gr.refl _|assumption|refine Gr.alloc ?_ _|refine Gr.drew ?_|refine Gr.drewN ?_ _|(refine Gr.put ?_ ?_ _;first|exact aQ _|(simp;done)|omega)|(apply Gr.after;assumption)))) (by exact HD.out.mono (by repeat (first|exact Gr.refl _|assumption|refine Gr.alloc ?_ _|refine Gr.drew ?_|refine Gr.drewN ?_ _|(refine Gr.put ?_ ?_ _;first|exact aQ _|(simp;done)|omega)|(apply Gr.after;assumption)))) (by exact H1.out.mono (by repeat (first|exact Gr.refl _|assumption|refine Gr.alloc ?_ _|refine Gr.drew ?_|refine Gr.drewN ?_ _|(refine Gr.put ?_ ?_ _;first|exact aQ _|(simp;done)|omega)|(apply Gr.after;assumption)))) (by exact H2.out.mono (by repeat (first|exact Gr.refl _|assumption|refine Gr.alloc ?_ _|refine Gr.drew ?_|refine Gr.drewN ?_ _|(refine Gr.put ?_ ?_ _;first|exact aQ _|(simp;done)|omega)|(apply Gr.after;assumption)))) bn (by omega) (by omega) (by omega)).mono ?_);rintro e w2 ⟨v3,u3,rfl,h3,h4,-,-,nV⟩;rw[show B6 false false (n*2) (1*d)=n*2+1*d from aO rfl]at h3;obtain⟨a3,k3,c3,rfl,-,-⟩:=h3.shape (by omega);obtain⟨e3,l3,p3,rfl,-,-⟩:=h4.shape (by omega);have H3:=Lib.hid h3;have H4:=Lib.hid h4;clear h3 h4;rw[show B7 false false (n*2) (1*d)=false from aO rfl])
  |(go_at_call 115;(with_reducible refine(aj7 (n*2+1*d) (d*2) a3 k3 c3 e3 l3 p3 _ (by exact H3.out.mono (by repeat (first|exact Gr.refl _|assumption|refine Gr.alloc ?_ _|refine Gr.drew ?_|refine Gr.drewN ?_ _|(refine Gr.put ?_ ?_ _;first|exact aQ _|(simp;done)|omega)|(apply Gr.after;assumption)))) (by exact H4.out.mono (by repeat (first|exact Gr.refl _|assumption|refine Gr.alloc ?_ _|refine Gr.drew ?_|refine Gr.drewN ?_ _|(refine Gr.put ?_ ?_ _;first|exact aQ _|(simp;done)|omega)|(apply Gr.after;assumption)))) (by omega) (by omega) (by omega)).mono ?_);rintro e w3 ⟨rfl,XB⟩))
 all_goals
  go_wp2
  go_ret
  exact⟨FY (by simp),(by repeat (first|exact Gr.refl _|assumption|refine Gr.alloc ?_ _|refine Gr.drew ?_|refine Gr.drewN ?_ _|(refine Gr.put ?_ ?_ _;first|exact aQ _|(simp;done)|omega)|(apply Gr.after;assumption)))⟩
end
section
open Go.RowKit
theorem ait(n:Int)(w:World):Calls Tryz.prog 53 #[.int .i64 n] w λe w'=>e=.returned (.bool (Eh n 0 65535))∧w=w':=by
 go_enter Tryz.func53,Tryz.ntmps53
 go_wp2_with (go_at_call 112;refine(ajP _ _ _ _).mono ?_;rintro e w' ⟨rfl,rfl⟩)
 go_ret
 exact⟨rfl,rfl⟩
theorem anM(x y:Int)(a b:Nat)(w:World)(hx:x=a)(hy:y=b)(ha:a≤9223372036854775807)(hb:b≤9223372036854775807):Calls Tryz.prog 54 #[.int .i64 x,.int .i64 y] w (Gk false a b w):=by subst hx;subst hy;exact ab8 a b w ha hb
set_option maxHeartbeats 1000000 in
set_option maxRecDepth 100000 in
theorem akX(a b:Nat)(ha:a≤65535)(hb:b≤65535)(w:World):Calls Tryz.prog 16 #[.int .i64 (a:Int),.int .i64 (b:Int)] w λe w'=>e=.returned (.tuple #[.int .i64 ((Mx a b:Nat):Int),.int .i64 0])∧Gr w w':=by
 have h1:Eh (a:Int) 0 65535=true:=by simp [Eh];omega
 have h2:Eh (b:Int) 0 65535=true:=by simp [Eh];omega
 have hm:a*b≤65535*65535:=Nat.mul_le_mul ha hb;have hw:IntKind.i64.wrap ((a:Int)*(b:Int))=(a:Int)*(b:Int):=U2 (by rw[←Int.natCast_mul];omega)
 go_enter Tryz.func16,Tryz.ntmps16
 go_wp2_with (first
  |(go_at_call 53;refine(ait _ _).mono ?_;rintro e w' ⟨rfl,rfl⟩)
  |(go_at_call 54;(with_reducible refine(anM _ 65535 (a*b) 65535 _ (Int.natCast_mul a b).symm rfl (by omega) (by omega)).mono ?_);rintro e w1 ⟨v1,u1,rfl,k1,k2,-,-,tJ⟩;obtain⟨a2,k2',c2,rfl,-,-⟩:=k1.shape (by omega);obtain⟨e2,l2,p2,rfl,-,-⟩:=k2.shape (by omega);have H1:=Lib.hid k1;have H2:=Lib.hid k2;clear k1 k2)
  |(go_at_call 55;(with_reducible refine(akd (a*b) 65535 _ _ _ _ _ _ _ (by exact H1.out) (by exact H2.out) (by omega) (by omega) (by omega)).mono ?_);rintro e w2 ⟨rfl,nV⟩))
 go_ret2
 exact⟨rfl,(by repeat (first|exact Gr.refl _|assumption|refine Gr.alloc ?_ _|refine Gr.drew ?_|refine Gr.drewN ?_ _|(refine Gr.put ?_ ?_ _;first|exact aQ _|(simp;done)|omega)|(apply Gr.after;assumption)))⟩
theorem akP:Sound Tryz.prog aN 16 IN:=by
 intro args σ r σ' h;unfold IN A.dL at h;split at h
 ·simp only at h;split at h
  ·rename_i x y;split at h
   ·rename_i hb;simp only[Option.some.injEq,Prod.mk.injEq]at h;obtain⟨rfl,rfl⟩:=h;refine pH.same Tryz.call16 λc vs w hr=>?_
    obtain⟨v,u,rfl,h1,h2⟩:=Qr hr;simp only[an]at h1 h2;subst h1 h2;have hx:((x.toNat:Nat):Int)=x:=Int.toNat_of_nonneg hb.1;have hy:((y.toNat:Nat):Int)=y:=Int.toNat_of_nonneg hb.2.2.1;have:=akX x.toNat y.toNat (by omega) (by omega) w;rw[hx,hy]at this;refine this.mono ?_;rintro e w' ⟨rfl,hg⟩;exact⟨_,rfl,hg,λc'=>by simp [an,aP]⟩
   ·cases h
  ·cases h
 ·cases h
end
section
theorem bq(s t:ByteArray):(s==t)=decide (s=t):=by obtain⟨a⟩:=s;obtain⟨b⟩:=t;show(a==b)=_;rw[qq];simp
section
variable {α β : Type}
theorem cT(t e:Option α):A.cond (.bool true) t e=t:=rfl
theorem cF(t e:Option α):A.cond (.bool false) t e=e:=rfl
theorem gTT(e d:Option α):A.guard (.bool true) true e d=e:=rfl
theorem gTF(e d:Option α):A.guard (.bool true) false e d=d:=rfl
theorem gFT(e d:Option α):A.guard (.bool false) true e d=d:=rfl
theorem gFF(e d:Option α):A.guard (.bool false) false e d=e:=rfl
theorem pT(x y:AV):A.pick (.bool true) x y=some x:=rfl
theorem pF(x y:AV):A.pick (.bool false) x y=some y:=rfl
theorem zy{p:Prop}[Decidable p]{w:Bool}{e d:Option α}{f:α→Option β}:(A.guard (.bool (decide p)) w e d).bind f=if p then(A.guard (.bool true) w e d).bind f else(A.guard (.bool false) w e d).bind f:=by by_cases h:p<;>simp [h]
theorem zx{b w:Bool}{e d:Option α}{f:α→Option β}:(A.guard (.bool b) w e d).bind f=match b with|true=>(A.guard (.bool true) w e d).bind f|false=>(A.guard (.bool false) w e d).bind f:=by cases b<;>rfl
theorem zq{p:Prop}[Decidable p]{t e:Option α}:A.cond (.bool (decide p)) t e=if p then t else e:=by by_cases h:p<;>simp [h,A.cond]
theorem y9{p:Prop}[Decidable p]{t e:Option α}:A.cond (.bool (!decide p)) t e=if p then e else t:=by by_cases h:p<;>simp [h,A.cond]
theorem zo{b:Bool}{t e:Option α}:A.cond (.bool (!b)) t e=match b with|true=>e|false=>t:=by cases b<;>rfl
theorem zn{b:Bool}{t e:Option α}:A.cond (.bool b) t e=match b with|true=>t|false=>e:=by cases b<;>rfl
theorem gN(w:Bool)(e d:Option α):A.guard (.aL []) w e d=d:=rfl
theorem xN(a b:AX):(a==b)=decide (a=b):=by rw[qq];simp
end
section
variable (k : IntKind) (a b : Int) (p q : Prop) [Decidable p] [Decidable q] (s t : ByteArray) (x y : AV) (σ : Heap) (cs : aq)
theorem nv:A.add (.ah a) (.ah b)=some (.ah (IntKind.i64.wrap (a+b))):=rfl
theorem sO:A.sub (.ah a) (.ah b)=some (.ah (IntKind.i64.wrap (a-b))):=rfl
theorem Aq:A.mul (.ah a) (.ah b)=some (.ah (IntKind.i64.wrap (a*b))):=rfl
theorem aeY(h:b≠0):A.quo (.ah a) (.ah b)=some (.ah (IntKind.i64.wrap (a.tdiv b))):=by simp [A.quo,h]
theorem arK(h:b≠0):A.rem (.ah a) (.ah b)=some (.ah (a.tmod b)):=by simp [A.rem,h]
theorem mU:A.lss (.ah a) (.ah b)=some (.bool (decide (a<b))):=rfl
theorem QA:A.leq (.ah a) (.ah b)=some (.bool (decide (a≤b))):=rfl
theorem JD:A.gtr (.ah a) (.ah b)=some (.bool (decide (b<a))):=rfl
theorem vi:A.geq (.ah a) (.ah b)=some (.bool (decide (b≤a))):=rfl
theorem aeu:A.lss (.int .u8 a) (.int .u8 b)=some (.bool (decide (a<b))):=rfl
theorem aet:A.leq (.int .u8 a) (.int .u8 b)=some (.bool (decide (a≤b))):=rfl
theorem aer:A.gtr (.int .u8 a) (.int .u8 b)=some (.bool (decide (b<a))):=rfl
theorem aep:A.geq (.int .u8 a) (.int .u8 b)=some (.bool (decide (b≤a))):=rfl
theorem jU:A.eql .i (.int k a) (.int k b)=some (.bool (decide (a=b))):=by simp only[A.eql,A.fN,A.pX,if_true,cC];congr 2
theorem fW:A.neq .i (.int k a) (.int k b)=some (.bool (decide (¬a=b))):=by simp only[A.neq,A.fN,A.pX,if_true,cC];congr 2;rw[qq];simp
theorem aeV:A.eql .z (.str s) (.str t)=some (.bool (decide (s=t))):=by simp only[A.eql,A.fN,A.rV,cC,bq]
theorem VN:A.neq .z (.str s) (.str t)=some (.bool (decide (¬s=t))):=by simp only[A.neq,A.fN,A.rV,cC,bq];simp
theorem aeX(b:Bool):A.not (.bool b)=some (.bool (!b)):=rfl
theorem aev:A.not (.bool (decide p))=some (.bool (decide (¬p))):=by simp [A.not]
theorem aLb:A.lb (.lbx cs)=some cs:=rfl
theorem ael(l:aq):A.ext 0 (.aL (x::l))=some x:=rfl
theorem aem(x0 x:AV)(l:aq):A.ext 1 (.aL (x0::x::l))=some x:=rfl
theorem aen(x0 x1 x:AV)(l:aq):A.ext 2 (.aL (x0::x1::x::l))=some x:=rfl
theorem aeo(x0 x1 x2 x:AV)(l:aq):A.ext 3 (.aL (x0::x1::x2::x::l))=some x:=rfl
theorem aDe:A.deref (.rp cs) σ=some cs:=rfl
theorem aFa(o:Nat):A.aF o (.rp cs)=some (.rp (cs.drop o)):=rfl
theorem aes:A.EM (.str s)=some (.ah s.size):=rfl
theorem aCI(n:Int):A.cell (.int k n)=some (.int k n):=rfl
theorem aCB(b:Bool):A.cell (.bool b)=some (.bool b):=rfl
theorem aCS:A.cell (.str s)=some (.str s):=rfl
theorem aeU(sz:Nat)(es:List aq):A.cell (.sl sz es)=some (.sl sz es):=rfl
theorem XZ(o k:Nat):A.ak o (cs.drop k)=A.ak (k+o) cs:=by simp [A.ak,List.getElem?_drop]
end
theorem gd0(a d:AV)(l:aq):(a::l).getD 0 d=a:=rfl
theorem gd1(a b d:AV)(l:aq):(b::a::l).getD 1 d=a:=rfl
theorem gd2(a b c d:AV)(l:aq):(b::c::a::l).getD 2 d=a:=rfl
theorem gd3(a b c e d:AV)(l:aq):(b::c::e::a::l).getD 3 d=a:=rfl
theorem gd4(a b c e f d:AV)(l:aq):(b::c::e::f::a::l).getD 4 d=a:=rfl
theorem gd5(a b c e f g d:AV)(l:aq):(b::c::e::f::g::a::l).getD 5 d=a:=rfl
theorem gd6(a b c e f g h d:AV)(l:aq):(b::c::e::f::g::h::a::l).getD 6 d=a:=rfl
theorem gd7(a b c e f g h i d:AV)(l:aq):(b::c::e::f::g::h::i::a::l).getD 7 d=a:=rfl
theorem gd8(a b c e f g h i j d:AV)(l:aq):(b::c::e::f::g::h::i::j::a::l).getD 8 d=a:=rfl
theorem cR{n:Int}(h:aU n):IntKind.i64.wrap n=n:=IntWalk.i64_in n h
theorem wrap_eq{ro:Bool}{gD:List Sh}{ig:Sh}{r:aq→Heap→aH}{args:aq}{σ σ':Heap}{v v':AV}(h:args.any A.own=false)(e:r (A.dr gD args) σ=some (v,σ'))(hv:A.nn ig v=v'):A.wrap ro gD ig r args σ=some (v',σ'):=by unfold A.wrap;rw[h,Bool.and_false,bG,e];simp [hv]
theorem Tp{v:AV}(n:Nat)(h:A.xD v=true):A.fresh v=true∧A.shift n v=v:=by cases v<;>first|exact⟨h,rfl⟩|cases h
theorem aap{v:AV}(n:Nat)(h:A.GL v=true):A.CB v=true∧A.BI n v=v:=by
 have key:(∀vs,v≠.aL vs)→A.CB v=true∧A.BI n v=v:=by intro k;have:=Tp (v:=v) n;cases v<;>first|exact absurd rfl (k _)|exact this h
 by_cases ht:∃vs,v=.aL vs
 ·obtain⟨vs,rfl⟩:=ht;simp only[A.GL,wD]at h;refine⟨by simp only[A.CB,wD];exact λx hx=>(Tp n (h x hx)).1,?_⟩;simp only[A.BI];congr 1
  calc vs.map (A.shift n)=vs.map id:=List.map_congr_left λx hx=>(Tp n (h x hx)).2
   _=vs:=List.map_id vs
 ·exact key λvs e=>ht ⟨vs,e⟩
theorem acz{gD:List Sh}{ig:Sh}{r:aq→Heap→aH}{args args':aq}{σ:Heap}{v:AV}(h:args.any A.own=true)(hz:A.gm σ 0 8 args=some args')(ho:args'.any A.own=false)(e:A.wrap true gD ig r args' []=some (v,[]))(hs:A.GL v=true):A.wrap true gD ig r args σ=some (v,σ):=by unfold A.wrap at e ⊢;rw[ho,Bool.and_false,bG]at e;obtain⟨⟨q1,q2⟩,e1,e2⟩:=eG.1 e;simp only[Prod.mk.injEq]at e2;obtain⟨rfl,rfl⟩:=e2;rw[h,Bool.and_self,cq,hz];simp [e1,(aap σ.length hs).1,(aap σ.length hs).2]
theorem cg(σ:Heap)(r:AV):A.fin σ r σ=some (r,σ):=by simp [A.fin]
theorem aaR(σ:Heap)(n d:Nat){a:AV}(h:A.yW a=true):A.bM σ n d a=some a:=by
 cases a<;>simp only[A.yW]at h<;>first|(cases h;done)|skip
 case sl sz es=>cases es with
  |nil=>cases d<;>simp [A.bM,A.kZ]
  |cons _ _=>simp at h
 all_goals cases d<;>simp [A.bM]
theorem Z0(σ:Heap)(n d:Nat):∀{l:aq},l.all A.yW=true→A.gm σ n d l=some l
 |[],_=>by simp [A.gm]
 |a::l,h=>by simp only[List.all_cons,jC]at h;simp [A.gm,aaR σ n d h.1,Z0 σ n d h.2]
theorem aaS(σ:Heap)(n d:Nat){a:AV}(h:A.xD a=true):A.bM σ n d a=some a:=by
 unfold A.xD at h;split at h
 ·cases d<;>simp [A.bM,Z0 σ n _ h]
 ·exact aaR σ n d h
theorem Z1(σ:Heap)(n d:Nat):∀{l:aq},l.all A.xD=true→A.gm σ n d l=some l
 |[],_=>by simp [A.gm]
 |a::l,h=>by simp only[List.all_cons,jC]at h;simp [A.gm,aaS σ n d h.1,Z1 σ n d h.2]
theorem ank(σ:Heap)(n d:Nat){a:AV}(h:A.GL a=true):A.bM σ n d a=some a:=by
 unfold A.GL at h;split at h
 ·cases d<;>simp [A.bM,Z1 σ n _ h]
 ·exact aaS σ n d h
theorem Pf(σ bs:Heap){r:AV}(h:A.GL r=true):A.fin σ r (σ++bs)=some (r,σ):=by
 unfold A.fin;split
 ·rfl
 ·rw[aO (by simp),ank _ _ _ h];rfl
theorem UM(σ bs:Heap)(k:IntKind)(n:Int):A.fin σ (.int k n) (σ++bs)=some (.int k n,σ):=Pf σ bs rfl
theorem abP(σ bs:Heap)(b:Bool):A.fin σ (.bool b) (σ++bs)=some (.bool b,σ):=Pf σ bs rfl
theorem acL(σ bs:Heap)(s:ByteArray):A.fin σ (.str s) (σ++bs)=some (.str s,σ):=Pf σ bs rfl
theorem abQ(σ bs:Heap):A.fin σ (.aL []) (σ++bs)=some (.aL [],σ):=Pf σ bs rfl
theorem Hh(σ bs:Heap)(j:Nat):(σ++bs)[σ.length+j]? =bs[j]? :=by rw[jj (by omega)];congr 1;omega
theorem JG(σ bs:Heap):(σ++bs)[σ.length]? =bs[0]? :=by rw[jj (aQ _),Nat.sub_self]
theorem xM(σ bs:Heap)(j:Nat)(b:aS):(σ++bs).set (σ.length+j) b=σ++bs.set j b:=by rw[rR _ _ (by omega)];congr 2;omega
theorem Vz(σ bs:Heap)(b:aS):(σ++bs).set σ.length b=σ++bs.set 0 b:=by rw[rR _ _ (aQ _),Nat.sub_self]
section
variable {α : Type} (sz : Nat) (c : α → aq) (l : List α)
theorem iS:A.bY (sl sz c l)=some (.ah l.length):=by simp [sl,A.bY]
theorem nj{k:Nat}{x:α}(h:l[k]? =some x):A.bh sz (sl sz c l) (.ah (k:Int))=some (.rp (c x)):=by have hk:k<l.length:=(bQ.1 h).1;have hx:l[k]=x:=(bQ.1 h).2;simp [A.bh,sl,A.idx,hk,hx]
theorem alQ{i:Int}{x:α}(h0:0≤i)(h:l[i.toNat]? =some x):A.bh sz (sl sz c l) (.ah i)=some (.rp (c x)):=by have:=nj sz c l h;rwa[Int.toNat_of_nonneg h0]at this
end
inductive Rd (S R : Type) where
 |go(s:S)
 |out(r:R)
def Rd.el{S R γ:Type}(x:Rd S R)(f:S→γ)(g:R→γ):γ:=match x with|.go s=>f s|.out r=>g r
theorem Er{S R γ:Type}(s:S)(f:S→γ)(g:R→γ):(Rd.go s:Rd S R).el f g=f s:=rfl
theorem Ej{S R γ:Type}(r:R)(f:S→γ)(g:R→γ):(Rd.out r:Rd S R).el f g=g r:=rfl
theorem Jl{S R γ:Type}{p:Prop}[Decidable p](x y:Rd S R)(f:S→γ)(g:R→γ):(if p then x else y).el f g=if p then x.el f g else y.el f g:=by split<;>rfl
def l7{α S R:Type}(body:List α→α→S→Rd S R):List α→List α→S→Rd S R
 |_,[],s=>.go s
 |pre,x::l,s=>match body pre x s with|.go s'=>l7 body (pre++[x]) l s'|.out r=>.out r
theorem alU{f:aq→Heap→Option (AX×aq×Heap)}{v:aq}{σ:Heap}:∀{n m:Nat}{r r':AX×aq×Heap},A.iter f n v σ=some r→A.iter f m v σ=some r'→r=r':=by
 intro n;induction n generalizing v σ with
 |zero=>intro m r r' h;cases h
 |succ n ih=>
  intro m r r' h1 h2;cases m with
  |zero=>cases h2
  |succ m=>
   simp only[A.iter]at h1 h2;cases hf:f v σ with
   |none=>rw[hf]at h1;cases h1
   |some q=>
    rw[hf]at h1 h2;simp only[aY]at h1 h2;obtain⟨e,v',σ'⟩:=q;cases e with
    |normal=>exact ih h1 h2
    |exit i=>simp only at h1 h2;rw[h1]at h2;injection h2
    |ret=>simp only at h1 h2;rw[h1]at h2;injection h2
theorem Fu{f:aq→Heap→Option (AX×aq×Heap)}{v:aq}{σ:Heap}{n:Nat}{r:AX×aq×Heap}(h:A.iter f n v σ=some r):A.loop f v σ=some r:=by
 have hex:∃n r,A.iter f n v σ=some r:=⟨n,r,h⟩
 unfold A.loop;rw[dif_pos hex];exact congrArg some (alU (Classical.choose_spec (Classical.choose_spec hex)) h)
theorem FL{f:aq→Heap→Option (AX×aq×Heap)}{v v':aq}{σ σ':Heap}{r:AX×aq×Heap}(h:f v σ=some (.normal,v',σ'))(k:∃n,A.iter f n v' σ'=some r):∃n,A.iter f n v σ=some r:=by obtain⟨n,k⟩:=k;exact⟨n+1,by simp [A.iter,h,k]⟩
theorem yF{f:aq→Heap→Option (AX×aq×Heap)}{v:aq}{σ:Heap}{r:AX×aq×Heap}(h:f v σ=some r)(hr:r.1≠.normal):∃n,A.iter f n v σ=some r:=by obtain⟨e,v',σ'⟩:=r;refine⟨1,?_⟩;cases e<;>first|(simp [A.iter,h];done)|exact absurd rfl hr
theorem qC{α S R γ:Type}{f:aq→Heap→Option (AX×aq×Heap)}(l:List α)(body:List α→α→S→Rd S R)(st:List α→S→aq)(hp:List α→S→Heap)
  (fin:S→AX×aq×Heap) (out:List α→S→R→AX×aq×Heap) (P:List α→S→Prop) (s0:S) {k:AX×aq×Heap→Option γ} (K1:S→Option γ) (K2:R→Option γ)
  (hstep:∀pre x rest s,l=pre++x::rest→P pre s→f (st pre s) (hp pre s)=some ((body pre x s).el (λs'=>(.normal,st (pre++[x]) s',hp (pre++[x]) s')) (λr=>out pre s r)))
  (hend:∀s,P l s→f (st l s) (hp l s)=some (fin s)) (h0:P [] s0)
  (hP:∀pre x rest s s',l=pre++x::rest→P pre s→body pre x s=.go s'→P (pre++[x]) s')
  (hk1:∀s,P l s→k (fin s)=K1 s) (hk2:∀pre x rest s r,l=pre++x::rest→P pre s→body pre x s=.out r→k (out pre s r)=K2 r)
  (AG:∀s,(fin s).1≠.normal:=by intros;simp) (hout:∀pre s r,(out pre s r).1≠.normal:=by intros;simp) {v:aq} {σ:Heap} (hv:v=st [] s0:=by rfl) (iu:σ=hp [] s0:=by rfl):
  (A.loop f v σ).bind k=(l7 body [] l s0).el K1 K2:=by
 have key:∀(rest pre:List α)(s:S),l=pre++rest→P pre s→∃q,(∃n,A.iter f n (st pre s) (hp pre s)=some q)∧k q=(l7 body pre rest s).el K1 K2:=by
  intro rest;induction rest with
  |nil=>intro pre s hl hp';rw[List.append_nil]at hl;subst hl;exact⟨fin s,yF (hend s hp') (AG s),by rw[l7,Er,hk1 s hp']⟩
  |cons x rest ih=>
   intro pre s hl hp';have h:=hstep pre x rest s hl hp';rw[l7];cases hb:body pre x s with
   |go s'=>rw[hb]at h;obtain⟨q,h1,h2⟩:=ih (pre++[x]) s' (by simpa using hl) (hP pre x rest s s' hl hp' hb);exact⟨q,FL h h1,h2⟩
   |out r=>rw[hb]at h;exact⟨out pre s r,yF h (hout pre s r),by rw[Ej,hk2 pre x rest s r hl hp' hb]⟩
 obtain⟨q,⟨n,h1⟩,h2⟩:=key l [] s0 rfl h0;rw[hv,iu,Fu h1,aY,h2]
theorem OO{α:Type}{body:List α→α→Unit→Rd Unit Int}{yf:List α→List α→Int}(h0:∀pre,yf pre []=0)(h:∀pre x rest,yf pre (x::rest)=(body pre x ()).el (λ_=>yf (pre++[x]) rest) (λr=>r)) {γ:Type} (K:Int→γ):
  ∀(l pre:List α),(l7 body pre l ()).el (λ_=>K 0) K=K (yf pre l)
 |[],pre=>by rw[l7,h0];rfl
 |x::l,pre=>by
  rw[l7,h];cases body pre x ()with
  |go s=>exact OO h0 h K l (pre++[x])
  |out r=>rfl
theorem qE{α:Type}{l pre rest:List α}{x:α}(h:l=pre++x::rest):l[pre.length]? =some x:=by rw[h];simp
theorem uf{α:Type}{l pre rest:List α}{x:α}(h:l=pre++x::rest):pre.length<l.length:=by rw[h];simp
theorem ace{α:Type}{l pre rest:List α}{x:α}(h:l=pre++x::rest)(h0:0<pre.length):∃y,pre.getLast? =some y∧l[pre.length-1]? =some y:=by
 cases hp:pre.getLast? with
 |none=>rw[List.getLast?_eq_none_iff]at hp;subst hp;simp at h0
 |some y=>refine⟨y,rfl,?_⟩;rw[h,jk (by omega),←hp,List.getLast?_eq_getElem?]
theorem abz{γ:Type}{p:UInt8→Bool}{f:aq→Heap→Option (AX×aq×Heap)}(s:ByteArray){σ:Heap}{k:AX×aq×Heap→Option γ}(K2:Option γ)
  (hstep:∀(i:Nat)(c:UInt8),i<s.size→A.wL (.str s) (.ah (i:Int))=some (.int .u8 c.toNat)→f [.bool false,.ah (i:Int)] σ=if p c=true then some (.normal,[.bool false,.ah ((i:Int)+1)],σ)else some (.ret,[.bool false,.ah (i:Int)],σ))
  (hend:f [.bool false,.ah (s.size:Int)] σ=some (.exit 0,[.bool false,.ah (s.size:Int)],σ)) (hk2:∀i:Int,k (.ret,[.bool false,.ah i],σ)=K2):
  (A.loop f [.bool false,.ah 0] σ).bind k=if s.data.toList.all p=true then k (.exit 0,[.bool false,.ah (s.size:Int)],σ)else K2:=by
 have hsz:s.data.toList.length=s.size:=rfl
 refine(qC (S:=Unit) (R:=Unit) s.data.toList (λ_ c _=>if p c=true then .go ()else .out ()) (λpre _=>[.bool false,.ah (pre.length:Int)]) (λ_ _=>σ) (λ_=>(.exit 0,[.bool false,.ah (s.size:Int)],σ)) (λpre _ _=>(.ret,[.bool false,.ah (pre.length:Int)],σ)) (λ_ _=>True) ()
  (λ_=>k (.exit 0,[.bool false,.ah (s.size:Int)],σ)) (λ_=>K2) ?_ ?_ trivial (λ_ _ _ _ _ _ _ _=>trivial) (λ_ _=>rfl) (λ_ _ _ _ _ _ _ _=>hk2 _)).trans ?_
 ·intro pre c rest u hl _;have hlt:=uf hl;have hc:=qE hl;rw[hsz]at hlt
  have hsi:A.wL (.str s) (.ah (pre.length:Int))=some (.int .u8 c.toNat):=by have h2:s[pre.length]=c:=(bQ.1 hc).2;simp [A.wL,A.idx,hlt,h2]
  rw[hstep pre.length c hlt hsi];cases p c<;>simp [Rd.el]
 ·intro u _;rw[hsz];exact hend
 ·have key:∀(l pre:List UInt8),(l7 (λ(_:List UInt8)c(_:Unit)=>if p c=true then(Rd.go ():Rd Unit Unit)else .out ()) pre l ()).el (λ_=>k (.exit 0,[.bool false,.ah (s.size:Int)],σ)) (λ_=>K2)=if l.all p=true then k (.exit 0,[.bool false,.ah (s.size:Int)],σ)else K2:=by
   intro l;induction l with
   |nil=>intro pre;simp [l7,Rd.el]
   |cons c l ih=>
    intro pre;rw[l7];cases hc:p c
    ·simp [hc,Rd.el]
    ·simp only[if_true];rw[ih];simp [hc]
  exact key s.data.toList []
section
variable {α : Type} (g : α → ByteArray) (gi : α → Int) (v : α → AV)
theorem adE(k:ByteArray):∀(l:List α),A.find .z (.str k) (l.map λx=>(AV.str (g x),v x))=some ((l.find? λx=>decide (k=g x)).map v)
 |[]=>rfl
 |x::l=>by
  simp only[eY,A.find,A.fN,A.rV,aY,List.find?];by_cases h:k=g x
  ·rw[bq];simp [h]
  ·rw[bq];simp [h,adE k l]
theorem adD(kk:IntKind)(k:Int):∀(l:List α),A.find .i (.int kk k) (l.map λx=>(AV.int kk (gi x),v x))=some ((l.find? λx=>decide (k=gi x)).map v)
 |[]=>rfl
 |x::l=>by
  simp only[eY,A.find,A.fN,A.pX,if_true,aY,List.find?];by_cases h:k=gi x
  ·have:(k==gi x)=true:=by simpa using h
   simp [this,h]
  ·have:(k==gi x)=false:=by simpa using h
   simp [this,h,adD kk k l]
theorem VG{k:ByteArray}{w:AV}:∀{l:List α},(∀x∈l,g x≠k)→A.upd .z (.str k) w (l.map λx=>(AV.str (g x),v x))=some ((l.map λx=>(AV.str (g x),v x))++[(.str k,w)])
 |[],_=>rfl
 |x::l,h=>by
  have h1:(k==g x)=false:=by rw[bq];exact bZ λe:k=g x=>h x (by simp) e.symm
  simp only[eY,A.upd,A.fN,A.rV,aY,h1,bG];rw[VG (λy hy=>h y (by simp [hy]))];rfl
theorem VF{kk:IntKind}{k:Int}{w:AV}:∀{l:List α},(∀x∈l,gi x≠k)→A.upd .i (.int kk k) w (l.map λx=>(AV.int kk (gi x),v x))=some ((l.map λx=>(AV.int kk (gi x),v x))++[(.int kk k,w)])
 |[],_=>rfl
 |x::l,h=>by
  have h1:(k==gi x)=false:=by simpa using λe:k=gi x=>h x (by simp) e.symm
  simp only[eY,A.upd,A.fN,A.pX,if_true,aY,h1,bG];rw[VF (λy hy=>h y (by simp [hy]))];rfl
end
theorem Ec(e:A.EK){k z:AV}{σ:Heap}{id:Nat}{es:List (AV×AV)}(hk:A.lG e k=true)(h:σ[id]? =some (.map es)):A.look e (.om id) k z σ=(A.find e k es).map λr=>r.getD z:=by simp [A.look,hk,A.entries,h]
theorem Cv(e:A.EK){k w:AV}{σ:Heap}{id:Nat}{es:List (AV×AV)}(hk:A.lG e k=true)(h:σ[id]? =some (.map es)):A.fS e (.om id) k w σ=(A.upd e k w es).map λes=>σ.set id (.map es):=by simp [A.fS,hk,h]
theorem abZ{α:Type}(l:List α)(x:α):(((l++[x]).length:Nat):Int)=(l.length:Int)+1:=by simp
theorem OH{α:Type}(sz:Nat)(c:α→aq)(l:List α){k:Nat}{x:α}(h0:0<k)(h:l[k-1]? =some x):A.bh sz (sl sz c l) (.ah ((k:Int) -1))=some (.rp (c x)):=by have:=nj sz c l h;rwa[show((k-1:Nat):Int)=(k:Int) -1 by omega]at this
def oP{α:Type}(g:α→ByteArray)(l:List α):List (AV×AV):=l.map λx=>(AV.str (g x),AV.bool true)
def uz{α:Type}(g:α→Int)(l:List α):List (AV×AV):=l.map λx=>(AV.ah (g x),AV.bool true)
theorem Uj{α:Type}(p:α→Bool):∀(l:List α),((l.find? p).map λ_=>AV.bool true).getD aR=AV.bool (l.any p)
 |[]=>rfl
 |x::l=>by
  simp only[List.find?,List.any_cons];cases h:p x
  ·simpa using Uj p l
  ·rfl
theorem abm{α:Type}(g:α→ByteArray)(k:ByteArray)(l:List α):(A.find .z (.str k) (oP g l)).map (λr=>r.getD (.bool false))=some (.bool (jS k (l.map g))):=by unfold oP;rw[adE g (λ_=>AV.bool true) k l,cC,Uj];refine congrArg some (congrArg AV.bool ?_);rw[qq,I4];simp only[List.any_eq_true,decide_eq_true_eq,ia];exact⟨λ⟨x,h,e⟩=>⟨x,h,e.symm⟩,λ⟨x,h,e⟩=>⟨x,h,e.symm⟩⟩
theorem abi{α:Type}(g:α→Int)(k:Int)(l:List α):(A.find .i (.ah k) (uz g l)).map (λr=>r.getD (.bool false))=some (.bool (jS k (l.map g))):=by unfold uz;rw[adD g (λ_=>AV.bool true) .i64 k l,cC,Uj];refine congrArg some (congrArg AV.bool ?_);rw[qq,I4];simp only[List.any_eq_true,decide_eq_true_eq,ia];exact⟨λ⟨x,h,e⟩=>⟨x,h,e.symm⟩,λ⟨x,h,e⟩=>⟨x,h,e.symm⟩⟩
section
variable {α : Type} (g : α → ByteArray) (gi : α → Int) (l : List α) (k : ByteArray) (n : Int) (σ bs : Heap) (b0 : aS)
theorem aat:A.look .z (.om σ.length) (.str k) (.bool false) (σ++aS.map (oP g l)::bs)=some (.bool (jS k (l.map g))):=by rw[Ec .z rfl (by rw[JG];rfl),abm]
theorem aaq:A.look .i (.om σ.length) (.ah n) (.bool false) (σ++aS.map (uz gi l)::bs)=some (.bool (jS n (l.map gi))):=by rw[Ec .i rfl (by rw[JG];rfl),abi]
theorem aau:A.look .z (.om (σ.length+1)) (.str k) (.bool false) (σ++b0::aS.map (oP g l)::bs)=some (.bool (jS k (l.map g))):=by rw[Ec .z rfl (by rw[Hh];rfl),abm]
theorem aar:A.look .i (.om (σ.length+1)) (.ah n) (.bool false) (σ++b0::aS.map (uz gi l)::bs)=some (.bool (jS n (l.map gi))):=by rw[Ec .i rfl (by rw[Hh];rfl),abi]
theorem abo(h:jS k (l.map g)=false):A.fS .z (.om σ.length) (.str k) (.bool true) (σ++aS.map (oP g l)::bs)=some (σ++aS.map (oP g l++[(.str k,.bool true)])::bs):=by rw[Cv .z rfl (by rw[JG];rfl),oP,VG g _ (λx hx e=>IP.1 h (by rw[←e];exact List.mem_map_of_mem hx)),cC,Vz];rfl
theorem abk(h:jS n (l.map gi)=false):A.fS .i (.om σ.length) (.ah n) (.bool true) (σ++aS.map (uz gi l)::bs)=some (σ++aS.map (uz gi l++[(.ah n,.bool true)])::bs):=by rw[Cv .i rfl (by rw[JG];rfl),uz,VF gi _ (λx hx e=>IP.1 h (by rw[←e];exact List.mem_map_of_mem hx)),cC,Vz];rfl
theorem abp(h:jS k (l.map g)=false):A.fS .z (.om (σ.length+1)) (.str k) (.bool true) (σ++b0::aS.map (oP g l)::bs)=some (σ++b0::aS.map (oP g l++[(.str k,.bool true)])::bs):=by rw[Cv .z rfl (by rw[Hh];rfl),oP,VG g _ (λx hx e=>IP.1 h (by rw[←e];exact List.mem_map_of_mem hx)),cC,xM];rfl
theorem abl(h:jS n (l.map gi)=false):A.fS .i (.om (σ.length+1)) (.ah n) (.bool true) (σ++b0::aS.map (uz gi l)::bs)=some (σ++b0::aS.map (uz gi l++[(.ah n,.bool true)])::bs):=by rw[Cv .i rfl (by rw[Hh];rfl),uz,VF gi _ (λx hx e=>IP.1 h (by rw[←e];exact List.mem_map_of_mem hx)),cC,xM];rfl
end
theorem abn{α:Type}(g:α→ByteArray)(l:List α)(x:α):oP g (l++[x])=oP g l++[(.str (g x),.bool true)]:=by simp [oP]
theorem TH(σ:Heap)(v:AV):A.quiet (some (v,σ)) σ=some v:=by simp [A.quiet]
def Fz(a:AV):Prop:=∀σ n d,A.bM σ n d a=some a
def lC(l:aq):Prop:=∀σ n d,A.gm σ n d l=some l
theorem fA(k:IntKind)(n:Int):Fz (.int k n):=λ_ _ d=>by cases d<;>simp [A.bM]
theorem Ea(b:Bool):Fz (.bool b):=λ_ _ d=>by cases d<;>simp [A.bM]
theorem BE(s:ByteArray):Fz (.str s):=λ_ _ d=>by cases d<;>simp [A.bM]
theorem Ab{l:aq}(h:lC l):Fz (.agg l):=λσ n d=>by cases d<;>simp [A.bM,h σ n]
theorem sv:lC []:=λ_ _ _=>by simp [A.gm]
theorem dm{a:AV}{l:aq}(h:Fz a)(k:lC l):lC (a::l):=λσ n d=>by simp [A.gm,h σ n d,k σ n d]
theorem sF{α:Type}{sz:Nat}{c:α→aq}(h:∀x,lC (c x))(l:List α):Fz (sl sz c l):=by
 intro σ n d
 have:A.kZ σ n d (l.map c)=some (l.map c):=by
  induction l with
  |nil=>simp [A.kZ]
  |cons x l ih=>simp [A.kZ,h x σ n d,ih]
 cases d<;>simp [sl,A.bM,this]
theorem V5{α:Type}{c:α→aq}(h:∀x,lC (c x))(l:List α)(σ:Heap)(n d:Nat):A.kZ σ n d (l.map c)=some (l.map c):=by
 induction l with
 |nil=>simp [A.kZ]
 |cons x l ih=>simp [A.kZ,h x σ n d,ih]
def ze{α:Type}(id sz:Nat)(l:List α):AV:=if l=[]then .az else .os id l.length sz 0 l.length
def vu{α:Type}(sz:Nat)(c:α→aq)(l:List α):Heap:=if l=[]then[]else[.arr l.length sz (l.map c)]
theorem anH{α:Type}(sz:Nat)(c:α→aq):vu sz c []=[]:=rfl
theorem akq{α:Type}{sz most:Nat}(c:α→aq)(l:List α)(x:α)(σ:Heap)(h:l.length+1≤most):A.append sz most (ze σ.length sz l) (.sl sz [c x]) (σ++vu sz c l)=some (ze σ.length sz (l++[x]),σ++vu sz c (l++[x])):=by
 unfold ze vu;cases l with
 |nil=>
  have h1:1≤most:=by simpa using h
  simp [A.append,A.wj,A.elems,h1]
 |cons y l=>
  have h1:l.length+1+1≤most:=by simpa using h
  simp [A.append,A.wj,A.elems,h1,JG,Vz,jD,rS]
theorem aps{α:Type}{sz:Nat}{c:α→aq}(hc:∀x,lC (c x))(l:List α)(σ:Heap)(d:Nat):A.bM (σ++vu sz c l) σ.length (d+1) (ze σ.length sz l)=some (if l=[]then .az else sl sz c l):=by
 unfold ze vu;split
 ·simp [A.bM]
 ·rename_i hl;simp only[A.bM,Nat.lt_irrefl,if_false,JG,List.getElem?_cons_zero];rw[aO (by simp)];have e:(List.take l.length (List.drop 0 (l.map c)))=l.map c:=by simp [rS]
  rw[e,IZ,V5 hc];rfl
theorem ana{α:Type}{sz:Nat}{c:α→aq}(hc:∀x,lC (c x))(l:List α)(k:IntKind)(n:Int)(σ:Heap):A.fin σ (.aL [ze σ.length sz l,.int k n]) (σ++vu sz c l)=some (.aL [if l=[]then .az else sl sz c l,.int k n],σ):=by
 unfold A.fin;split
 ·rename_i h;have:vu sz c l=[]:=by simpa using h
  have hl:l=[]:=by
   unfold vu at this;split at this
   ·assumption
   ·cases this
  subst hl;rfl
 ·rw[aO (by simp)]
  have:A.bM (σ++vu sz c l) σ.length 8 (.aL [ze σ.length sz l,.int k n])=some (.aL [if l=[]then .az else sl sz c l,.int k n]):=by simp only[A.bM,A.gm,aps hc,fA k n _ _ _,aY,cC]
  rw[this];rfl
theorem aqt{α:Type}(sz:Nat)(c:α→aq)(l:List α):A.nn (.s sz) (if l=[]then .az else sl sz c l)=sl sz c l:=by
 split
 ·rename_i h;subst h;rfl
 ·rfl
def lH{α:Type}(p:α→Bool)(l:List α):Int:=match l.findIdx? p with|some i=>i|none=>-1
theorem Bs{α:Type}(p:α→Bool)(l:List α):(lH p l=-1∧(∀x∈l,p x=false)∧l.find? p=none)∨∃(k:Nat)(x:α),l[k]? =some x∧p x=true∧lH p l=k∧l.find? p=some x∧∀(j:Nat)(y:α),j<k→l[j]? =some y→p y=false:=by
 induction l with
 |nil=>left;exact⟨rfl,by simp,rfl⟩
 |cons x l ih=>
  cases h:p x
  ·rcases ih with⟨h1,h2,h3⟩|⟨k,y,h1,h2,h3,h4,h5⟩
   ·left;refine⟨?_,?_,?_⟩
    ·unfold lH at h1 ⊢;rw[List.findIdx?_cons,h];cases hf:l.findIdx? p with
     |none=>simp
     |some i=>rw[hf]at h1;simp at h1
    ·intro y hy;rcases jt.1 hy with rfl|hy
     ·exact h
     ·exact h2 y hy
    ·simp [List.find?,h,h3]
   ·right;refine⟨k+1,y,by simpa using h1,h2,?_,by simp [List.find?,h,h4],?_⟩
    ·unfold lH at h3 ⊢;rw[List.findIdx?_cons,h];cases hf:l.findIdx? p with
     |none=>rw[hf]at h3;simp at h3
     |some i=>rw[hf]at h3;simp at h3 ⊢;omega
    ·intro j z hj hz;cases j with
     |zero=>simp at hz;subst hz;exact h
     |succ j=>exact h5 j z (by omega) (by simpa using hz)
  ·right;refine⟨0,x,rfl,h,?_,by simp [List.find?,h],by intro j y hj;omega⟩;unfold lH;rw[List.findIdx?_cons,h];rfl
theorem D5{α:Type}{γ:Type}(p:α→Bool)(K1:Option γ)(K2:Int→Option γ):∀(l pre:List α),(∀x∈pre,p x=false)→(l7 (λpre x(_:Unit)=>if p x=true then(Rd.out (pre.length:Int):Rd Unit Int)else .go ()) pre l ()).el (λ_=>K1) K2=if lH p (pre++l)=-1 then K1 else K2 (lH p (pre++l))
 |[],pre,h=>by
  have:lH p (pre++[])=-1:=by
   rcases Bs p (pre++[])with h1|⟨k,x,h1,h2,_⟩
   ·exact h1.1
   ·have:=h x (by have:=dA h1;simpa using this);rw[h2]at this;cases this
  rw[l7,Er,aO this]
 |x::l,pre,h=>by
  rw[l7];cases hx:p x
  ·simp only[Bool.false_eq_true,if_false]
   have:=D5 p K1 K2 l (pre++[x]) (λy hy=>by
    rcases jP.1 hy with hy|hy
    ·exact h y hy
    ·simp at hy;subst hy;exact hx)
   simpa using this
  ·simp only[if_true,Ej]
   have:lH p (pre++x::l)=pre.length:=by
    rcases Bs p (pre++x::l)with h1|⟨k,y,h1,h2,h3,_,h5⟩
    ·have:=h1.2.1 x (by simp);rw[hx]at this;cases this
    ·rw[h3];rcases Nat.lt_trichotomy k pre.length with hk|hk|hk
     ·rw[jk hk]at h1;have:=h y (dA h1);rw[h2]at this;cases this
     ·omega
     ·have:=h5 pre.length x hk (by simp);rw[hx]at this;cases this
   rw[this,aK (by omega)]
theorem aco{α R γ:Type}(p:α→Bool)(r:R)(K1:Unit→γ)(K2:R→γ):∀(l pre:List α),(l7 (λ_ x(_:Unit)=>if p x=true then(Rd.out r:Rd Unit R)else .go ()) pre l ()).el K1 K2=if l.any p=true then K2 r else K1 ()
 |[],pre=>by simp [l7,Rd.el]
 |x::l,pre=>by
  rw[l7];cases h:p x
  ·simp only[Bool.false_eq_true,if_false];rw[aco p r K1 K2 l (pre++[x])];simp [h]
  ·simp [h,Rd.el]
theorem ajI{α:Type}(sz:Nat)(c:α→aq)(l:List α){k:Nat}(h:k≤l.length){σ:Heap}:A.Gb sz (sl sz c l) none (some (.ah (k:Int))) σ=some (sl sz c (l.take k)):=by simp [A.Gb,sl,A.bound,h,List.map_take]
theorem abj(l:List Int)(n:Int):uz id l++[(.ah n,.bool true)]=uz id (l++[n]):=by simp [uz]
theorem al2{κ:Type}[DecidableEq κ](k x:κ)(S:List κ):jS k (S++[x])=(jS k S||decide (x=k)):=by simp [jS]
theorem xO{α:Type}{sz:Nat}{c:α→aq}{sh:List Sh}(h:∀x,A.dr sh (c x)=c x)(l:List α):A.nn (.e sz sh) (sl sz c l)=sl sz c l:=by simp only[sl,A.nn,List.map_map];congr 1;exact List.map_congr_left λx _=>h x
theorem apm(sz:Nat)(sh:List Sh):A.nn (.e sz sh) .az=.sl sz []:=by simp [A.nn]
theorem ab3{α γ:Type}{f:aq→Heap→Option (AX×aq×Heap)}(l:List α)(p:α→Bool)(vs:Nat→aq)(σ:Heap)(fin:AX×aq×Heap)(ret:Nat→AX×aq×Heap){k:AX×aq×Heap→Option γ}(K1 K2:Option γ)
  (hstep:∀(i:Nat)(x:α),l[i]? =some x→f (vs i) σ=if p x=true then some (ret i)else some (.normal,vs (i+1),σ)) (hend:f (vs l.length) σ=some fin) (hk1:k fin=K1) (hk2:∀i,k (ret i)=K2)
  (AG:fin.1≠.normal:=by simp) (GF:∀i,(ret i).1≠.normal:=by intros;simp) {v:aq} {σ':Heap} (hv:v=vs 0:=by rfl) (iu:σ'=σ:=by rfl):
  (A.loop f v σ').bind k=if l.any p=true then K2 else K1:=by
 subst hv iu
 refine(qC (S:=Unit) (R:=Unit) l (λ_ x _=>if p x=true then .out ()else .go ()) (λpre _=>vs pre.length) (λ_ _=>σ') (λ_=>fin) (λpre _ _=>ret pre.length) (λ_ _=>True) () (λ_=>K1) (λ_=>K2)
  ?_ (λ_ _=>hend) trivial (λ_ _ _ _ _ _ _ _=>trivial) (λ_ _=>hk1) (λ_ _ _ _ _ _ _ _=>hk2 _) (λ_=>AG) (λ_ _ _=>GF _)).trans (aco p () _ _ l [])
 intro pre x rest u hl _;rw[hstep pre.length x (qE hl)];cases p x<;>simp [Rd.el]
theorem Pj{α:Type}(sz:Nat)(c:α→aq){l:List α}{k:Nat}{x:α}(h:l[k]? =some x):A.bh sz (sl sz c l) (.ah (k:Int))=some (.rp (c x))∧(k:Int)<(l.length:Int)∧(l.length≤bu→IntKind.i64.wrap ((k:Int)+1)=(k:Int)+1):=
 ⟨nj sz c l h,by have:=(bQ.1 h).1;omega,λhl=>cR (by have:=(bQ.1 h).1;unfold aU;unfold bu at hl;omega)⟩
theorem aaZ{α γ:Type}{f:aq→Heap→Option (AX×aq×Heap)}(l:List α)(p:α→Bool)(vs:Nat→aq)(σ:Heap)(fin:AX×aq×Heap)(ret:Nat→α→AX×aq×Heap){k:AX×aq×Heap→Option γ}(K1:Option γ)(K2:α→Option γ)
  (hstep:∀(i:Nat)(x:α),l[i]? =some x→f (vs i) σ=if p x=true then some (ret i x)else some (.normal,vs (i+1),σ)) (hend:f (vs l.length) σ=some fin) (hk1:k fin=K1) (hk2:∀i x,k (ret i x)=K2 x)
  (AG:fin.1≠.normal:=by simp) (GF:∀i x,(ret i x).1≠.normal:=by intros;simp) {v:aq} {σ':Heap} (hv:v=vs 0:=by rfl) (iu:σ'=σ:=by rfl):
  (A.loop f v σ').bind k=(l.find? p).elim K1 K2:=by
 subst hv iu
 have run:∀(l pre:List α),(l7 (λ_ x(_:Unit)=>if p x=true then(Rd.out x:Rd Unit α)else .go ()) pre l ()).el (λ_=>K1) K2=(l.find? p).elim K1 K2:=by
  intro l;induction l with
  |nil=>intro pre;rfl
  |cons x l ih=>
   intro pre;rw[l7];cases h:p x
   ·simp only[Bool.false_eq_true,if_false];rw[ih,List.find?_cons,h]
   ·simp [h,Rd.el]
 refine(qC (S:=Unit) (R:=α) l (λ_ x _=>if p x=true then .out x else .go ()) (λpre _=>vs pre.length) (λ_ _=>σ') (λ_=>fin) (λpre _ x=>ret pre.length x) (λ_ _=>True) () (λ_=>K1) K2
  ?_ (λ_ _=>hend) trivial (λ_ _ _ _ _ _ _ _=>trivial) (λ_ _=>hk1) (λ_ _ _ _ _ _ _ _=>hk2 _ _) (λ_=>AG) (λ_ _ _=>GF _ _)).trans (run l [])
 intro pre x rest u hl _;rw[hstep pre.length x (qE hl)];cases p x<;>simp [Rd.el]
theorem anz{α γ:Type}{f:aq→Heap→Option (AX×aq×Heap)}(l:List α)(p:α→Bool)(vs:Nat→aq)(σ:Heap)(fin:AX×aq×Heap)(ret:Nat→AX×aq×Heap){k:AX×aq×Heap→Option γ}(K1:Option γ)(K2:Int→Option γ)
  (hstep:∀(i:Nat)(x:α),l[i]? =some x→f (vs i) σ=if p x=true then some (ret i)else some (.normal,vs (i+1),σ)) (hend:f (vs l.length) σ=some fin) (hk1:k fin=K1) (hk2:∀i:Nat,k (ret i)=K2 i)
  (AG:fin.1≠.normal:=by simp) (GF:∀i,(ret i).1≠.normal:=by intros;simp) {v:aq} {σ':Heap} (hv:v=vs 0:=by rfl) (iu:σ'=σ:=by rfl):
  (A.loop f v σ').bind k=if lH p l=-1 then K1 else K2 (lH p l):=by
 subst hv iu
 refine(qC (S:=Unit) (R:=Int) l (λpre x _=>if p x=true then .out (pre.length:Int)else .go ()) (λpre _=>vs pre.length) (λ_ _=>σ') (λ_=>fin) (λpre _ _=>ret pre.length) (λ_ _=>True) () (λ_=>K1) K2
  ?_ (λ_ _=>hend) trivial (λ_ _ _ _ _ _ _ _=>trivial) (λ_ _=>hk1) ?_ (λ_=>AG) (λ_ _ _=>GF _)).trans ?_
 ·intro pre x rest u hl _;rw[hstep pre.length x (qE hl)];cases p x<;>simp [Rd.el]
 ·intro pre x rest s r hl _ hb;rw[hk2];cases h:p x
  ·rw[h]at hb;cases hb
  ·rw[h]at hb;simp at hb;rw[hb]
 ·have:=D5 p K1 K2 l [] (by simp);simpa using this
theorem D4{α:Type}(n:Int)(B:AV→Option α)(s:Option α):((A.lss (.ah n) (.ah n)).bind λx=>A.cond x (B x) s)=s:=by simp only[mU,Int.lt_irrefl,aY,decide_false,cF]
section
variable {α β : Type}
theorem alz{c c':AV}(h:c=c')(t e:Option α):A.cond c t e=A.cond c' t e:=by rw[h]
theorem akf{c c':AV}(h:c=c')(w:Bool)(e d:Option α):A.guard c w e d=A.guard c' w e d:=by rw[h]
theorem alp{x y:Option α}(h:x=y)(f:α→Option β):x.bind f=y.bind f:=by rw[h]
attribute [congr] alz akf alp
end
theorem aT:type_of% @aY.{0,0}∧type_of% @cC.{0,0}∧type_of% @cT∧type_of% @cF∧type_of% @gTT∧type_of% @gTF∧type_of% @gFT∧type_of% @gFF∧type_of% @gN∧type_of% @pT∧type_of% @pF∧type_of% @cq.{1}∧type_of% @bG.{1}∧type_of% @xN∧type_of% @nv∧type_of% @sO∧type_of% @Aq∧type_of% @mU∧type_of% @QA∧type_of% @JD∧type_of% @vi∧type_of% @aeu∧type_of% @aet∧type_of% @aer∧type_of% @aep∧type_of% @jU∧type_of% @fW∧type_of% @aeV∧type_of% @VN∧type_of% @aeX∧type_of% @aev∧type_of% @aLb∧type_of% @ael∧type_of% @aem∧type_of% @aen∧type_of% @aeo∧type_of% @aDe∧type_of% @aFa∧type_of% @aes∧type_of% @aCI∧type_of% @aCB∧type_of% @aCS∧type_of% @aeU∧type_of% @XZ∧type_of% @gd0∧type_of% @gd1∧type_of% @gd2∧type_of% @gd3∧type_of% @gd4∧type_of% @gd5∧type_of% @gd6∧type_of% @gd7∧type_of% @gd8∧type_of% @cg∧type_of% @UM∧type_of% @abP∧type_of% @acL∧type_of% @abQ∧type_of% @iS∧type_of% @ite_true.{1}∧type_of% @ite_false.{1}∧type_of% @if_true.{1}∧type_of% @if_false.{1}∧type_of% @Bool.false_eq_true∧type_of% @not_true_eq_false∧type_of% @not_false_eq_true∧type_of% @decide_true∧type_of% @decide_false∧type_of% @Bool.not_true∧type_of% @Bool.not_false∧type_of% @mm.{0}∧type_of% @nO.{0}∧type_of% @List.nil_append.{0}∧type_of% @List.drop_zero.{0}∧type_of% @ac5∧type_of% @ac6∧type_of% @abZ∧type_of% @Int.natCast_add∧type_of% @Int.cast_ofNat_Int∧type_of% @TH∧type_of% @Er∧type_of% @Ej∧type_of% @Jl∧type_of% @aat∧type_of% @aaq∧type_of% @aau∧type_of% @aar∧type_of% @abn∧type_of% @abo∧type_of% @abk∧type_of% @abp∧type_of% @abl∧type_of% @true_and∧type_of% @and_true∧type_of% @false_and∧type_of% @and_false∧type_of% @true_or∧type_of% @or_true∧type_of% @false_or∧type_of% @or_false∧type_of% @Option.getD_some.{0}∧type_of% @Option.getD_none.{0}∧type_of% @List.length_append.{0}∧type_of% @List.length_cons.{0}∧type_of% @List.length_nil.{0}∧type_of% @Nat.zero_add∧type_of% @Nat.add_zero:=
 ⟨@aY.{0,0},@cC.{0,0},@cT,@cF,@gTT,@gTF,@gFT,@gFF,@gN,@pT,@pF,@cq.{1},@bG.{1},@xN,@nv,@sO,@Aq,@mU,@QA,@JD,@vi,@aeu,@aet,@aer,@aep,@jU,@fW,@aeV,@VN,@aeX,@aev,@aLb,@ael,@aem,@aen,@aeo,@aDe,@aFa,@aes,@aCI,@aCB,@aCS,@aeU,@XZ,@gd0,@gd1,@gd2,@gd3,@gd4,@gd5,@gd6,@gd7,@gd8,@cg,@UM,@abP,@acL,@abQ,@iS,@ite_true.{1},@ite_false.{1},@if_true.{1},@if_false.{1},@Bool.false_eq_true,@not_true_eq_false,@not_false_eq_true,@decide_true,@decide_false,@Bool.not_true,@Bool.not_false,@mm.{0},@nO.{0},@List.nil_append.{0},@List.drop_zero.{0},@ac5,@ac6,@abZ,@Int.natCast_add,@Int.cast_ofNat_Int,@TH,@Er,@Ej,@Jl,@aat,@aaq,@aau,@aar,@abn,@abo,@abk,@abp,@abl,@true_and,@and_true,@false_and,@and_false,@true_or,@or_true,@false_or,@or_false,@Option.getD_some.{0},@Option.getD_none.{0},@List.length_append.{0},@List.length_cons.{0},@List.length_nil.{0},@Nat.zero_add,@Nat.add_zero⟩
end
end Go.Proofs.YtooknfkholjpbaaGreat
