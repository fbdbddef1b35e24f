/- Parts of the proof of PlayAskingDoesNotMatter, in order. -/
import Derived.Orders
import Derived.Below
import Derived.WalkKit
import Derived.Laws.StructEq
import Derived.Laws.Append
import Derived.Laws.AppendOwn
import Derived.Test.YtooknfkholjpbaaGreatRows
import Derived.KernelRfl
import Derived.Lib.Bytealg
import Derived.Sort.Defs
import Derived.Lib.BitFns
import Derived.Test.YtooknfkholjpbaaGreatShelf
import Derived.RangeFuncGives
import Derived.RangeFuncBound
import Derived.RangeFuncIn
import Derived.RangeFuncLeaves
import Derived.RangeFuncRecord
import Derived.Sort.MapsRangeIn
import Derived.TacticsInMore
import Derived.OwnWalkIn
import Derived.RegionIn
import Derived.LoopNIn
import Derived.LoopIn
import Derived.Shelf.AbstractIn
import Derived.BigFrameIn
import Derived.Lib.Overlaps
import Derived.IntWalk
import Derived.Sort.Statements
import Derived.Shelf.SlSortCmp.WholeK
import Derived.Shelf.SlSortCmp.NoneTotal
import Derived.Sort.AssemblyPlain
import Derived.Lib.Strings
import Derived.Test.YtooknfkholjpbaaGreatKPlayAskingDoesNotMatter2
namespace Go.Proofs.YtooknfkholjpbaaGreat
set_option linter.unusedVariables false
set_option linter.unusedSimpArgs false
set_option linter.unusedSectionVars false
section
set_option maxRecDepth 100000
noncomputable def QZ (a0 a1:AV) (σ:Heap):aH:=(A.cells 2 a0).bind λc1=>(A.ak 0 c1).bind λx2=>((A.deref a1 σ).bind λc3=>A.ak 0 c3).bind λx4=>(A.eql .i x2 x4).bind λx5=>A.fin σ x5 σ
noncomputable def Jx:au→Heap→aH:=A.wrap true [(.a [.k,(.s 11)])] .k (A.dI QZ)
noncomputable def Ns (a0 a1:AV) (σ:Heap):aH:=(A.cells 5 a0).bind λc1=>(((A.cell a1).bind λv=>some [v]).bind λcs=>some (AV.rp cs)).bind λx2=>(A.ak 3 c1).bind λx3=>(MC (A.tab (λ_ _=>none) [(127,Jx)]) [x3,(AV.fn 127 [x2])] σ).bind λr4=>(A.lss r4.1 (AV.ah 0)).bind λx5=>A.cond x5 ((A.cells 2 (AV.agg [(AV.ah 0),AV.az])).bind λc6=>(A.aq 0 c6 [(AV.ah 0),AV.az]).bind λc7=>(A.aB 0 2 c7).bind λx8=>A.fin σ (AV.aM [x8,aO]) r4.2) ((A.ak 3 c1).bind λx9=>(A.aY 2 x9 r4.1).bind λbX=>((A.deref bX r4.2).bind λiq=>A.aB 0 2 iq).bind λdS=>(A.cells 2 dS).bind λkn=>(A.aq 0 kn [(AV.ah 0),AV.az]).bind λlz=>(A.aB 0 2 lz).bind λdK=>A.fin σ (AV.aM [dK,dR]) r4.2)
noncomputable def DC:au→Heap→aH:=A.wrap true [Bw] (.t [(.a [.k,ve]),.k]) (A.dI Ns)
noncomputable def QI (a0:AV) (σ:Heap):aH:=(A.cells 5 a0).bind λc1=>(A.aB 0 2 c1).bind λx2=>(A.ak 2 c1).bind λx3=>(A.quiet (MK [x2,x3] σ) σ).bind λx4=>(A.ak 3 c1).bind λx5=>(A.bR x5).bind λx6=>(A.gtr x6 (AV.ah 30)).bind λx7=>(A.quiet (rP [x7,(AV.ah 2)] σ) σ).bind λx8=>((((A.cell x4).bind λv=>some [v]).bind λc9=>(A.aq 0 c9 [(AV.ah 0),(AV.ah 0)]).bind λfL=>((A.cell x8).bind λv=>some [v]).bind λiq=>(A.aq 1 iq fL).bind λfJ=>some fJ).bind λcs=>some (AV.sl 1 (fI 1 2 cs))).bind λeB=>(A.quiet (ya [eB] σ) σ).bind λdY=>(A.neq .i dY (AV.ah 0)).bind λdK=>A.cond dK (A.fin σ dY σ) ((A.ak 3 c1).bind λdg=>(A.bR dg).bind λdD=>(A.loop (λoI WK=>(A.lss (aj oI 2) dD).bind λcN=>A.cond cN ((A.aY 2 dg (aj oI 2)).bind λeu=>((A.deref eu WK).bind λgd=>A.aB 0 2 gd).bind λx24=>(A.cells 2 x24).bind λgE=>(A.aq 0 gE [(AV.ah 0),AV.az]).bind λiC=>(A.ak 0 iC).bind λeU=>(lI [eU,(AV.ah 1),(AV.ah 999)] WK).bind λvD=>(A.not vD.1).bind λx29=>A.cond x29 (some (AX.ret,[(aj oI 0),(AV.ah 1),(aj oI 2)],vD.2)) ((A.gtr (aj oI 2) (AV.ah 0)).bind λdO=>(A.guard dO true (A.ak 0 iC) ay).bind λx31=>((A.lb (aj oI 0)).bind λ_=>some (3)).bind λp32=>(A.guard dO true ((A.lb (aj oI 0)).bind λGl=>A.ak p32 Gl) ay).bind λx34=>(A.guard dO true (some (aj oI 2)) ay).bind λjc=>(A.guard dO true (A.sub jc (AV.ah 1)) ay).bind λfG=>(A.guard dO true (A.aY 2 x34 fG) ay).bind λcK=>(A.guard dO true (A.aF 0 cK) ay).bind λx38=>(A.guard dO true ((A.deref x38 vD.2).bind λoC=>A.ak 0 oC) ay).bind λdV=>(A.guard dO true (A.leq x31 dV) ay).bind λeX=>(A.pick dO eX aO).bind λgz=>A.cond gz (some (AX.ret,[(aj oI 0),(AV.ah 7),(aj oI 2)],vD.2)) (((A.lb (aj oI 0)).bind λ_=>some (0)).bind λp43=>((A.lb (aj oI 0)).bind λGm=>A.aB p43 2 Gm).bind λfO=>((A.lb (aj oI 0)).bind λ_=>some (2)).bind λvC=>((A.lb (aj oI 0)).bind λiD=>A.ak vC iD).bind λgK=>(A.ak 1 iC).bind λeZ=>(QU [fO,gK,eZ] vD.2).bind λdN=>(A.neq .i dN.1 (AV.ah 0)).bind λjD=>A.cond jD (some (AX.ret,[(aj oI 0),dN.1,(aj oI 2)],dN.2)) ((A.add (aj oI 2) (AV.ah 1)).bind λeP=>some (AX.normal,[(aj oI 0),(aj oI 1),eP],dN.2))))) (some (AX.exit 0,[(aj oI 0),(aj oI 1),(aj oI 2)],WK))) [(AV.lbx c1),(AV.ah 0),(AV.ah 0)] σ).bind λdc=>bif dc.1==AX.exit 0 then(((A.lb (aj dc.2.1 0)).bind λ_=>some (4)).bind λp54=>((A.lb (aj dc.2.1 0)).bind λjS=>A.ak p54 jS).bind λfH=>(A.bR fH).bind λmq=>(A.gtr mq (AV.ah 40)).bind λiG=>A.cond iG (A.fin σ (AV.ah 2) dc.2.2) (((A.lb (aj dc.2.1 0)).bind λ_=>some (4)).bind λp59=>((A.lb (aj dc.2.1 0)).bind λrJ=>A.ak p59 rJ).bind λjF=>(A.bR jF).bind λfc=>(A.loop (λpO WM=>(A.lss (aj pO 2) fc).bind λgG=>A.cond gG ((A.aY 3 jF (aj pO 2)).bind λkC=>((A.deref kC WM).bind λLw=>A.aB 0 3 Lw).bind λgX=>(A.cells 3 gX).bind λyQ=>(A.aq 0 yQ [(AV.ah 0),(AV.ah 0),(AV.ah 0)]).bind λnK=>(A.ak 0 nK).bind λnB=>(lI [nB,(AV.ah 1),(AV.ah 40)] WM).bind λMb=>(A.not Mb.1).bind λjr=>A.cond jr (some (AX.ret,[(aj pO 0),(AV.ah 1),(aj pO 2)],Mb.2)) ((A.gtr (aj pO 2) (AV.ah 0)).bind λfP=>(A.guard fP true (A.ak 0 nK) ay).bind λkD=>((A.lb (aj pO 0)).bind λ_=>some (4)).bind λpL=>(A.guard fP true ((A.lb (aj pO 0)).bind λnr=>A.ak pL nr) ay).bind λkE=>(A.guard fP true (some (aj pO 2)) ay).bind λgm=>(A.guard fP true (A.sub gm (AV.ah 1)) ay).bind λnC=>(A.guard fP true (A.aY 3 kE nC) ay).bind λnD=>(A.guard fP true (A.aF 0 nD) ay).bind λnN=>(A.guard fP true ((A.deref nN Mb.2).bind λjf=>A.ak 0 jf) ay).bind λkF=>(A.guard fP true (A.leq kD kF) ay).bind λlH=>(A.pick fP lH aO).bind λpP=>A.cond pP (some (AX.ret,[(aj pO 0),(AV.ah 7),(aj pO 2)],Mb.2)) (((A.lb (aj pO 0)).bind λsV=>A.aB 0 5 sV).bind λDt=>(A.ak 1 nK).bind λx90=>(DC [Dt,x90] Mb.2).bind λBJ=>(A.ext 0 BJ.1).bind λnE=>(A.ext 1 BJ.1).bind λx93=>(A.cells 2 nE).bind λn5=>(A.aq 0 n5 [(AV.ah 0),AV.az]).bind λlC=>(A.not x93).bind λx96=>A.cond x96 (some (AX.ret,[(aj pO 0),(AV.ah 8),(aj pO 2)],BJ.2)) ((A.ak 2 nK).bind λAM=>(lI [AM,(AV.ah 0),(AV.ah 100)] BJ.2).bind λBK=>(A.not BK.1).bind λx99=>A.cond x99 (some (AX.ret,[(aj pO 0),(AV.ah 1),(aj pO 2)],BK.2)) ((A.add (aj pO 2) (AV.ah 1)).bind λqB=>some (AX.normal,[(aj pO 0),(aj pO 1),qB],BK.2)))))) (some (AX.exit 2,[(aj pO 0),(aj pO 1),(aj pO 2)],WM))) [(aj dc.2.1 0),(aj dc.2.1 1),(AV.ah 0)] dc.2.2).bind λyL=>bif yL.1==AX.exit 2 then(A.fin σ (AV.ah 0) yL.2.2)else bif yL.1==AX.ret then(A.fin σ (aj yL.2.1 1) yL.2.2)else none))else bif dc.1==AX.ret then(A.fin σ (aj dc.2.1 1) dc.2.2)else none)
noncomputable def MV:au→Heap→aH:=A.wrap true [Bw] .k (A.dH QI)
noncomputable def QC (a0:AV) (σ:Heap):aH:=(A.cells 5 a0).bind λc1=>(A.ak 1 c1).bind λx2=>(lI [x2,(AV.ah 1),(AV.ah 9)] σ).bind λr3=>(A.not r3.1).bind λx4=>A.cond x4 (A.fin σ (AV.ah 4) r3.2) ((A.ak 1 c1).bind λx5=>(A.eql .i x5 (AV.ah 8)).bind λx6=>(A.guard x6 false (A.ak 1 c1) ay).bind λx7=>(A.guard x6 false (A.eql .i x7 (AV.ah 9)) ay).bind λx8=>(A.pick x6 dR x8).bind λx9=>(A.guard x9 false (A.ak 1 c1) ay).bind λbX=>(A.guard x9 false (A.eql .i bX (AV.ah 6)) ay).bind λdJ=>(A.pick x9 dR dJ).bind λdS=>(A.guard dS false (A.ak 1 c1) ay).bind λeB=>(A.guard dS false (A.eql .i eB (AV.ah 7)) ay).bind λdY=>(A.pick dS dR dY).bind λdK=>(A.guard x9 true (A.ak 2 c1) ay).bind λdg=>(A.guard x9 true (A.neq .i dg (AV.ah 0)) ay).bind λdD=>(A.pick x9 dD aO).bind λcI=>(A.guard cI false (A.ak 1 c1) ay).bind λeC=>(A.guard cI false (A.neq .i eC (AV.ah 3)) ay).bind λep=>(A.guard cI false (some ep) ay).bind λcN=>(A.guard cN true (A.ak 3 c1) ay).bind λeu=>(A.guard cN true (A.neq .i eu (AV.ah 0)) ay).bind λfC=>(A.guard cI false (A.pick cN fC aO) ay).bind λx24=>(A.pick cI dR x24).bind λx25=>(A.guard x25 false (some dK) ay).bind λgh=>(A.guard x25 false (A.not gh) ay).bind λeU=>(A.guard x25 false (some eU) ay).bind λx28=>(A.guard x28 true (A.ak 4 c1) ay).bind λx29=>(A.guard x28 true (A.neq .i x29 (AV.ah 0)) ay).bind λdO=>(A.guard x25 false (A.pick x28 dO aO) ay).bind λx31=>(A.pick x25 dR x31).bind λx32=>A.cond x32 (A.fin σ (AV.ah 3) r3.2) (A.fin σ (AV.ah 0) r3.2))
noncomputable def MP:au→Heap→aH:=A.wrap true [] .k (A.dH QC)
noncomputable def Qo (a0 a1:AV) (σ:Heap):aH:=(A.cells 3 a0).bind λc1=>(A.ak 0 c1).bind λx2=>(A.aF 2 a1).bind λx3=>((A.deref x3 σ).bind λc4=>A.ak 0 c4).bind λx5=>(A.eql .i x2 x5).bind λx6=>A.fin σ x6 σ
noncomputable def Jo:au→Heap→aH:=A.wrap true [] .k (A.dI Qo)
noncomputable def MR (a0 a1:AV) (σ:Heap):aH:=(A.cells 5 a0).bind λc1=>((A.cells 5 a1).bind λcs=>some (AV.rp cs)).bind λx2=>(A.aF 1 x2).bind λx3=>((A.deref x3 σ).bind λc4=>A.ak 0 c4).bind λx5=>(A.eql .i x5 (AV.ah 8)).bind λx6=>(A.guard x6 false (A.aF 1 x2) ay).bind λx7=>(A.guard x6 false ((A.deref x7 σ).bind λc8=>A.ak 0 c8) ay).bind λx9=>(A.guard x6 false (A.eql .i x9 (AV.ah 9)) ay).bind λbX=>(A.pick x6 dR bX).bind λdJ=>(A.not dJ).bind λdS=>(A.guard dS true (A.ak 4 c1) ay).bind λeB=>(A.guard dS true (some (AV.fn 152 [x2])) ay).bind λdY=>(A.guard dS true (A.quiet (Mv (A.tab (λ_ _=>none) [(152,Jo)]) [eB,dY] σ) σ) ay).bind λdK=>(A.guard dS true (A.not dK) ay).bind λdg=>(A.pick dS dg aO).bind λdD=>A.cond dD (A.fin σ (AV.ah 8) σ) ((A.aF 1 x2).bind λcI=>((A.deref cI σ).bind λiM=>A.ak 0 iM).bind λep=>(A.eql .i ep (AV.ah 6)).bind λcN=>(A.cond cN (some ([(AV.ah 36000000)],σ)) ((A.eql .i ep (AV.ah 9)).bind λfC=>(A.cond fC (some ([(AV.ah 1)],σ)) (some ([(AV.ah 65535)],σ))).bind λwF=>some ([(aj wF.1 0)],wF.2))).bind λGP=>(A.aF 4 x2).bind λx25=>((A.deref x25 GP.2).bind λiC=>A.ak 0 iC).bind λeU=>(lI [eU,(AV.ah 0),(aj GP.1 0)] GP.2).bind λvD=>(A.not vD.1).bind λx29=>(rP [x29,(AV.ah 1)] vD.2).bind λDm=>A.fin σ Dm.1 Dm.2)
noncomputable def MQ:au→Heap→aH:=A.wrap true [Bw] .k (A.dI MR)
noncomputable def XW (a0:AV) (σ:Heap):aH:=(lI [a0,(AV.ah 0),(AV.ah 36000000)] σ).bind λr1=>A.fin σ r1.1 r1.2
noncomputable def JD:au→Heap→aH:=A.wrap true [] .k (A.dH XW)
noncomputable def Xz (a0:AV) (σ:Heap):aH:=(A.aU a0).bind λx1=>(A.aF 11 x1).bind λx2=>((A.deref x2 σ).bind λc3=>A.ak 0 c3).bind λx4=>(A.bR x4).bind λx5=>(A.eql .i x5 (AV.ah 0)).bind λx6=>A.cond x6 (A.fin σ (AV.ah 0) σ) ((A.aU a0).bind λx7=>(A.aF 11 x7).bind λx8=>((A.deref x8 σ).bind λc9=>A.ak 0 c9).bind λbX=>(A.aU a0).bind λdJ=>(A.aF 11 dJ).bind λdS=>((A.deref dS σ).bind λkn=>A.ak 0 kn).bind λdY=>(A.bR dY).bind λdK=>(A.sub dK (AV.ah 1)).bind λdg=>(A.aY 5 bX dg).bind λdD=>(A.aF 0 dD).bind λcI=>((A.deref cI σ).bind λiM=>A.ak 0 iM).bind λep=>A.fin σ ep σ)
noncomputable def qV:au→Heap→aH:=A.wrap true [(.p Gb)] .k (A.dH Xz)
noncomputable def XB (a0:AV) (σ:Heap):aH:=(A.aU a0).bind λx1=>(A.aF 8 x1).bind λx2=>((A.deref x2 σ).bind λc3=>A.ak 0 c3).bind λx4=>(A.lss x4 (AV.ah 0)).bind λx5=>(A.guard x5 false (some a0) ay).bind λx6=>(A.guard x5 false (A.aU x6) ay).bind λx7=>(A.guard x5 false (A.aF 0 x7) ay).bind λx8=>(A.guard x5 false (A.aF 2 x8) ay).bind λx9=>(A.guard x5 false ((A.deref x9 σ).bind λfL=>A.ak 0 fL) ay).bind λdJ=>(A.pick x5 dR dJ).bind λdS=>A.cond dS (A.fin σ (AV.ah (-1)) σ) ((A.aU a0).bind λeB=>(A.aF 0 eB).bind λdY=>(A.aF 1 dY).bind λdK=>((A.deref dK σ).bind λpg=>A.ak 0 pg).bind λdD=>(A.aU a0).bind λcI=>(A.aF 8 cI).bind λeC=>((A.deref eC σ).bind λjR=>A.ak 0 jR).bind λcN=>(A.add dD cN).bind λeu=>(A.aU a0).bind λfC=>(A.aF 0 fC).bind λx24=>(A.aF 0 x24).bind λx25=>((A.deref x25 σ).bind λiC=>A.ak 0 iC).bind λeU=>(A.sub eu eU).bind λx28=>A.fin σ x28 σ)
noncomputable def zf:au→Heap→aH:=A.wrap true [(.p [.k,.k,.k,.k,.k,(.s 11),.k,.k,.k,.k])] .k (A.dH XB)
noncomputable def XI (a0 a1:AV) (σ:Heap):aH:=(A.cells 3 a0).bind λc1=>(A.ak 2 c1).bind λx2=>A.cond x2 ((A.ak 0 c1).bind λx3=>A.fin σ x3 σ) ((A.ak 0 c1).bind λx4=>(A.add x4 a1).bind λx5=>(A.ak 1 c1).bind λx6=>(A.sub x5 x6).bind λx7=>A.fin σ x7 σ)
noncomputable def uF:au→Heap→aH:=A.wrap true [] .k (A.dI XI)
noncomputable def XO (a0:AV) (σ:Heap):aH:=(A.cells 9 a0).bind λc1=>(A.ak 2 c1).bind λx2=>(A.ak 3 c1).bind λx3=>(A.add x2 x3).bind λx4=>(A.ak 4 c1).bind λx5=>(A.add x4 x5).bind λx6=>A.fin σ x6 σ
noncomputable def Q4:au→Heap→aH:=A.wrap true [(.a [.k,.k,.k,.k,.k,.k,(.s 2),.k,.k])] .k (A.dH XO)
noncomputable def Qv (a0 a1 a2:AV) (σ:Heap):aH:=(A.cells 2 a1).bind λc1=>(A.aU a0).bind λx2=>(A.aF 9 x2).bind λx3=>((A.deref x3 σ).bind λc4=>A.ak 0 c4).bind λx5=>(A.aB 0 2 c1).bind λx6=>(A.Fv (.s [0,2]) x5 x6 (AV.agg [(AV.ah 0),(AV.ah 0),(AV.ah 0),(AV.ah 0),(AV.ah 0),(AV.ah 0),AV.az,(AV.ah 0),aO]) σ).bind λx7=>(A.ext 0 x7).bind λx8=>(A.ext 1 x7).bind λx9=>(A.cells 9 x8).bind λfL=>(A.aq 0 fL [(AV.ah 0),(AV.ah 0),(AV.ah 0),(AV.ah 0),(AV.ah 0),(AV.ah 0),AV.az,(AV.ah 0),aO]).bind λiq=>(A.aB 0 9 iq).bind λdS=>(A.guard x9 true (A.ak 8 iq) ay).bind λeB=>(A.guard x9 true (some eB) ay).bind λdY=>(A.guard dY true (some a2) ay).bind λdK=>(A.guard dY true (A.aB 0 9 iq) ay).bind λdg=>(A.guard dY true (A.quiet (Q4 [dg] σ) σ) ay).bind λdD=>(A.guard dY true (A.geq dK dD) ay).bind λcI=>(A.guard x9 true (A.pick dY cI aO) ay).bind λeC=>(A.guard x9 true (A.not eC) ay).bind λep=>(A.pick x9 ep aO).bind λcN=>(A.cells 9 dS).bind λiU=>(A.aq 0 iU [(AV.ah 0),(AV.ah 0),(AV.ah 0),(AV.ah 0),(AV.ah 0),(AV.ah 0),AV.az,(AV.ah 0),aO]).bind λgd=>(A.aB 0 9 gd).bind λx24=>A.fin σ (AV.aM [x24,cN]) σ
noncomputable def oJ:au→Heap→aH:=A.wrap false [] (.t [(.a [.k,.k,.k,.k,.k,.k,(.s 2),.k,.k]),.k]) (A.mU Qv)
noncomputable def XC (a0 a1:AV) (σ:Heap):aH:=(A.cells 9 a0).bind λc1=>(A.aB 0 7 c1).bind λx2=>(A.min a1 (AV.ah 36000000)).bind λx3=>(R8 [x2,x3] σ).bind λr4=>(A.ext 0 r4.1).bind λx5=>(A.ext 1 r4.1).bind λx6=>A.fin σ x5 r4.2
noncomputable def xZ:au→Heap→aH:=A.wrap true [(.a [.k,.k,.k,.k,.k,.k,(.s 2),.k,.k])] .k (A.dI XC)
noncomputable def Xp (a0 a1 a2 a3:AV) (σ:Heap):aH:=(A.cells 2 a2).bind λc1=>(A.aU a0).bind λx2=>(A.aF 10 x2).bind λx3=>((A.deref x3 σ).bind λc4=>A.ak 0 c4).bind λx5=>(A.aB 0 2 c1).bind λx6=>(A.look (.s [0,2]) x5 x6 (AV.agg [bA,(AV.ah 0),(AV.ah 0),(AV.ah 0),(AV.ah 0),aO,AV.az]) σ).bind λx7=>(A.cells 7 x7).bind λc8=>(A.aq 0 c8 [bA,(AV.ah 0),(AV.ah 0),(AV.ah 0),(AV.ah 0),aO,AV.az]).bind λc9=>(A.ak 4 c9).bind λbX=>(A.aU a1).bind λdJ=>(A.aF 0 dJ).bind λdS=>((A.deref dS σ).bind λkn=>A.ak 0 kn).bind λdY=>(A.bR dY).bind λdK=>(A.loop (λbu mX=>(A.lss (aj bu 6) dK).bind λeC=>A.cond eC ((A.aU a1).bind λep=>(A.aF 0 ep).bind λcN=>((A.deref cN mX).bind λiU=>A.ak 0 iU).bind λfC=>(A.aY 10 fC (aj bu 6)).bind λx24=>(A.aU x24).bind λx25=>(A.aF 0 x25).bind λgh=>((A.deref gh mX).bind λko=>A.aB 0 3 ko).bind λx28=>(uF [x28,a3] mX).bind λi6=>((A.lb (aj bu 0)).bind λvi=>A.aB 0 2 vi).bind λx31=>(oJ [x24,x31,i6.1] i6.2).bind λr32=>(A.ext 0 r32.1).bind λeW=>(A.ext 1 r32.1).bind λx34=>(A.cells 9 eW).bind λgr=>(A.aq 0 gr [(AV.ah 0),(AV.ah 0),(AV.ah 0),(AV.ah 0),(AV.ah 0),(AV.ah 0),AV.az,(AV.ah 0),aO]).bind λjJ=>(A.not x34).bind λcK=>(A.guard cK false (some x24) ay).bind λx38=>(A.guard cK false (A.aU x38) ay).bind λgj=>(A.guard cK false (A.aF 4 gj) ay).bind λdV=>(A.guard cK false ((A.deref dV r32.2).bind λpE=>A.ak 0 pE) ay).bind λgz=>(A.guard cK false (some (aj bu 4)) ay).bind λfk=>(A.guard cK false (A.lss gz fk) ay).bind λeY=>(A.pick cK dR eY).bind λfO=>A.cond fO ((A.add (aj bu 6) (AV.ah 1)).bind λgP=>some (AX.normal,[(aj bu 0),(aj bu 1),(aj bu 2),(aj bu 3),(aj bu 4),(aj bu 5),gP],r32.2)) ((A.aB 0 9 jJ).bind λkr=>(xZ [kr,i6.1] r32.2).bind λmJ=>((A.lb (aj bu 1)).bind λ_=>some (1)).bind λL7=>((A.lb (aj bu 1)).bind λqJ=>A.ak L7 qJ).bind λjD=>(A.eql .i jD (AV.ah 1)).bind λeP=>(A.cond eP ((A.aU x24).bind λgL=>(A.aF 7 gL).bind λjU=>((A.deref jU mJ.2).bind λsR=>A.ak 0 sR).bind λmq=>(EY [mJ.1,mq] mJ.2).bind λAz=>(A.ext 0 Az.1).bind λfK=>(A.ext 1 Az.1).bind λjE=>some ([(aj bu 0),(aj bu 1),(AV.lbx jJ),fK],Az.2)) (some ([(aj bu 0),(aj bu 1),(AV.lbx jJ),mJ.1],mJ.2))).bind λdc=>(A.aU x24).bind λjF=>(A.aF 4 jF).bind λfc=>((A.deref fc dc.2).bind λqL=>A.ak 0 qL).bind λku=>(A.gtr ku (aj bu 4)).bind λiH=>((A.lb (aj dc.1 1)).bind λ_=>some (1)).bind λL8=>(A.guard iH false ((A.lb (aj dc.1 1)).bind λAl=>A.ak L8 Al) ay).bind λiI=>(A.guard iH false (A.eql .i iI (AV.ah 1)) ay).bind λgX=>(A.guard iH false (some gX) ay).bind λgM=>(A.guard gM true (some (aj dc.1 3)) ay).bind λmM=>(A.guard gM true (some (aj bu 2)) ay).bind λnB=>(A.guard gM true (A.gtr mM nB) ay).bind λiz=>(A.guard iH false (A.pick gM iz aO) ay).bind λjr=>(A.pick iH dR jr).bind λfP=>((A.lb (aj dc.1 1)).bind λ_=>some (1)).bind λGJ=>(A.guard fP false ((A.lb (aj dc.1 1)).bind λnY=>A.ak GJ nY) ay).bind λkR=>(A.guard fP false (A.neq .i kR (AV.ah 1)) ay).bind λkE=>(A.guard fP false (some kE) ay).bind λgm=>((A.lb (aj dc.1 2)).bind λ_=>some (7)).bind λL9=>(A.guard gm true ((A.lb (aj dc.1 2)).bind λnu=>A.ak L9 nu) ay).bind λnN=>(A.guard gm true (some (aj bu 5)) ay).bind λAL=>(A.guard gm true (A.gtr nN AL) ay).bind λkF=>(A.guard fP false (A.pick gm kF aO) ay).bind λlH=>(A.pick fP dR lH).bind λpP=>(A.cond pP ((A.aU x24).bind λDt=>(A.aF 3 Dt).bind λx90=>((A.deref x90 dc.2).bind λxK=>A.ak 0 xK).bind λnE=>(A.aU x24).bind λx93=>(A.aF 4 x93).bind λuD=>((A.deref uD dc.2).bind λlC=>A.ak 0 lC).bind λx96=>((A.lb (aj dc.1 2)).bind λ_=>some (7)).bind λAw=>((A.lb (aj dc.1 2)).bind λn9=>A.ak Aw n9).bind λx99=>some ([(aj dc.1 0),(aj dc.1 1),(aj dc.1 3),nE,x96,x99],dc.2)) (some ([(aj dc.1 0),(aj dc.1 1),(aj bu 2),(aj bu 3),(aj bu 4),(aj bu 5)],dc.2))).bind λoq=>(A.add (aj bu 6) (AV.ah 1)).bind λqB=>some (AX.normal,[(aj oq.1 0),(aj oq.1 1),(aj oq.1 2),(aj oq.1 3),(aj oq.1 4),(aj oq.1 5),qB],oq.2))) (some (AX.exit 0,[(aj bu 0),(aj bu 1),(aj bu 2),(aj bu 3),(aj bu 4),(aj bu 5),(aj bu 6)],mX))) [(AV.lbx c1),(AV.lbx c9),bX,(AV.ah 0),(AV.ah (-1)),(AV.ah 0),(AV.ah 0)] σ).bind λyL=>bif yL.1==AX.exit 0 then(A.fin σ (AV.aM [(aj yL.2.1 2),(aj yL.2.1 3)]) yL.2.2)else none
noncomputable def Dx:au→Heap→aH:=A.wrap true [(.p Gb),(.p [(.s 10),.k,.k,.k])] .k (A.vg Xp)
noncomputable def Xj (a0 a1:AV) (σ:Heap):aH:=(A.cells 8 a0).bind λc1=>(A.aB 0 2 c1).bind λx2=>((A.deref a1 σ).bind λc3=>A.aB 0 2 c3).bind λx4=>(A.eql (.s [0,2]) x2 x4).bind λx5=>A.fin σ x5 σ
noncomputable def G8:au→Heap→aH:=A.wrap true [] .k (A.dI Xj)
noncomputable def Y9 (a0:AV) (σ:Heap):aH:=(A.cells 7 a0).bind λc1=>(A.ak 2 c1).bind λx2=>(A.min x2 (AV.ah 36000000)).bind λx3=>((A.cell x3).bind λv=>some [v]).bind λc4=>(A.aq 2 c4 c1).bind λc5=>(A.ak 3 c5).bind λx6=>(A.ak 2 c5).bind λx7=>(A.sub (AV.ah 36000000) x7).bind λx8=>(A.min x6 x8).bind λx9=>((A.cell x9).bind λv=>some [v]).bind λfL=>(A.aq 3 fL c5).bind λiq=>(A.ak 4 iq).bind λdS=>(A.ak 2 iq).bind λeB=>(A.sub (AV.ah 36000000) eB).bind λdY=>(A.ak 3 iq).bind λdK=>(A.sub dY dK).bind λdg=>(A.min dS dg).bind λdD=>((A.cell dD).bind λv=>some [v]).bind λjm=>(A.aq 4 jm iq).bind λiM=>(A.aB 0 7 iM).bind λep=>(A.cells 7 ep).bind λlB=>(A.aq 0 lB [(AV.ah 0),(AV.ah 0),(AV.ah 0),(AV.ah 0),(AV.ah 0),(AV.ah 0),AV.az]).bind λiU=>(A.aB 0 7 iU).bind λfC=>A.fin σ fC σ
noncomputable def yc:au→Heap→aH:=A.wrap true [FH] FH (A.dH Y9)
noncomputable def QN (a0 a1 a2 a3 a4 a5:AV) (σ:Heap):aH:=(A.cells 11 a1).bind λc1=>((A.cells 2 a2).bind λcs=>some (AV.rp cs)).bind λx2=>(A.ak 2 c1).bind λx3=>(A.ak 5 c1).bind λx4=>(A.aB 6 2 c1).bind λx5=>((((A.cell a3).bind λv=>some [v]).bind λc6=>(A.aq 0 c6 [(AV.ah 0),(AV.ah 0),(AV.ah 0),(AV.ah 0),(AV.ah 0),(AV.ah 0),AV.az]).bind λc7=>((A.cell a4).bind λv=>some [v]).bind λc8=>(A.aq 1 c8 c7).bind λc9=>((A.cell a5).bind λv=>some [v]).bind λfL=>(A.aq 2 fL c9).bind λiq=>((A.cell x3).bind λv=>some [v]).bind λfJ=>(A.aq 3 fJ iq).bind λkn=>((A.cell x4).bind λv=>some [v]).bind λlz=>(A.aq 4 lz kn).bind λmV=>(A.cells 2 x5).bind λpg=>(A.aq 5 pg mV).bind λpq=>some pq).bind λcs=>some (AV.agg cs)).bind λcI=>(A.cells 7 cI).bind λiM=>(A.aq 0 iM [(AV.ah 0),(AV.ah 0),(AV.ah 0),(AV.ah 0),(AV.ah 0),(AV.ah 0),AV.az]).bind λjR=>(A.aU a0).bind λcN=>(A.aF 10 cN).bind λeu=>((A.deref eu σ).bind λgd=>A.ak 0 gd).bind λx24=>((A.deref x2 σ).bind λgE=>A.aB 0 2 gE).bind λgh=>(A.look (.s [0,2]) x24 gh (AV.agg [bA,(AV.ah 0),(AV.ah 0),(AV.ah 0),(AV.ah 0),aO,AV.az]) σ).bind λeU=>(A.cells 7 eU).bind λlM=>(A.aq 0 lM [bA,(AV.ah 0),(AV.ah 0),(AV.ah 0),(AV.ah 0),aO,AV.az]).bind λum=>(A.ak 1 um).bind λdO=>(A.eql .i dO (AV.ah 1)).bind λx31=>(A.cond x31 ((A.ak 3 c1).bind λeW=>((A.cell eW).bind λv=>some [v]).bind λvk=>(A.aq 4 vk jR).bind λgr=>(A.lss a4 a3).bind λfG=>(A.cond fG ((A.ak 4 c1).bind λx38=>((A.cell x38).bind λv=>some [v]).bind λoC=>(A.aq 4 oC gr).bind λBy=>some ([(AV.lbx c1),(AV.lbx [(AV.ah 0),(AV.ah 0),(AV.ah 0),(AV.ah 0),(AV.ah 0),(AV.ah 0),AV.az]),(AV.lbx By),(AV.lbx um)],σ)) (some ([(AV.lbx c1),(AV.lbx [(AV.ah 0),(AV.ah 0),(AV.ah 0),(AV.ah 0),(AV.ah 0),(AV.ah 0),AV.az]),(AV.lbx gr),(AV.lbx um)],σ))).bind λjK=>some ([(aj jK.1 0),(aj jK.1 1),(aj jK.1 2),(aj jK.1 3)],jK.2)) (some ([(AV.lbx c1),(AV.lbx [(AV.ah 0),(AV.ah 0),(AV.ah 0),(AV.ah 0),(AV.ah 0),(AV.ah 0),AV.az]),(AV.lbx jR),(AV.lbx um)],σ))).bind λr32=>((A.lb (aj r32.1 0)).bind λ_=>some (10)).bind λp41=>((A.lb (aj r32.1 0)).bind λmB=>A.ak p41 mB).bind λfk=>(Jj (A.tab (λ_ _=>none) [(349,G8)]) [fk,(AV.fn 349 [x2])] r32.2).bind λfF=>(A.geq fF.1 (AV.ah 0)).bind λfO=>((A.lb (aj r32.1 0)).bind λ_=>some (10)).bind λvC=>(A.guard fO true ((A.lb (aj r32.1 0)).bind λiD=>A.ak vC iD) ay).bind λgK=>(A.guard fO true (some fF.1) ay).bind λeZ=>(A.guard fO true (A.aY 8 gK eZ) ay).bind λlG=>(A.guard fO true (A.aF 5 lG) ay).bind λjD=>(A.guard fO true ((A.deref jD fF.2).bind λLv=>A.ak 0 Lv) ay).bind λiy=>(A.pick fO iy aO).bind λgL=>(A.cond gL (((A.lb (aj r32.1 0)).bind λ_=>some (10)).bind λp56=>((A.lb (aj r32.1 0)).bind λjo=>A.ak p56 jo).bind λiG=>(A.aY 8 iG fF.1).bind λfK=>(A.aF 6 fK).bind λjE=>((A.deref jE fF.2).bind λnj=>A.ak 0 nj).bind λfc=>((A.lb (aj r32.1 0)).bind λ_=>some (10)).bind λp63=>((A.lb (aj r32.1 0)).bind λsS=>A.ak p63 sS).bind λiH=>(A.aY 8 iH fF.1).bind λgG=>(A.aF 7 gG).bind λkC=>((A.deref kC fF.2).bind λLw=>A.ak 0 Lw).bind λgX=>((A.lb (aj r32.1 2)).bind λ_=>some (3)).bind λp70=>(A.lb (aj r32.1 2)).bind λLx=>((A.cell fc).bind λv=>some [v]).bind λnK=>(A.aq p70 nK Lx).bind λlN=>((A.cell gX).bind λv=>some [v]).bind λVX=>(A.aq 4 VX lN).bind λnX=>some ([(aj r32.1 1),(AV.lbx nX),(aj r32.1 3)],fF.2)) (some ([(aj r32.1 1),(aj r32.1 2),(aj r32.1 3)],fF.2))).bind λyY=>((A.lb (aj yY.1 2)).bind λ_=>some (5)).bind λGJ=>((A.lb (aj yY.1 2)).bind λnY=>A.ak GJ nY).bind λkR=>(A.cond kR (((A.lb (aj yY.1 1)).bind λ_=>some (4)).bind λp80=>(A.lb (aj yY.1 1)).bind λmC=>((A.cell (AV.ah 0)).bind λv=>some [v]).bind λpH=>(A.aq p80 pH mC).bind λnu=>some ([(aj yY.1 0),(AV.lbx nu)],yY.2)) (some ([(aj yY.1 0),(aj yY.1 1)],yY.2))).bind λlE=>((A.lb (aj lE.1 1)).bind λjf=>A.aB 0 7 jf).bind λkF=>(yc [kF] lE.2).bind λAE=>(A.lb (aj lE.1 0)).bind λmD=>(A.cells 7 AE.1).bind λnZ=>(A.aq 0 nZ mD).bind λsV=>(A.aB 0 7 sV).bind λx90=>A.fin σ x90 AE.2
noncomputable def Dz:au→Heap→aH:=A.wrap false [] FH (A.Ge QN)
noncomputable def QO (a0 a1 a2 a3 a4:AV) (σ:Heap):aH:=(A.aU a1).bind λx1=>(A.aF 0 x1).bind λx2=>((A.deref x2 σ).bind λc3=>A.ak 0 c3).bind λx4=>(A.aY 10 x4 a2).bind λx5=>(A.aU x5).bind λx6=>(A.aF 5 x6).bind λx7=>((A.deref x7 σ).bind λc8=>A.ak 0 c8).bind λx9=>(A.aY 11 x9 a3).bind λbX=>((A.deref bX σ).bind λiq=>A.aB 0 11 iq).bind λdS=>(A.cells 11 dS).bind λkn=>(A.aq 0 kn [(AV.ah 0),bA,(AV.ah 0),(AV.ah 0),(AV.ah 0),(AV.ah 0),(AV.ah 0),AV.az,aO,(AV.ah 0),AV.az]).bind λlz=>(A.aU x5).bind λdK=>(A.aF 0 dK).bind λdg=>((A.deref dg σ).bind λpq=>A.aB 0 3 pq).bind λcI=>(uF [cI,a4] σ).bind λmI=>(A.aU x5).bind λep=>(A.aF 5 ep).bind λcN=>((A.deref cN mI.2).bind λiU=>A.ak 0 iU).bind λfC=>(A.ak 0 lz).bind λx24=>(A.quiet (Ni [fC,x24] mI.2) mI.2).bind λx25=>(A.ext 0 x25).bind λgh=>(A.ext 1 x25).bind λeU=>(A.bR gh).bind λx28=>(A.loop (λlp AJ=>(A.lss (aj lp 1) x28).bind λx32=>A.cond x32 ((A.aY 5 gh (aj lp 1)).bind λeW=>((A.deref eW AJ).bind λvk=>A.aB 0 5 vk).bind λjc=>(A.cells 5 jc).bind λjJ=>(A.aq 0 jJ [(AV.ah 0),bA,(AV.ah 0),(AV.ah 0),(AV.ah 0)]).bind λiu=>(A.aB 0 2 iu).bind λx38=>(A.fV (.s [0,2]) (AV.om (mI.2++[aS.map []]).length) x38 dR AJ).bind λuu=>(A.aU a0).bind λdV=>(A.aF 4 dV).bind λeX=>(A.aF 2 eX).bind λgz=>((A.deref gz uu).bind λxI=>A.ak 0 xI).bind λeY=>(A.aB 0 2 iu).bind λfO=>(A.aB 2 2 iu).bind λgP=>(A.quiet (E3 [eY,fO,gP] uu) uu).bind λkr=>(A.ext 0 kr).bind λgK=>(A.ext 1 kr).bind λeZ=>(A.aB 0 2 iu).bind λlG=>(oJ [x5,lG,mI.1] uu).bind λmW=>(A.ext 0 mW.1).bind λeP=>(A.ext 1 mW.1).bind λiy=>(A.cells 9 eP).bind λyP=>(A.aq 0 yP [(AV.ah 0),(AV.ah 0),(AV.ah 0),(AV.ah 0),(AV.ah 0),(AV.ah 0),AV.az,(AV.ah 0),aO]).bind λjS=>(A.guard iy true (A.ak 8 jS) ay).bind λfH=>(A.guard iy true (A.not fH) ay).bind λmq=>(A.pick iy mq aO).bind λiG=>(A.guard iG true (A.ak 1 jS) ay).bind λfK=>(A.guard iG true (some gK) ay).bind λjE=>(A.guard iG true (A.eql .i fK jE) ay).bind λjF=>(A.pick iG jF aO).bind λfc=>A.cond fc ((A.aB 0 2 iu).bind λgW=>(A.aB 0 9 jS).bind λku=>(A.fV (.s [0,2]) (AV.om mI.2.length) gW ku mW.2).bind λLF=>(A.add (aj lp 1) (AV.ah 1)).bind λgG=>some (AX.normal,[(aj lp 0),gG],LF)) ((A.cond iy ((A.aB 0 9 jS).bind λiI=>(xZ [iI,mI.1] mW.2).bind λEF=>some ([(aj lp 0),(AV.lbx iu),EF.1],EF.2)) ((A.aU a0).bind λgM=>(A.aF 10 gM).bind λmM=>((A.deref mM mW.2).bind λlN=>A.ak 0 lN).bind λiz=>(A.aB 0 2 iu).bind λjr=>(A.look (.s [0,2]) iz jr (AV.agg [bA,(AV.ah 0),(AV.ah 0),(AV.ah 0),(AV.ah 0),aO,AV.az]) mW.2).bind λfP=>((A.cells 7 fP).bind λqM=>A.ak 1 qM).bind λqT=>(A.neq .i qT (AV.ah 1)).bind λkR=>(A.cond kR ((A.aB 0 2 iu).bind λgm=>(Dx [a0,a1,gm,a4] mW.2).bind λAB=>(A.ext 0 AB.1).bind λnD=>(A.ext 1 AB.1).bind λnN=>some ([(aj lp 0),(AV.lbx iu),nD],AB.2)) (some ([(aj lp 0),(AV.lbx iu),(AV.ah 0)],mW.2))).bind λlE=>some ([(aj lE.1 0),(aj lE.1 1),(aj lE.1 2)],lE.2))).bind λfQ=>((A.lb (aj fQ.1 1)).bind λ_=>some (0)).bind λGK=>((A.lb (aj fQ.1 1)).bind λsU=>A.aB GK 2 sU).bind λlH=>((A.lb (aj fQ.1 0)).bind λnZ=>A.aB 0 11 nZ).bind λkG=>((A.lb (aj fQ.1 1)).bind λ_=>some (0)).bind λGM=>((A.lb (aj fQ.1 1)).bind λmE=>A.aB GM 2 mE).bind λx91=>(A.quiet (Dz [a0,kG,x91,(aj fQ.1 2),gK,mI.1] fQ.2) fQ.2).bind λnE=>(A.aU a1).bind λx93=>(A.aF 1 x93).bind λuD=>((A.deref uD fQ.2).bind λlC=>A.ak 0 lC).bind λx96=>(((A.cells 7 nE).bind λAm=>(A.aq 0 Am [(AV.ah 0),(AV.ah 0),(AV.ah 0),(AV.ah 0),(AV.ah 0),(AV.ah 0),AV.az,(AV.ah 0),aO]).bind λn9=>((A.cell x96).bind λv=>some [v]).bind λsW=>(A.aq 7 sW n9).bind λsB=>((A.cell aO).bind λv=>some [v]).bind λsC=>(A.aq 8 sC sB).bind λCu=>some Cu).bind λcs=>some (AV.agg cs)).bind λyN=>(A.fV (.s [0,2]) (AV.om mI.2.length) lH yN fQ.2).bind λFX=>(A.add (aj lp 1) (AV.ah 1)).bind λCT=>some (AX.normal,[(aj fQ.1 0),CT],FX))) (some (AX.exit 0,[(aj lp 0),(aj lp 1)],AJ))) [(AV.lbx lz),(AV.ah 0)] ((mI.2++[aS.map []])++[aS.map []])).bind λIQ=>bif IQ.1==AX.exit 0 then((A.aU x5).bind λqD=>(A.aF 9 qD).bind λF8=>((A.deref F8 IQ.2.2).bind λaqz=>A.ak 0 aqz).bind λCU=>(A.yt CU).bind λapQ=>A.Cn (λBv asD Ve=>A.vU (AV.op IQ.2.2.length 0) asD λx115 Vn=>(A.ext 0 x115).bind λsO=>A.cond sO ((A.yq (AV.op IQ.2.2.length 0) Vn).bind λAc=>(A.ext 0 Ac).bind λCV=>(A.cells 2 CV).bind λUy=>(A.aq 0 Uy [(AV.ah 0),bA]).bind λsD=>(A.aB 0 2 sD).bind λLp=>(oJ [x5,Lp,mI.1] Vn).bind λrG=>(A.ext 0 rG.1).bind λxB=>(A.ext 1 rG.1).bind λmh=>(A.cells 9 xB).bind λxw=>(A.aq 0 xw [(AV.ah 0),(AV.ah 0),(AV.ah 0),(AV.ah 0),(AV.ah 0),(AV.ah 0),AV.az,(AV.ah 0),aO]).bind λud=>(A.not mh).bind λPv=>(A.guard Pv false (some (AV.om (mI.2++[aS.map []]).length)) ay).bind λp7=>(A.guard Pv false (A.aB 0 2 sD) ay).bind λu9=>(A.guard Pv false (A.look (.s [0,2]) p7 u9 aO rG.2) ay).bind λxC=>(A.pick Pv dR xC).bind λoU=>(A.guard oU false (some a0) ay).bind λqF=>(A.guard oU false (A.aU qF) ay).bind λVt=>(A.guard oU false (A.aF 10 Vt) ay).bind λxD=>(A.guard oU false ((A.deref xD rG.2).bind λaqD=>A.ak 0 aqD) ay).bind λxE=>(A.guard oU false (A.aB 0 2 sD) ay).bind λoV=>(A.guard oU false (A.look (.s [0,2]) xE oV (AV.agg [bA,(AV.ah 0),(AV.ah 0),(AV.ah 0),(AV.ah 0),aO,AV.az]) rG.2) ay).bind λCX=>(A.guard oU false ((A.cells 7 CX).bind λzM=>A.ak 1 zM) ay).bind λxF=>(A.guard oU false (A.neq .i xF (AV.ah 1)) ay).bind λAh=>(A.pick oU dR Ah).bind λoW=>A.cond oW (Ve (AX.normal,[(aj Bv 0)],rG.2)) ((A.ak 8 ud).bind λVu=>(A.not Vu).bind λVv=>(A.cond Vv ((A.aB 0 9 ud).bind λVw=>(A.quiet (xZ [Vw,mI.1] rG.2) rG.2).bind λasG=>((A.lb (aj Bv 0)).bind λ_=>some (2)).bind λasg=>((A.lb (aj Bv 0)).bind λKN=>A.ak asg KN).bind λx151=>((A.lb (aj Bv 0)).bind λ_=>some (4)).bind λash=>((A.lb (aj Bv 0)).bind λxx=>A.ak ash xx).bind λVx=>((A.lb (aj Bv 0)).bind λ_=>some (6)).bind λasi=>((A.lb (aj Bv 0)).bind λaqF=>A.aB asi 2 aqF).bind λx157=>((((A.cell asG).bind λv=>some [v]).bind λwg=>(A.aq 0 wg [(AV.ah 0),(AV.ah 0),(AV.ah 0),(AV.ah 0),(AV.ah 0),(AV.ah 0),AV.az]).bind λzP=>((A.cell mI.1).bind λv=>some [v]).bind λzQ=>(A.aq 2 zQ zP).bind λKO=>((A.cell x151).bind λv=>some [v]).bind λUB=>(A.aq 3 UB KO).bind λKP=>((A.cell Vx).bind λv=>some [v]).bind λUC=>(A.aq 4 UC KP).bind λKQ=>(A.cells 2 x157).bind λFR=>(A.aq 5 FR KQ).bind λCG=>some CG).bind λcs=>some (AV.agg cs)).bind λx168=>(A.cells 7 x168).bind λaqH=>(A.aq 0 aqH [(AV.ah 0),(AV.ah 0),(AV.ah 0),(AV.ah 0),(AV.ah 0),(AV.ah 0),AV.az]).bind λaqI=>(A.aB 0 7 aqI).bind λasM=>(A.quiet (yc [asM] rG.2) rG.2).bind λVz=>(A.aU a1).bind λasN=>(A.aF 1 asN).bind λVA=>((A.deref VA rG.2).bind λKR=>A.ak 0 KR).bind λVB=>(((A.cells 7 Vz).bind λaqK=>(A.aq 0 aqK [(AV.ah 0),(AV.ah 0),(AV.ah 0),(AV.ah 0),(AV.ah 0),(AV.ah 0),AV.az,(AV.ah 0),aO]).bind λUD=>((A.cell VB).bind λv=>some [v]).bind λaqL=>(A.aq 7 aqL UD).bind λaqM=>((A.cell dR).bind λv=>some [v]).bind λaqN=>(A.aq 8 aqN aqM).bind λaqO=>some aqO).bind λcs=>some (AV.agg cs)).bind λVC=>(A.cells 9 VC).bind λUE=>(A.aq 0 UE ud).bind λaqP=>some ([(aj Bv 0),(AV.lbx sD),(AV.lbx aqP)],rG.2)) (some ([(aj Bv 0),(AV.lbx sD),(AV.lbx ud)],rG.2))).bind λPp=>((A.lb (aj Pp.1 1)).bind λaqQ=>A.aB 0 2 aqQ).bind λasW=>((A.lb (aj Pp.1 2)).bind λaqS=>A.aB 0 9 aqS).bind λasY=>(A.fV (.s [0,2]) (AV.om mI.2.length) asW asY Pp.2).bind λUO=>Ve (AX.normal,[(aj Pp.1 0)],UO))) (Ve (AX.exit 2,[(aj Bv 0)],Vn))) [(aj IQ.2.1 0)] (IQ.2.2++[aS.it [] apQ]) λIT=>bif IT.1==AX.exit 2 then(((((A.cell mI.1).bind λv=>some [v]).bind λFT=>(A.aq 0 FT [(AV.ah 0),(AV.ah 0),aO]).bind λFU=>((A.cell a4).bind λv=>some [v]).bind λFV=>(A.aq 1 FV FU).bind λKS=>((A.cell aO).bind λv=>some [v]).bind λKT=>(A.aq 2 KT KS).bind λKU=>some KU).bind λcs=>some (AV.agg cs)).bind λas2=>(A.aU x5).bind λas3=>(A.aF 0 as3).bind λVD=>(A.cells 3 as2).bind λaqX=>(A.storeAt VD aqX IT.2.2).bind λUF=>(A.aU x5).bind λVE=>(A.aF 6 VE).bind λVF=>((A.cell a3).bind λv=>some [v]).bind λaqY=>(A.storeAt VF aqY UF).bind λaqZ=>(A.aU x5).bind λas7=>(A.aF 9 as7).bind λas8=>((A.cell (AV.om mI.2.length)).bind λv=>some [v]).bind λaq1=>(A.storeAt as8 aq1 aqZ).bind λaq2=>(A.aU x5).bind λVG=>(A.aF 8 VG).bind λata=>((A.cell (AV.ah (-1))).bind λv=>some [v]).bind λaq4=>(A.storeAt ata aq4 aq2).bind λUH=>((A.lb (aj IT.2.1 0)).bind λ_=>some (9)).bind λasj=>((A.lb (aj IT.2.1 0)).bind λaq5=>A.ak asj aq5).bind λVH=>(A.geq VH (AV.ah 0)).bind λC1=>(A.guard C1 true (some a3) ay).bind λVI=>(A.guard C1 true (A.add VI (AV.ah 1)) ay).bind λVJ=>(A.guard C1 true (some x5) ay).bind λVK=>(A.guard C1 true (A.aU VK) ay).bind λVL=>(A.guard C1 true (A.aF 5 VL) ay).bind λate=>(A.guard C1 true ((A.deref ate UH).bind λUI=>A.ak 0 UI) ay).bind λVM=>(A.guard C1 true (A.bR VM) ay).bind λVN=>(A.guard C1 true (A.lss VJ VN) ay).bind λVO=>(A.pick C1 VO aO).bind λatg=>(A.cond atg (((A.lb (aj IT.2.1 0)).bind λ_=>some (9)).bind λasl=>((A.lb (aj IT.2.1 0)).bind λara=>A.ak asl ara).bind λati=>(A.add mI.1 ati).bind λVP=>(A.aU x5).bind λatj=>(A.aF 8 atj).bind λVQ=>((A.cell VP).bind λv=>some [v]).bind λUJ=>(A.storeAt VQ UJ UH).bind λarb=>some (([]:au),arb)) (some (([]:au),UH))).bind λasu=>A.CJ σ (AV.aM []) asu.2)else none)else none
noncomputable def vL:au→Heap→aH:=A.wrap false [] .k (A.Gd QO)
noncomputable def MY (a0 a1:AV) (σ:Heap):aH:=(A.aU a0).bind λx1=>(A.aF 0 x1).bind λx2=>((A.deref x2 σ).bind λc3=>A.aB 0 4 c3).bind λx4=>(A.cells 4 x4).bind λc5=>(A.storeAt (AV.op σ.length 0) c5 (σ++[aS.box [AV.az,(AV.ah 0),(AV.ah 0),aO]])).bind λc6=>(A.aF 0 (AV.op σ.length 0)).bind λx7=>((A.deref x7 c6).bind λc8=>A.ak 0 c8).bind λx9=>(G3 [x9] c6).bind λlR=>(A.aF 0 (AV.op σ.length 0)).bind λdJ=>((A.cell lR.1).bind λv=>some [v]).bind λfJ=>(A.storeAt dJ fJ lR.2).bind λkn=>(A.loop (λWO Dp=>(A.aF 0 (AV.op σ.length 0)).bind λdD=>((A.deref dD Dp).bind λjm=>A.ak 0 jm).bind λeC=>(A.bR eC).bind λep=>(A.loop (λv21 vG=>(A.lss (aj v21 3) ep).bind λx24=>A.cond x24 ((A.aF 0 (AV.op σ.length 0)).bind λx25=>((A.deref x25 vG).bind λiC=>A.ak 0 iC).bind λeU=>(A.aY 10 eU (aj v21 3)).bind λx28=>(zf [x28] vG).bind λi6=>(A.geq i6.1 (AV.ah 0)).bind λdO=>(A.guard dO true (some i6.1) ay).bind λx31=>(A.guard dO true (some a1) ay).bind λx32=>(A.guard dO true (A.leq x31 x32) ay).bind λeW=>(A.pick dO eW aO).bind λx34=>(A.guard x34 true (some (aj v21 1)) ay).bind λjc=>(A.guard x34 true (A.lss jc (AV.ah 0)) ay).bind λfG=>(A.guard x34 true (some fG) ay).bind λcK=>(A.guard cK false (some i6.1) ay).bind λx38=>(A.guard cK false (some (aj v21 2)) ay).bind λgj=>(A.guard cK false (A.lss x38 gj) ay).bind λdV=>(A.guard x34 true (A.pick cK dR dV) ay).bind λeX=>(A.pick x34 eX aO).bind λgz=>(A.cond gz (some ([(aj v21 0),(aj v21 3),i6.1],i6.2)) (some ([(aj v21 0),(aj v21 1),(aj v21 2)],i6.2))).bind λkJ=>(A.add (aj v21 3) (AV.ah 1)).bind λeY=>some (AX.normal,[(aj kJ.1 0),(aj kJ.1 1),(aj kJ.1 2),eY],kJ.2)) (some (AX.exit 2,[(aj v21 0),(aj v21 1),(aj v21 2),(aj v21 3)],vG))) [(aj WO 0),(AV.ah (-1)),(AV.ah 0),(AV.ah 0)] Dp).bind λiX=>bif iX.1==AX.exit 2 then((A.lss (aj iX.2.1 1) (AV.ah 0)).bind λgP=>A.cond gP (((A.deref (AV.op σ.length 0) iX.2.2).bind λiD=>A.aB 0 4 iD).bind λgK=>(A.lb (aj iX.2.1 0)).bind λpG=>(A.cells 4 gK).bind λC2=>(A.aq 0 C2 pG).bind λqJ=>some (AX.ret,[(AV.lbx qJ)],iX.2.2)) ((A.aF 1 (AV.op σ.length 0)).bind λeP=>((A.deref eP iX.2.2).bind λqK=>A.ak 0 qK).bind λgL=>(A.add gL (AV.ah 1)).bind λjU=>(A.aF 1 (AV.op σ.length 0)).bind λfH=>((A.cell jU).bind λv=>some [v]).bind λjo=>(A.storeAt fH jo iX.2.2).bind λjh=>(A.aF 0 (AV.op σ.length 0)).bind λfK=>((A.deref fK jh).bind λrJ=>A.ak 0 rJ).bind λjF=>(A.aY 10 jF (aj iX.2.1 1)).bind λfc=>(A.aF 6 fc).bind λgW=>((A.deref gW jh).bind λsS=>A.ak 0 sS).bind λiH=>(A.add iH (AV.ah 1)).bind λgG=>(vL [a0,(AV.op σ.length 0),(aj iX.2.1 1),gG,(aj iX.2.1 2)] jh).bind λfQ=>some (AX.normal,[(aj iX.2.1 0)],fQ.2)))else none) [(AV.lbx [AV.az,(AV.ah 0),(AV.ah 0),aO])] kn).bind λDn=>bif Dn.1==AX.ret then(((A.lb (aj Dn.2.1 0)).bind λyQ=>A.aB 0 4 yQ).bind λgX=>some (gX,Dn.2.2))else none
noncomputable def Dy:au→Heap→aH:=A.wrap false [] .k (A.dI MY)
noncomputable def Xm (a0 a1:AV) (σ:Heap):aH:=(A.cells 10 a0).bind λc1=>(A.ak 3 c1).bind λx2=>(A.aF 2 a1).bind λx3=>((A.deref x3 σ).bind λc4=>A.ak 0 c4).bind λx5=>(A.eql .i x2 x5).bind λx6=>A.fin σ x6 σ
noncomputable def Dv:au→Heap→aH:=A.wrap true [(.a [.k,.k,.k,.k,.k,(.s 11),.k,.k,.k,.k])] .k (A.dI Xm)
noncomputable def Xn (a0 a1:AV) (σ:Heap):aH:=(A.cells 11 a0).bind λc1=>(A.ak 0 c1).bind λx2=>(A.aF 3 a1).bind λx3=>((A.deref x3 σ).bind λc4=>A.ak 0 c4).bind λx5=>(A.eql .i x2 x5).bind λx6=>A.fin σ x6 σ
noncomputable def Dw:au→Heap→aH:=A.wrap true [(.a [.k,.k,.k,.k,.k,.k,.k,(.s 2),.k,.k,(.s 8)])] .k (A.dI Xn)
noncomputable def Qu (a0 a1 a2 a3:AV) (σ:Heap):aH:=(A.cells 5 a3).bind λc1=>(A.aU a2).bind λx2=>(A.aF 0 x2).bind λx3=>((A.deref x3 σ).bind λc4=>A.aB 0 3 c4).bind λx5=>(A.ak 0 c1).bind λx6=>(A.quiet (uF [x5,x6] σ) σ).bind λx7=>(A.aU a2).bind λx8=>(A.aF 9 x8).bind λx9=>((A.deref x9 (σ++[aS.map []])).bind λfL=>A.ak 0 fL).bind λdJ=>(A.yt dJ).bind λars=>A.Cn (λtg AH Wz=>A.vU (AV.op (σ++[aS.map []]).length 0) AH λdg mX=>(A.ext 0 dg).bind λcI=>A.cond cI ((A.yq (AV.op (σ++[aS.map []]).length 0) mX).bind λeC=>(A.ext 0 eC).bind λep=>(A.cells 2 ep).bind λlB=>(A.aq 0 lB [(AV.ah 0),bA]).bind λiU=>(A.aB 0 2 iU).bind λfC=>(oJ [a2,fC,x7] mX).bind λwF=>(A.ext 0 wF.1).bind λx25=>(A.ext 1 wF.1).bind λgh=>(A.cells 9 x25).bind λko=>(A.aq 0 ko [(AV.ah 0),(AV.ah 0),(AV.ah 0),(AV.ah 0),(AV.ah 0),(AV.ah 0),AV.az,(AV.ah 0),aO]).bind λlM=>(A.not gh).bind λx29=>(A.guard x29 false (some a0) ay).bind λdO=>(A.guard x29 false (A.aU dO) ay).bind λx31=>(A.guard x29 false (A.aF 10 x31) ay).bind λx32=>(A.guard x29 false ((A.deref x32 wF.2).bind λGl=>A.ak 0 Gl) ay).bind λx34=>(A.guard x29 false (A.aB 0 2 iU) ay).bind λjc=>(A.guard x29 false (A.look (.s [0,2]) x34 jc (AV.agg [bA,(AV.ah 0),(AV.ah 0),(AV.ah 0),(AV.ah 0),aO,AV.az]) wF.2) ay).bind λfG=>(A.guard x29 false ((A.cells 7 fG).bind λiu=>A.ak 1 iu) ay).bind λx38=>(A.guard x29 false (A.neq .i x38 (AV.ah 1)) ay).bind λgj=>(A.pick x29 dR gj).bind λdV=>A.cond dV (Wz (AX.normal,[(aj tg 0)],wF.2)) ((A.aB 0 2 iU).bind λeX=>(A.aB 0 9 lM).bind λgz=>(A.quiet (xZ [gz,x7] wF.2) wF.2).bind λfk=>((A.lb (aj tg 0)).bind λ_=>some (4)).bind λp44=>((A.lb (aj tg 0)).bind λAj=>A.ak p44 Aj).bind λgP=>((((A.cell (AV.ah 1)).bind λv=>some [v]).bind λiD=>(A.aq 0 iD [(AV.ah 0),AV.az]).bind λsQ=>some sQ).bind λcs=>some (AV.agg cs)).bind λeZ=>((((A.cell fk).bind λv=>some [v]).bind λqJ=>(A.aq 0 qJ [(AV.ah 0),(AV.ah 0),(AV.ah 0),(AV.ah 0),(AV.ah 0),(AV.ah 0),AV.az]).bind λpG=>((A.cell x7).bind λv=>some [v]).bind λLv=>(A.aq 2 Lv pG).bind λqK=>((A.cell gP).bind λv=>some [v]).bind λyP=>(A.aq 4 yP qK).bind λjS=>(A.cells 2 eZ).bind λsR=>(A.aq 5 sR jS).bind λjo=>some jo).bind λcs=>some (AV.agg cs)).bind λiG=>(A.quiet (yc [iG] wF.2) wF.2).bind λfK=>(A.aU a1).bind λjE=>(A.aF 1 jE).bind λjF=>((A.deref jF wF.2).bind λc62=>A.ak 0 c62).bind λgW=>(((A.cells 7 fK).bind λsS=>(A.aq 0 sS [(AV.ah 0),(AV.ah 0),(AV.ah 0),(AV.ah 0),(AV.ah 0),(AV.ah 0),AV.az,(AV.ah 0),aO]).bind λAk=>((A.cell gW).bind λv=>some [v]).bind λVW=>(A.aq 7 VW Ak).bind λAl=>((A.cell dR).bind λv=>some [v]).bind λLw=>(A.aq 8 Lw Al).bind λnW=>some nW).bind λcs=>some (AV.agg cs)).bind λgM=>(A.fV (.s [0,2]) (AV.om σ.length) eX gM wF.2).bind λPB=>Wz (AX.normal,[(aj tg 0)],PB))) (Wz (AX.exit 0,[(aj tg 0)],mX))) [(AV.lbx c1)] ((σ++[aS.map []])++[aS.it [] ars]) λPZ=>bif PZ.1==AX.exit 0 then(((A.lb (aj PZ.2.1 0)).bind λ_=>some (0)).bind λp73=>((A.lb (aj PZ.2.1 0)).bind λVX=>A.ak p73 VX).bind λfP=>((((A.cell x7).bind λv=>some [v]).bind λqM=>(A.aq 0 qM [(AV.ah 0),(AV.ah 0),aO]).bind λnY=>((A.cell fP).bind λv=>some [v]).bind λnr=>(A.aq 1 nr nY).bind λC4=>((A.cell aO).bind λv=>some [v]).bind λxJ=>(A.aq 2 xJ C4).bind λpH=>some pH).bind λcs=>some (AV.agg cs)).bind λnD=>(A.aU a2).bind λnN=>(A.aF 0 nN).bind λAL=>(A.cells 3 nD).bind λsU=>(A.storeAt AL sU PZ.2.2).bind λqN=>(A.aU a2).bind λpP=>(A.aF 6 pP).bind λkG=>((A.cell (AV.ah (-1))).bind λv=>some [v]).bind λmD=>(A.storeAt kG mD qN).bind λmE=>(A.aU a2).bind λx91=>(A.aF 8 x91).bind λnE=>((A.cell (AV.ah (-1))).bind λv=>some [v]).bind λuo=>(A.storeAt nE uo mE).bind λn5=>(A.aU a2).bind λx95=>(A.aF 9 x95).bind λx96=>((A.cell (AV.om σ.length)).bind λv=>some [v]).bind λAm=>(A.storeAt x96 Am n5).bind λn9=>A.CJ σ (AV.aM []) n9)else none
noncomputable def Jr:au→Heap→aH:=A.wrap false [] .k (A.vg Qu)
noncomputable def XA (a0 a1:AV) (σ:Heap):aH:=(JD [a1] σ).bind λr1=>(A.not r1.1).bind λx2=>(rP [x2,(AV.ah 1)] r1.2).bind λr3=>(qV [a0] r3.2).bind λr4=>(A.lss a1 r4.1).bind λx5=>(rP [x5,(AV.ah 7)] r4.2).bind λr6=>((((A.cell r3.1).bind λv=>some [v]).bind λc7=>(A.aq 0 c7 [(AV.ah 0),(AV.ah 0)]).bind λc8=>((A.cell r6.1).bind λv=>some [v]).bind λc9=>(A.aq 1 c9 c8).bind λfL=>some fL).bind λcs=>some (AV.sl 1 (fI 1 2 cs))).bind λdJ=>(ya [dJ] r6.2).bind λjk=>A.fin σ jk.1 jk.2
noncomputable def EU:au→Heap→aH:=A.wrap true [(.p Gb)] .k (A.dI XA)
noncomputable def Xw (a0 a1 a2 a3:AV) (σ:Heap):aH:=(A.cells 2 a2).bind λc1=>(A.aB 0 2 c1).bind λx2=>(Dx [a0,a1,x2,a3] σ).bind λr3=>(A.ext 0 r3.1).bind λx4=>(A.ext 1 r3.1).bind λx5=>(A.aU a0).bind λx6=>(A.aF 10 x6).bind λx7=>((A.deref x7 r3.2).bind λc8=>A.ak 0 c8).bind λx9=>(A.aB 0 2 c1).bind λbX=>(A.look (.s [0,2]) x9 bX (AV.agg [bA,(AV.ah 0),(AV.ah 0),(AV.ah 0),(AV.ah 0),aO,AV.az]) r3.2).bind λdJ=>((A.cells 7 dJ).bind λfJ=>A.ak 1 fJ).bind λeB=>(A.neq .i eB (AV.ah 1)).bind λdY=>A.cond dY (A.fin σ x4 r3.2) ((A.aU a1).bind λdK=>(A.aF 3 dK).bind λdg=>((A.deref dg r3.2).bind λpq=>A.ak 0 pq).bind λcI=>A.cond cI (A.fin σ (AV.ah 0) r3.2) ((A.aU a1).bind λeC=>(A.aF 2 eC).bind λep=>((A.deref ep r3.2).bind λlB=>A.ak 0 lB).bind λeu=>(EY [x4,eu] r3.2).bind λqh=>(A.ext 0 qh.1).bind λx24=>(A.ext 1 qh.1).bind λx25=>A.fin σ x24 qh.2))
noncomputable def ET:au→Heap→aH:=A.wrap true [(.p Gb),(.p [(.s 10),.k,.k,.k])] .k (A.vg Xw)
noncomputable def MS (a0 a1:AV) (σ:Heap):aH:=(EU [a0,a1] σ).bind λr1=>(A.neq .i r1.1 (AV.ah 0)).bind λx2=>A.cond x2 (some ((AV.aM [AV.az,r1.1]),r1.2)) ((Dy [a0,a1] r1.2).bind λr3=>(A.cells 4 r3.1).bind λc4=>(A.storeAt (AV.op r3.2.length 0) c4 (r3.2++[aS.box [AV.az,(AV.ah 0),(AV.ah 0),aO]])).bind λc5=>(A.aU a0).bind λx6=>(A.aF 9 x6).bind λx7=>((A.deref x7 c5).bind λc8=>A.ak 0 c8).bind λx9=>(A.bR x9).bind λbX=>(A.loop (λv11 mK=>(A.lss (aj v11 1) bX).bind λdY=>A.cond dY ((A.aY 2 x9 (aj v11 1)).bind λdK=>((A.deref dK mK).bind λpg=>A.aB 0 2 pg).bind λdD=>(A.cells 2 dD).bind λjm=>(A.aq 0 jm [(AV.ah 0),bA]).bind λiM=>(A.aB 0 2 iM).bind λep=>(A.aB 0 2 iM).bind λcN=>(A.quiet (ET [a0,(AV.op r3.2.length 0),cN,a1] mK) mK).bind λeu=>(((A.cells 2 ep).bind λgd=>(A.aq 0 gd [(AV.ah 0),bA,(AV.ah 0)]).bind λiB=>((A.cell eu).bind λv=>some [v]).bind λgE=>(A.aq 2 gE iB).bind λiC=>some iC).bind λcs=>some (AV.agg cs)).bind λeU=>(((A.cells 3 eU).bind λlM=>(A.aq 0 lM [(AV.ah 0),bA,(AV.ah 0)]).bind λum=>some um).bind λcs=>some (AV.sl 3 (fI 3 1 cs))).bind λdO=>(A.append 3 (140737488355328 / 32) (aj v11 0) dO mK).bind λvE=>(A.add (aj v11 1) (AV.ah 1)).bind λx32=>some (AX.normal,[vE.1,x32],vE.2)) (some (AX.exit 0,[(aj v11 0),(aj v11 1)],mK))) [AV.az,(AV.ah 0)] c5).bind λpN=>bif pN.1==AX.exit 0 then(some ((AV.aM [(aj pN.2.1 0),(AV.ah 0)]),pN.2.2))else none)
noncomputable def AN:au→Heap→aH:=A.wrap false [] .k (A.dI MS)
noncomputable def G9 (a0:AV) (σ:Heap):aH:=(A.aU a0).bind λx1=>(A.aF 11 x1).bind λx2=>((A.deref x2 σ).bind λc3=>A.ak 0 c3).bind λx4=>(MG [x4] σ).bind λr5=>some (r5.1,r5.2)
noncomputable def ML:au→Heap→aH:=A.wrap false [] .k (A.dH G9)
noncomputable def Rk (a0:AV) (σ:Heap):aH:=(A.cells 5 a0).bind λc1=>(A.ak 4 c1).bind λx2=>((A.jB (.s 3) Qb) [x2] σ).bind λr3=>((((A.cell r3.1).bind λv=>some [v]).bind λc4=>(A.aq 4 c4 Cr).bind λc5=>some c5).bind λcs=>some (AV.agg cs)).bind λx6=>(A.cells 5 x6).bind λc7=>(A.aq 0 c7 Cr).bind λc8=>(A.ak 1 c1).bind λx9=>((A.jB (.s 4) Qh) [x9] r3.2).bind λlR=>((A.cell lR.1).bind λv=>some [v]).bind λiq=>(A.aq 1 iq c8).bind λfJ=>(A.ak 0 c1).bind λeB=>(A.bR eB).bind λdY=>(A.loop (λeO mL=>(A.lss (aj eO 3) dY).bind λcI=>A.cond cI ((A.aY 3 eB (aj eO 3)).bind λeC=>((A.deref eC mL).bind λjR=>A.aB 0 3 jR).bind λcN=>(A.cells 3 cN).bind λiU=>(A.aq 0 iU [bA,(AV.ah 0),AV.az]).bind λgd=>(A.ak 2 gd).bind λx24=>(G5 [x24] mL).bind λnA=>((A.cell nA.1).bind λv=>some [v]).bind λiC=>(A.aq 2 iC gd).bind λko=>(A.ak 2 ko).bind λx28=>(A.bR x28).bind λx29=>(A.loop (λv30 gJ=>(A.lss (aj v30 4) x29).bind λeW=>A.cond eW (((A.lb (aj v30 3)).bind λ_=>some (2)).bind λAu=>((A.lb (aj v30 3)).bind λgr=>A.ak Au gr).bind λfG=>((A.lb (aj v30 3)).bind λ_=>some (2)).bind λDi=>((A.lb (aj v30 3)).bind λlY=>A.ak Di lY).bind λgj=>(A.aY 7 gj (aj v30 4)).bind λdV=>(A.aF 6 dV).bind λeX=>((A.deref eX gJ).bind λmB=>A.ak 0 mB).bind λfk=>(A.quiet ((A.jB (.s 3) EM) [fk] gJ) gJ).bind λeY=>(A.aY 7 fG (aj v30 4)).bind λfO=>(A.aF 6 fO).bind λgP=>((A.cell eY).bind λv=>some [v]).bind λiD=>(A.storeAt gP iD gJ).bind λsQ=>(A.add (aj v30 4) (AV.ah 1)).bind λeZ=>some (AX.normal,[(aj v30 0),(aj v30 1),(aj v30 2),(aj v30 3),eZ],sQ)) (some (AX.exit 2,[(aj v30 0),(aj v30 1),(aj v30 2),(aj v30 3),(aj v30 4)],gJ))) [(aj eO 0),(aj eO 1),(aj eO 2),(AV.lbx ko),(AV.ah 0)] nA.2).bind λdN=>bif dN.1==AX.exit 2 then(((A.lb (aj dN.2.1 2)).bind λ_=>some (0)).bind λGF=>((A.lb (aj dN.2.1 2)).bind λ_=>some (GF)).bind λGG=>((A.lb (aj dN.2.1 2)).bind λqK=>A.ak GG qK).bind λgL=>((A.lb (aj dN.2.1 3)).bind λjS=>A.aB 0 3 jS).bind λfH=>(((A.cells 3 fH).bind λjo=>(A.aq 0 jo [bA,(AV.ah 0),AV.az]).bind λjh=>some jh).bind λcs=>some (AV.sl 3 (fI 3 1 cs))).bind λfK=>(A.append 3 (140737488355328 / 48) gL fK dN.2.2).bind λql=>((A.lb (aj dN.2.1 2)).bind λ_=>some (0)).bind λGH=>((A.lb (aj dN.2.1 2)).bind λ_=>some (GH)).bind λGI=>(A.lb (aj dN.2.1 2)).bind λAk=>((A.cell ql.1).bind λv=>some [v]).bind λqL=>(A.aq GI qL Ak).bind λsS=>(A.add (aj eO 3) (AV.ah 1)).bind λgG=>some (AX.normal,[(aj dN.2.1 0),(aj dN.2.1 1),(AV.lbx sS),gG],ql.2))else none) (some (AX.exit 0,[(aj eO 0),(aj eO 1),(aj eO 2),(aj eO 3)],mL))) [(AV.lbx c1),(AV.lbx Cr),(AV.lbx fJ),(AV.ah 0)] lR.2).bind λfQ=>bif fQ.1==AX.exit 0 then(((A.lb (aj fQ.2.1 0)).bind λ_=>some (2)).bind λp68=>((A.lb (aj fQ.2.1 0)).bind λnW=>A.ak p68 nW).bind λgM=>(A.bR gM).bind λmM=>(A.loop (λv72 vJ=>(A.lss (aj v72 3) mM).bind λfP=>A.cond fP ((A.aY 3 gM (aj v72 3)).bind λkD=>((A.deref kD vJ).bind λnY=>A.aB 0 3 nY).bind λkR=>(A.cells 3 kR).bind λC4=>(A.aq 0 C4 [(AV.ah 0),bA,AV.az]).bind λxJ=>(A.ak 2 xJ).bind λnC=>((A.jB (.s 3) GZ) [nC] vJ).bind λAD=>((A.cell AD.1).bind λv=>some [v]).bind λmC=>(A.aq 2 mC xJ).bind λjf=>((A.lb (aj v72 2)).bind λ_=>some (2)).bind λGL=>((A.lb (aj v72 2)).bind λqN=>A.ak GL qN).bind λpP=>(A.aB 0 3 jf).bind λkG=>(((A.cells 3 kG).bind λmD=>(A.aq 0 mD [(AV.ah 0),bA,AV.az]).bind λmE=>some mE).bind λcs=>some (AV.sl 3 (fI 3 1 cs))).bind λx91=>(A.append 3 (140737488355328 / 48) pP x91 AD.2).bind λAG=>((A.lb (aj v72 2)).bind λ_=>some (2)).bind λGN=>(A.lb (aj v72 2)).bind λGn=>((A.cell AG.1).bind λv=>some [v]).bind λn5=>(A.aq GN n5 Gn).bind λlC=>(A.add (aj v72 3) (AV.ah 1)).bind λAM=>some (AX.normal,[(aj v72 0),(aj v72 1),(AV.lbx lC),AM],AG.2)) (some (AX.exit 4,[(aj v72 0),(aj v72 1),(aj v72 2),(aj v72 3)],vJ))) [(aj fQ.2.1 0),(aj fQ.2.1 1),(aj fQ.2.1 2),(AV.ah 0)] fQ.2.2).bind λBK=>bif BK.1==AX.exit 4 then(((A.lb (aj BK.2.1 0)).bind λ_=>some (3)).bind λp99=>((A.lb (aj BK.2.1 0)).bind λsB=>A.ak p99 sB).bind λx101=>(A.bR x101).bind λx102=>(A.loop (λkj uZ=>(A.lss (aj kj 2) x102).bind λqC=>A.cond qC ((A.aY 2 x101 (aj kj 2)).bind λqD=>((A.deref qD uZ).bind λFL=>A.aB 0 2 FL).bind λqE=>(A.cells 2 qE).bind λFM=>(A.aq 0 FM [(AV.ah 0),AV.az]).bind λoQ=>(A.ak 1 oQ).bind λx112=>(EO [x112] uZ).bind λwo=>((A.cell wo.1).bind λv=>some [v]).bind λFO=>(A.aq 1 FO oQ).bind λxq=>(A.ak 1 xq).bind λF9=>(A.bR F9).bind λsO=>(A.loop (λeE iL=>(A.lss (aj eE 3) sO).bind λAd=>A.cond Ad (((A.lb (aj eE 2)).bind λ_=>some (1)).bind λCO=>((A.lb (aj eE 2)).bind λqw=>A.ak CO qw).bind λxB=>(A.aY 11 xB (aj eE 3)).bind λmh=>(A.aU mh).bind λAe=>(A.aF 10 Ae).bind λAf=>((A.deref Af iL).bind λnU=>A.ak 0 nU).bind λp7=>(A.quiet ((A.jB (.s 8) EN) [p7] iL) iL).bind λu9=>(A.aU mh).bind λxC=>(A.aF 6 xC).bind λoU=>(A.aF 1 oU).bind λqF=>((A.deref qF iL).bind λqx=>A.ak 0 qx).bind λxD=>(A.quiet ((A.jB (.s 2) wL) [xD] iL) iL).bind λqG=>(A.aU mh).bind λxE=>(A.aF 10 xE).bind λoV=>((A.cell u9).bind λv=>some [v]).bind λzL=>(A.storeAt oV zL iL).bind λzM=>(A.aU mh).bind λxF=>(A.aF 6 xF).bind λAh=>(A.aF 1 Ah).bind λoW=>((A.cell qG).bind λv=>some [v]).bind λCE=>(A.storeAt oW CE zM).bind λCF=>(A.add (aj eE 3) (AV.ah 1)).bind λCZ=>some (AX.normal,[(aj eE 0),(aj eE 1),(aj eE 2),CZ],CF)) (some (AX.exit 8,[(aj eE 0),(aj eE 1),(aj eE 2),(aj eE 3)],iL))) [(aj kj 0),(aj kj 1),(AV.lbx xq),(AV.ah 0)] wo.2).bind λkg=>bif kg.1==AX.exit 8 then(((A.lb (aj kg.2.1 1)).bind λ_=>some (3)).bind λF3=>((A.lb (aj kg.2.1 1)).bind λzN=>A.ak F3 zN).bind λx150=>((A.lb (aj kg.2.1 2)).bind λzO=>A.aB 0 2 zO).bind λx152=>(((A.cells 2 x152).bind λxx=>(A.aq 0 xx [(AV.ah 0),AV.az]).bind λFQ=>some FQ).bind λcs=>some (AV.sl 2 (fI 2 1 cs))).bind λC0=>(A.append 2 (140737488355328 / 32) x150 C0 kg.2.2).bind λAb=>((A.lb (aj kg.2.1 1)).bind λ_=>some (3)).bind λF4=>(A.lb (aj kg.2.1 1)).bind λzQ=>((A.cell Ab.1).bind λv=>some [v]).bind λwg=>(A.aq F4 wg zQ).bind λzP=>(A.add (aj kj 2) (AV.ah 1)).bind λGa=>some (AX.normal,[(aj kg.2.1 0),(AV.lbx zP),Ga],Ab.2))else none) (some (AX.exit 6,[(aj kj 0),(aj kj 1),(aj kj 2)],uZ))) [(aj BK.2.1 1),(aj BK.2.1 2),(AV.ah 0)] BK.2.2).bind λPq=>bif Pq.1==AX.exit 6 then(((A.lb (aj Pq.2.1 1)).bind λKP=>A.aB 0 5 KP).bind λVy=>(A.lb (aj Pq.2.1 0)).bind λCG=>(A.cells 5 Vy).bind λKQ=>(A.aq 0 KQ CG).bind λFR=>(A.aB 0 5 FR).bind λx168=>A.fin σ x168 Pq.2.2)else none)else none)else none
noncomputable def M9:au→Heap→aH:=A.wrap true [Bw] (.a [(.e 3 FG),(.s 4),(.e 3 [.k,.k,(.s 3)]),(.e 2 [.k,ve]),(.s 3)]) (A.dH Rk)
noncomputable def JS (a0:AV) (σ:Heap):aH:=(A.cells 5 a0).bind λc1=>(A.aB 0 5 c1).bind λx2=>(MV [x2] σ).bind λr3=>(A.neq .i r3.1 (AV.ah 0)).bind λx4=>A.cond x4 (some ((AV.aM [AV.np,r3.1]),r3.2)) ((A.aB 0 5 c1).bind λx5=>(M9 [x5] r3.2).bind λr6=>(A.cells 5 r6.1).bind λc7=>(A.aq 0 c7 c1).bind λc8=>(A.aB 0 5 c8).bind λx9=>(((A.cells 5 x9).bind λfL=>(A.aq 4 fL [AV.az,(AV.ah 0),(AV.ah 0),aO,AV.az,AV.az,AV.az,AV.az,AV.az,AV.az,AV.nm,AV.az]).bind λiq=>((A.cell (AV.om r6.2.length)).bind λv=>some [v]).bind λfJ=>(A.aq 10 fJ iq).bind λkn=>some kn).bind λcs=>some (AV.agg cs)).bind λdY=>(A.cells 12 dY).bind λmV=>(A.aU (AV.op (r6.2++[aS.map []]).length 0)).bind λdg=>(A.aF 0 dg).bind λdD=>(A.aF 2 dD).bind λcI=>((A.cell (AV.ah 65535)).bind λv=>some [v]).bind λiM=>(A.storeAt cI iM ((r6.2++[aS.map []])++[aS.box mV])).bind λjR=>(A.aB 0 2 c8).bind λcN=>(Hj [cN] jR).bind λGP=>(A.ext 0 GP.1).bind λfC=>(A.ext 1 GP.1).bind λx24=>(A.aU (AV.op (r6.2++[aS.map []]).length 0)).bind λx25=>(A.aF 9 x25).bind λgh=>((A.cell fC).bind λv=>some [v]).bind λko=>(A.storeAt gh ko GP.2).bind λlM=>(A.ak 0 c8).bind λx29=>(A.bR x29).bind λdO=>(A.loop (λv31 vH=>(A.lss (aj v31 1) dO).bind λx34=>A.cond x34 ((A.aY 3 x29 (aj v31 1)).bind λjc=>((A.deref jc vH).bind λjJ=>A.aB 0 3 jJ).bind λcK=>(A.cells 3 cK).bind λlY=>(A.aq 0 lY [bA,(AV.ah 0),AV.az]).bind λoC=>(A.ak 0 oC).bind λdV=>(A.aB 0 3 oC).bind λeX=>(A.fV .z (AV.om lM.length) dV eX vH).bind λLD=>(A.add (aj v31 1) (AV.ah 1)).bind λfk=>some (AX.normal,[(aj v31 0),fk],LD)) (some (AX.exit 0,[(aj v31 0),(aj v31 1)],vH))) [(AV.lbx c8),(AV.ah 0)] (lM++[aS.map []])).bind λfF=>bif fF.1==AX.exit 0 then(((A.lb (aj fF.2.1 0)).bind λ_=>some (0)).bind λp45=>((A.lb (aj fF.2.1 0)).bind λ_=>some ((p45+1))).bind λvC=>((A.lb (aj fF.2.1 0)).bind λiD=>A.ak vC iD).bind λgK=>(A.bR gK).bind λeZ=>(A.loop (λv50 wJ=>(A.lss (aj v50 1) eZ).bind λiy=>A.cond iy ((A.aY 4 gK (aj v50 1)).bind λgL=>((A.deref gL wJ).bind λjS=>A.aB 0 4 jS).bind λfH=>(A.cells 4 fH).bind λjo=>(A.aq 0 jo [(AV.ah 0),bA,(AV.ah 0),(AV.ah 0)]).bind λjh=>(A.ak 1 jh).bind λfK=>(A.look .z (AV.om lM.length) fK (AV.agg [bA,(AV.ah 0),AV.az]) wJ).bind λjE=>((A.cells 3 jE).bind λnj=>A.ak 2 nj).bind λfc=>(A.bR fc).bind λgW=>(A.loop (λv64 i7=>(A.lss (aj v64 2) gW).bind λkC=>A.cond kC ((A.aY 7 fc (aj v64 2)).bind λiI=>((A.deref iI i7).bind λnW=>A.aB 0 7 nW).bind λgM=>(A.cells 7 gM).bind λnK=>(A.aq 0 nK [bA,(AV.ah 0),(AV.ah 0),(AV.ah 0),(AV.ah 0),aO,AV.az]).bind λlN=>(A.aU (AV.op (r6.2++[aS.map []]).length 0)).bind λiz=>(A.aF 10 iz).bind λjr=>((A.deref jr i7).bind λnX=>A.ak 0 nX).bind λkD=>((A.lb (aj v64 1)).bind λ_=>some (0)).bind λpL=>((A.lb (aj v64 1)).bind λnr=>A.ak pL nr).bind λkE=>(A.ak 0 lN).bind λgm=>((((A.cell kE).bind λv=>some [v]).bind λpH=>(A.aq 0 pH [(AV.ah 0),bA]).bind λnu=>((A.cell gm).bind λv=>some [v]).bind λmC=>(A.aq 1 mC nu).bind λjf=>some jf).bind λcs=>some (AV.agg cs)).bind λkF=>(A.aB 0 7 lN).bind λlH=>(A.fV (.s [0,2]) kD kF lH i7).bind λxO=>(A.add (aj v64 2) (AV.ah 1)).bind λkG=>some (AX.normal,[(aj v64 0),(aj v64 1),kG],xO)) (some (AX.exit 4,[(aj v64 0),(aj v64 1),(aj v64 2)],i7))) [(aj v50 0),(AV.lbx jh),(AV.ah 0)] wJ).bind λAF=>bif AF.1==AX.exit 4 then((A.add (aj v50 1) (AV.ah 1)).bind λx90=>some (AX.normal,[(aj AF.2.1 0),x90],AF.2.2))else none) (some (AX.exit 2,[(aj v50 0),(aj v50 1)],wJ))) [(aj fF.2.1 0),(AV.ah 0)] fF.2.2).bind λBJ=>bif BJ.1==AX.exit 2 then(((A.lb (aj BJ.2.1 0)).bind λ_=>some (4)).bind λp92=>((A.lb (aj BJ.2.1 0)).bind λuo=>A.ak p92 uo).bind λuD=>(A.bR uD).bind λx95=>(A.loop (λlF vK=>(A.lss (aj lF 1) x95).bind λx99=>A.cond x99 ((A.aY 3 uD (aj lF 1)).bind λqB=>((A.deref qB vK).bind λsC=>A.aB 0 3 sC).bind λx102=>(A.cells 3 x102).bind λCv=>(A.aq 0 Cv [(AV.ah 0),(AV.ah 0),(AV.ah 0)]).bind λuV=>((A.lb (aj lF 0)).bind λzJ=>A.aB 0 5 zJ).bind λqC=>(A.ak 1 uV).bind λqD=>(DC [qC,qD] vK).bind λqA=>(A.ext 0 qA.1).bind λqE=>(A.ext 1 qA.1).bind λCU=>(A.cells 2 qE).bind λoQ=>(A.aq 0 oQ [(AV.ah 0),AV.az]).bind λFN=>(A.aU (AV.op (r6.2++[aS.map []]).length 0)).bind λx113=>(A.aF 0 x113).bind λx114=>(A.aF 0 x114).bind λx115=>((A.deref x115 qA.2).bind λxu=>A.ak 0 xu).bind λsO=>(A.ak 0 uV).bind λAc=>(A.ak 2 uV).bind λCV=>(A.ak 1 FN).bind λCW=>((((A.cell Ac).bind λv=>some [v]).bind λsD=>(A.aq 3 sD [(AV.ah 0),(AV.ah 0),aO,(AV.ah 0),(AV.ah 0),AV.az,(AV.ah 0),(AV.ah 0),(AV.ah 0),AV.nm]).bind λCw=>((A.cell CV).bind λv=>some [v]).bind λqw=>(A.aq 4 qw Cw).bind λCx=>((A.cell CW).bind λv=>some [v]).bind λzK=>(A.aq 5 zK Cx).bind λxw=>((A.cell (AV.ah (-1))).bind λv=>some [v]).bind λud=>(A.aq 6 ud xw).bind λnU=>((A.cell (AV.ah 65535)).bind λv=>some [v]).bind λCy=>(A.aq 7 Cy nU).bind λCz=>((A.cell (AV.ah (-1))).bind λv=>some [v]).bind λCA=>(A.aq 8 CA Cz).bind λCB=>some CB).bind λcs=>some (AV.agg cs)).bind λqF=>(((A.cells 10 qF).bind λqx=>(A.aq 0 qx [(AV.ah 0),(AV.ah 0),aO,(AV.ah 0),(AV.ah 0),AV.az,(AV.ah 0),(AV.ah 0),(AV.ah 0),AV.nm]).bind λCC=>some CC).bind λcs=>some (AV.sl 10 (fI 10 1 cs))).bind λqG=>(A.append 10 (140737488355328 / 96) sO qG qA.2).bind λAa=>(A.aU (AV.op (r6.2++[aS.map []]).length 0)).bind λoV=>(A.aF 0 oV).bind λCX=>(A.aF 0 CX).bind λCY=>((A.cell Aa.1).bind λv=>some [v]).bind λFP=>(A.storeAt CY FP Aa.2).bind λCD=>(A.add (aj lF 1) (AV.ah 1)).bind λoW=>some (AX.normal,[(aj lF 0),oW],CD)) (some (AX.exit 6,[(aj lF 0),(aj lF 1)],vK))) [(aj BJ.2.1 0),(AV.ah 0)] BJ.2.2).bind λaex=>bif aex.1==AX.exit 6 then(some ((AV.aM [(AV.op (r6.2++[aS.map []]).length 0),(AV.ah 0)]),aex.2.2))else none)else none)else none)
noncomputable def HD:au→Heap→aH:=A.wrap true [Bw] .k (A.dH JS)
noncomputable def Hh (a0 a1 a2:AV) (σ:Heap):aH:=((A.cells 5 a2).bind λcs=>some (AV.rp cs)).bind λx1=>(A.aF 1 x1).bind λx2=>((A.deref x2 σ).bind λc3=>A.ak 0 c3).bind λx4=>(A.eql .i x4 (AV.ah 8)).bind λx5=>A.cond x5 ((A.aU a1).bind λx6=>(A.aF 1 x6).bind λx7=>((A.deref x7 σ).bind λc8=>A.ak 0 c8).bind λx9=>(A.add x9 (AV.ah 1)).bind λbX=>(A.aU a1).bind λdJ=>(A.aF 1 dJ).bind λdS=>((A.cell bX).bind λv=>some [v]).bind λkn=>(A.storeAt dS kn σ).bind λlz=>(A.aF 4 x1).bind λdK=>((A.deref dK lz).bind λpg=>A.ak 0 pg).bind λdD=>(A.aU a1).bind λcI=>(A.aF 2 cI).bind λeC=>((A.cell dD).bind λv=>some [v]).bind λjR=>(A.storeAt eC jR lz).bind λlB=>some ((AV.ah 0),lB)) ((A.eql .i x4 (AV.ah 9)).bind λeu=>A.cond eu ((A.aU a1).bind λfC=>(A.aF 1 fC).bind λx24=>((A.deref x24 σ).bind λgE=>A.ak 0 gE).bind λgh=>(A.add gh (AV.ah 1)).bind λeU=>(A.aU a1).bind λx28=>(A.aF 1 x28).bind λx29=>((A.cell eU).bind λv=>some [v]).bind λvi=>(A.storeAt x29 vi σ).bind λyO=>(A.aF 4 x1).bind λx32=>((A.deref x32 yO).bind λGl=>A.ak 0 Gl).bind λx34=>(A.eql .i x34 (AV.ah 1)).bind λjc=>(A.aU a1).bind λfG=>(A.aF 3 fG).bind λcK=>((A.cell jc).bind λv=>some [v]).bind λlY=>(A.storeAt cK lY yO).bind λoC=>some ((AV.ah 0),oC)) ((A.aU a1).bind λdV=>(A.aF 0 dV).bind λeX=>((A.deref eX σ).bind λmB=>A.ak 0 mB).bind λfk=>(Du (A.tab (λ_ _=>none) [(352,Dv),(354,Dw)]) [fk,(AV.fn 352 [x1])] σ).bind λfF=>(A.aU a1).bind λfO=>(A.aF 0 fO).bind λgP=>((A.deref gP fF.2).bind λiD=>A.ak 0 iD).bind λgK=>(A.aY 10 gK fF.1).bind λeZ=>(A.aF 1 x1).bind λlG=>((A.deref lG fF.2).bind λpG=>A.ak 0 pG).bind λeP=>(A.eql .i eP (AV.ah 1)).bind λiy=>A.cond iy ((A.aU eZ).bind λgL=>(A.aF 6 gL).bind λjU=>((A.deref jU fF.2).bind λsR=>A.ak 0 sR).bind λmq=>(A.add mq (AV.ah 1)).bind λiG=>(A.aU eZ).bind λfK=>(A.aF 5 fK).bind λjE=>((A.deref jE fF.2).bind λnj=>A.ak 0 nj).bind λfc=>(A.bR fc).bind λgW=>(A.eql .i iG gW).bind λku=>A.cond ku (some ((AV.ah 8),fF.2)) ((A.aU a1).bind λiH=>(A.aF 1 iH).bind λgG=>((A.deref gG fF.2).bind λAl=>A.ak 0 Al).bind λiI=>(A.add iI (AV.ah 1)).bind λgX=>(A.aU a1).bind λgM=>(A.aF 1 gM).bind λmM=>((A.cell gX).bind λv=>some [v]).bind λlN=>(A.storeAt mM lN fF.2).bind λLx=>(A.geq iG (AV.ah 0)).bind λjr=>(A.cond jr ((A.aF 0 x1).bind λkD=>((A.deref kD Lx).bind λnY=>A.ak 0 nY).bind λkR=>(vL [a0,a1,fF.1,iG,kR] Lx).bind λlE=>some (([]:au),lE.2)) (some (([]:au),Lx))).bind λr75=>some ((AV.ah 0),r75.2))) ((A.eql .i eP (AV.ah 2)).bind λgm=>A.cond gm ((A.aU eZ).bind λnC=>(A.aF 6 nC).bind λnD=>((A.deref nD fF.2).bind λmC=>A.ak 0 mC).bind λAL=>(A.sub AL (AV.ah 1)).bind λkF=>(A.lss kF (AV.ah 0)).bind λlH=>A.cond lH (some ((AV.ah 8),fF.2)) ((A.aU a1).bind λpP=>(A.aF 1 pP).bind λkG=>((A.deref kG fF.2).bind λmD=>A.ak 0 mD).bind λx90=>(A.add x90 (AV.ah 1)).bind λx91=>(A.aU a1).bind λnE=>(A.aF 1 nE).bind λx93=>((A.cell x91).bind λv=>some [v]).bind λn5=>(A.storeAt x93 n5 fF.2).bind λlC=>(A.geq kF (AV.ah 0)).bind λx96=>(A.cond x96 ((A.aF 0 x1).bind λx98=>((A.deref x98 lC).bind λsW=>A.ak 0 sW).bind λqB=>(vL [a0,a1,fF.1,kF,qB] lC).bind λyL=>some (([]:au),yL.2)) (some (([]:au),lC))).bind λr97=>some ((AV.ah 0),r97.2))) ((A.eql .i eP (AV.ah 3)).bind λx102=>A.cond x102 ((A.aU eZ).bind λyN=>(A.aF 5 yN).bind λx104=>((A.deref x104 fF.2).bind λzJ=>A.ak 0 zJ).bind λqC=>(Jl (A.tab (λ_ _=>none) [(352,Dv),(354,Dw)]) [qC,(AV.fn 354 [x1])] fF.2).bind λIS=>(A.lss IS.1 (AV.ah 0)).bind λF8=>A.cond F8 (some ((AV.ah 8),IS.2)) ((A.aU a1).bind λqE=>(A.aF 1 qE).bind λCU=>((A.deref CU IS.2).bind λoQ=>A.ak 0 oQ).bind λx112=>(A.add x112 (AV.ah 1)).bind λx113=>(A.aU a1).bind λx114=>(A.aF 1 x114).bind λx115=>((A.cell x113).bind λv=>some [v]).bind λxu=>(A.storeAt x115 xu IS.2).bind λKM=>(A.geq IS.1 (AV.ah 0)).bind λAc=>(A.cond Ac ((A.aF 0 x1).bind λCW=>((A.deref CW KM).bind λsD=>A.ak 0 sD).bind λLp=>(vL [a0,a1,fF.1,IS.1,Lp] KM).bind λrG=>some (([]:au),rG.2)) (some (([]:au),KM))).bind λaso=>some ((AV.ah 0),aso.2))) ((A.eql .i eP (AV.ah 4)).bind λxB=>A.cond xB ((A.aU eZ).bind λmh=>(A.aF 0 mh).bind λAe=>(A.aF 2 Ae).bind λAf=>((A.deref Af fF.2).bind λnU=>A.ak 0 nU).bind λp7=>(A.guard p7 false (some eZ) ay).bind λu9=>(A.guard p7 false (A.aU u9) ay).bind λxC=>(A.guard p7 false (A.aF 6 xC) ay).bind λoU=>(A.guard p7 false ((A.deref oU fF.2).bind λaqC=>A.ak 0 aqC) ay).bind λVt=>(A.guard p7 false (A.lss Vt (AV.ah 0)) ay).bind λxD=>(A.pick p7 dR xD).bind λqG=>A.cond qG (some ((AV.ah 10),fF.2)) ((A.aU eZ).bind λxE=>(A.aF 0 xE).bind λoV=>((A.deref oV fF.2).bind λzL=>A.aB 0 3 zL).bind λCY=>(A.aF 0 x1).bind λxF=>((A.deref xF fF.2).bind λCD=>A.ak 0 CD).bind λoW=>(A.quiet (uF [CY,oW] fF.2) fF.2).bind λVu=>(A.aF 0 x1).bind λVv=>((A.deref Vv fF.2).bind λaqE=>A.ak 0 aqE).bind λVw=>((((A.cell Vu).bind λv=>some [v]).bind λUz=>(A.aq 0 Uz [(AV.ah 0),(AV.ah 0),aO]).bind λzN=>((A.cell Vw).bind λv=>some [v]).bind λKN=>(A.aq 1 KN zN).bind λzO=>((A.cell dR).bind λv=>some [v]).bind λUA=>(A.aq 2 UA zO).bind λxx=>some xx).bind λcs=>some (AV.agg cs)).bind λVx=>(A.aU eZ).bind λC0=>(A.aF 0 C0).bind λasH=>(A.cells 3 Vx).bind λaqG=>(A.storeAt asH aqG fF.2).bind λwg=>(A.aU a1).bind λx159=>(A.aF 1 x159).bind λx160=>((A.deref x160 wg).bind λKO=>A.ak 0 KO).bind λasI=>(A.add asI (AV.ah 1)).bind λasJ=>(A.aU a1).bind λVy=>(A.aF 1 Vy).bind λasK=>((A.cell asJ).bind λv=>some [v]).bind λFR=>(A.storeAt asK FR wg).bind λCG=>(A.geq (AV.ah (-1)) (AV.ah 0)).bind λx168=>(A.cond x168 ((A.aF 0 x1).bind λasL=>((A.deref asL CG).bind λaqJ=>A.ak 0 aqJ).bind λVz=>(vL [a0,a1,fF.1,(AV.ah (-1)),Vz] CG).bind λasq=>some (([]:au),asq.2)) (some (([]:au),CG))).bind λasp=>some ((AV.ah 0),asp.2))) ((A.eql .i eP (AV.ah 5)).bind λVA=>A.cond VA ((A.aU eZ).bind λasO=>(A.aF 0 asO).bind λVB=>(A.aF 2 VB).bind λasP=>((A.deref asP fF.2).bind λUD=>A.ak 0 UD).bind λasQ=>(A.not asQ).bind λasR=>A.cond asR (some ((AV.ah 10),fF.2)) ((A.aU eZ).bind λasS=>(A.aF 0 asS).bind λasT=>(A.aF 0 asT).bind λVC=>((A.deref VC fF.2).bind λUE=>A.ak 0 UE).bind λasU=>(A.aF 0 x1).bind λasV=>((A.deref asV fF.2).bind λaqR=>A.ak 0 aqR).bind λasX=>((((A.cell asU).bind λv=>some [v]).bind λaqT=>(A.aq 0 aqT [(AV.ah 0),(AV.ah 0),aO]).bind λaqU=>((A.cell asX).bind λv=>some [v]).bind λaqV=>(A.aq 1 aqV aqU).bind λFT=>((A.cell aO).bind λv=>some [v]).bind λFU=>(A.aq 2 FU FT).bind λFV=>some FV).bind λcs=>some (AV.agg cs)).bind λasZ=>(A.aU eZ).bind λas0=>(A.aF 0 as0).bind λas1=>(A.cells 3 asZ).bind λaqW=>(A.storeAt as1 aqW fF.2).bind λad2=>(A.aU a1).bind λVD=>(A.aF 1 VD).bind λas4=>((A.deref as4 ad2).bind λUF=>A.ak 0 UF).bind λVE=>(A.add VE (AV.ah 1)).bind λVF=>(A.aU a1).bind λas5=>(A.aF 1 as5).bind λas6=>((A.cell VF).bind λv=>some [v]).bind λaq0=>(A.storeAt as6 aq0 ad2).bind λUG=>(A.geq (AV.ah (-1)) (AV.ah 0)).bind λas9=>(A.cond as9 ((A.aF 0 x1).bind λVG=>((A.deref VG UG).bind λaq3=>A.ak 0 aq3).bind λatb=>(vL [a0,a1,fF.1,(AV.ah (-1)),atb] UG).bind λast=>some (([]:au),ast.2)) (some (([]:au),UG))).bind λasr=>some ((AV.ah 0),asr.2))) ((A.eql .i eP (AV.ah 6)).bind λatc=>A.cond atc ((A.aU eZ).bind λatd=>(A.aF 6 atd).bind λVH=>((A.deref VH fF.2).bind λaq6=>A.ak 0 aq6).bind λVI=>(A.lss VI (AV.ah 0)).bind λVJ=>A.cond VJ (some ((AV.ah 10),fF.2)) ((A.aU a1).bind λVK=>(A.aF 1 VK).bind λVL=>((A.deref VL fF.2).bind λaq7=>A.ak 0 aq7).bind λatf=>(A.add atf (AV.ah 1)).bind λVM=>(A.aU a1).bind λVN=>(A.aF 1 VN).bind λVO=>((A.cell VM).bind λv=>some [v]).bind λaq8=>(A.storeAt VO aq8 fF.2).bind λad3=>((A.deref x1 ad3).bind λaq9=>A.aB 0 5 aq9).bind λath=>(Jr [a0,a1,eZ,ath] ad3).bind λasv=>some ((AV.ah 0),asv.2))) ((A.eql .i eP (AV.ah 7)).bind λVP=>(A.cond VP ((A.aF 4 x1).bind λVQ=>((A.deref VQ fF.2).bind λUJ=>A.ak 0 UJ).bind λatk=>(A.aU eZ).bind λatl=>(A.aF 7 atl).bind λatm=>((A.cell atk).bind λv=>some [v]).bind λarc=>(A.storeAt atm arc fF.2).bind λard=>some (([]:au),ard)) (some (([]:au),fF.2))).bind λaey=>(A.aU a1).bind λatn=>(A.aF 1 atn).bind λato=>((A.deref ato aey.2).bind λare=>A.ak 0 are).bind λatp=>(A.add atp (AV.ah 1)).bind λatq=>(A.aU a1).bind λatr=>(A.aF 1 atr).bind λatu=>((A.cell atq).bind λv=>some [v]).bind λarf=>(A.storeAt atu arf aey.2).bind λUK=>(A.geq (AV.ah (-1)) (AV.ah 0)).bind λatv=>(A.cond atv ((A.aF 0 x1).bind λatw=>((A.deref atw UK).bind λarh=>A.ak 0 arh).bind λatx=>(vL [a0,a1,fF.1,(AV.ah (-1)),atx] UK).bind λasx=>some (([]:au),asx.2)) (some (([]:au),UK))).bind λasw=>some ((AV.ah 0),asw.2)))))))))
noncomputable def Jw:au→Heap→aH:=A.wrap false [] .k (A.mU Hh)
noncomputable def M5 (a0 a1:AV) (σ:Heap):aH:=(A.cells 5 a1).bind λc1=>(A.aU a0).bind λx2=>(A.aF 11 x2).bind λx3=>((A.deref x3 σ).bind λc4=>A.ak 0 c4).bind λx5=>(A.bR x5).bind λx6=>(A.eql .i x6 (AV.ah 5000)).bind λx7=>(A.quiet (rP [x7,(AV.ah 2)] σ) σ).bind λx8=>(A.aB 0 5 c1).bind λx9=>(A.quiet (MP [x9] σ) σ).bind λbX=>(A.ak 0 c1).bind λdJ=>(A.quiet (JD [dJ] σ) σ).bind λdS=>(A.not dS).bind λeB=>(A.quiet (rP [eB,(AV.ah 1)] σ) σ).bind λdY=>(A.ak 0 c1).bind λdK=>(A.quiet (qV [a0] σ) σ).bind λdg=>(A.lss dK dg).bind λdD=>(A.quiet (rP [dD,(AV.ah 7)] σ) σ).bind λcI=>((((A.cell x8).bind λv=>some [v]).bind λiM=>(A.aq 0 iM [(AV.ah 0),(AV.ah 0),(AV.ah 0),(AV.ah 0)]).bind λjR=>((A.cell bX).bind λv=>some [v]).bind λlB=>(A.aq 1 lB jR).bind λiU=>((A.cell dY).bind λv=>some [v]).bind λgd=>(A.aq 2 gd iU).bind λiB=>((A.cell cI).bind λv=>some [v]).bind λgE=>(A.aq 3 gE iB).bind λiC=>some iC).bind λcs=>some (AV.sl 1 (fI 1 4 cs))).bind λeU=>(A.quiet (ya [eU] σ) σ).bind λx28=>(A.aU a0).bind λx29=>(A.aF 4 x29).bind λdO=>((A.deref dO σ).bind λyO=>A.aB 0 5 yO).bind λx32=>(A.aB 0 5 c1).bind λeW=>(A.quiet (MQ [x32,eW] σ) σ).bind λx34=>((((A.cell x28).bind λv=>some [v]).bind λgr=>(A.aq 0 gr [(AV.ah 0),(AV.ah 0)]).bind λjJ=>((A.cell x34).bind λv=>some [v]).bind λiu=>(A.aq 1 iu jJ).bind λlY=>some lY).bind λcs=>some (AV.sl 1 (fI 1 2 cs))).bind λgj=>(A.quiet (ya [gj] σ) σ).bind λdV=>(A.neq .i dV (AV.ah 0)).bind λeX=>A.cond eX (some (dV,σ)) ((A.ak 0 c1).bind λgz=>(Dy [a0,gz] σ).bind λkJ=>(A.cells 4 kJ.1).bind λGm=>(A.storeAt (AV.op kJ.2.length 0) Gm (kJ.2++[aS.box [AV.az,(AV.ah 0),(AV.ah 0),aO]])).bind λAj=>(A.aB 0 5 c1).bind λgP=>(Jw [a0,(AV.op kJ.2.length 0),gP] Aj).bind λqS=>(A.neq .i qS.1 (AV.ah 0)).bind λgK=>A.cond gK (some (qS.1,qS.2)) (((A.deref (AV.op kJ.2.length 0) qS.2).bind λC2=>A.aB 0 4 C2).bind λlG=>(A.aU a0).bind λjD=>(A.aF 0 jD).bind λeP=>(A.cells 4 lG).bind λqK=>(A.storeAt eP qK qS.2).bind λyP=>(A.aU a0).bind λjU=>(A.aF 11 jU).bind λfH=>((A.deref fH yP).bind λjo=>A.ak 0 jo).bind λiG=>(A.aB 0 5 c1).bind λfK=>(((A.cells 5 fK).bind λrJ=>(A.aq 0 rJ [(AV.ah 0),(AV.ah 0),(AV.ah 0),(AV.ah 0),(AV.ah 0)]).bind λnj=>some nj).bind λcs=>some (AV.sl 5 (fI 5 1 cs))).bind λfc=>(A.append 5 (140737488355328 / 40) iG fc yP).bind λqm=>(A.aU a0).bind λku=>(A.aF 11 ku).bind λiH=>((A.cell qm.1).bind λv=>some [v]).bind λVW=>(A.storeAt iH VW qm.2).bind λAl=>some ((AV.ah 0),Al)))
noncomputable def BP:au→Heap→aH:=A.wrap false [] .k (A.dI M5)
noncomputable def Xf (a0 a1:AV) (σ:Heap):aH:=(A.cells 10 a0).bind λc1=>(A.ak 3 c1).bind λx2=>((A.deref a1 σ).bind λc3=>A.ak 0 c3).bind λx4=>(A.eql .i x2 x4).bind λx5=>A.fin σ x5 σ
noncomputable def G6:au→Heap→aH:=A.wrap true [(.a [.k,.k,.k,.k,.k,(.s 11),.k,.k,.k,.k])] .k (A.dI Xf)
noncomputable def MZ (a0 a1 a2:AV) (σ:Heap):aH:=(((A.cell a1).bind λv=>some [v]).bind λcs=>some (AV.rp cs)).bind λx1=>(A.aU a0).bind λx2=>(A.aF 0 x2).bind λx3=>(A.aF 0 x3).bind λx4=>((A.deref x4 σ).bind λc5=>A.ak 0 c5).bind λx6=>(Du (A.tab (λ_ _=>none) [(358,G6)]) [x6,(AV.fn 358 [x1])] σ).bind λr7=>(EU [a0,a2] r7.2).bind λr8=>(A.lss r7.1 (AV.ah 0)).bind λx9=>(rP [x9,(AV.ah 8)] r8.2).bind λlR=>((((A.cell r8.1).bind λv=>some [v]).bind λiq=>(A.aq 0 iq [(AV.ah 0),(AV.ah 0)]).bind λfJ=>((A.cell lR.1).bind λv=>some [v]).bind λkn=>(A.aq 1 kn fJ).bind λlz=>some lz).bind λcs=>some (AV.sl 1 (fI 1 2 cs))).bind λdK=>(ya [dK] lR.2).bind λPW=>(A.neq .i PW.1 (AV.ah 0)).bind λdD=>A.cond dD ((A.cells 10 (AV.agg [(AV.ah 0),(AV.ah 0),aO,(AV.ah 0),(AV.ah 0),AV.az,(AV.ah 0),(AV.ah 0),(AV.ah 0),AV.nm])).bind λjm=>(A.aq 0 jm [(AV.ah 0),(AV.ah 0),aO,(AV.ah 0),(AV.ah 0),AV.az,(AV.ah 0),(AV.ah 0),(AV.ah 0),AV.nm]).bind λiM=>(A.aB 0 10 iM).bind λep=>A.fin σ (AV.aM [ep,PW.1]) PW.2) ((Dy [a0,a2] PW.2).bind λDl=>((A.cells 4 Dl.1).bind λiU=>A.ak 0 iU).bind λfC=>(A.aY 10 fC r7.1).bind λx24=>((A.deref x24 Dl.2).bind λgE=>A.aB 0 10 gE).bind λgh=>(A.cells 10 gh).bind λko=>(A.aq 0 ko [(AV.ah 0),(AV.ah 0),aO,(AV.ah 0),(AV.ah 0),AV.az,(AV.ah 0),(AV.ah 0),(AV.ah 0),AV.nm]).bind λlM=>(A.aB 0 10 lM).bind λx29=>A.fin σ (AV.aM [x29,(AV.ah 0)]) Dl.2)
noncomputable def MW:au→Heap→aH:=A.wrap false [] (.t [(.a [.k,.k,.k,.k,.k,ve,.k,.k,.k,.k]),.k]) (A.mU MZ)
noncomputable def afn (a0 a1:AV) (σ:Heap):aH:=(A.cells 2 a0).bind λc1=>(A.cells 2 a1).bind λc2=>(A.ak 0 c1).bind λx3=>(A.ak 0 c2).bind λx4=>(A.neq .i x3 x4).bind λx5=>A.cond x5 ((A.ak 0 c1).bind λx6=>(A.ak 0 c2).bind λx7=>(A.sub x6 x7).bind λx8=>A.fin σ x8 σ) ((A.ak 1 c1).bind λx9=>(A.ak 1 c2).bind λbX=>(Jt [x9,bX] σ).bind λey=>A.fin σ ey.1 ey.2)
noncomputable def Xa:au→Heap→aH:=A.wrap true [] .k (A.dI afn)
noncomputable def MJ (a0 a1 a2:AV) (σ:Heap):aH:=(MW [a0,a1,a2] σ).bind λr1=>(A.ext 0 r1.1).bind λx2=>(A.ext 1 r1.1).bind λx3=>(A.cells 10 x2).bind λc4=>(A.storeAt (AV.op r1.2.length 0) c4 (r1.2++[aS.box [(AV.ah 0),(AV.ah 0),aO,(AV.ah 0),(AV.ah 0),AV.az,(AV.ah 0),(AV.ah 0),(AV.ah 0),AV.nm]])).bind λc5=>(A.neq .i x3 (AV.ah 0)).bind λx6=>A.cond x6 ((A.cells 6 (AV.agg [(AV.ah 0),(AV.ah 0),(AV.ah 0),aO,(AV.ah 0),AV.az])).bind λc7=>(A.aq 0 c7 [(AV.ah 0),(AV.ah 0),(AV.ah 0),aO,(AV.ah 0),AV.az]).bind λc8=>(A.aB 0 6 c8).bind λx9=>A.fin σ (AV.aM [x9,x3]) c5) ((A.aF 7 (AV.op r1.2.length 0)).bind λbX=>((A.deref bX c5).bind λiq=>A.ak 0 iq).bind λdS=>(A.aF 0 (AV.op r1.2.length 0)).bind λeB=>(A.aF 2 eB).bind λdY=>((A.deref dY c5).bind λmV=>A.ak 0 mV).bind λdg=>(A.quiet (zf [(AV.op r1.2.length 0)] c5) c5).bind λdD=>((((A.cell a1).bind λv=>some [v]).bind λjm=>(A.aq 0 jm [(AV.ah 0),(AV.ah 0),(AV.ah 0),aO,(AV.ah 0),AV.az]).bind λiM=>((A.cell dS).bind λv=>some [v]).bind λjR=>(A.aq 2 jR iM).bind λlB=>((A.cell dg).bind λv=>some [v]).bind λiU=>(A.aq 3 iU lB).bind λgd=>((A.cell dD).bind λv=>some [v]).bind λiB=>(A.aq 4 iB gd).bind λgE=>some gE).bind λcs=>some (AV.agg cs)).bind λgh=>(A.cells 6 gh).bind λko=>(A.aq 0 ko [(AV.ah 0),(AV.ah 0),(AV.ah 0),aO,(AV.ah 0),AV.az]).bind λlM=>(A.aF 6 (AV.op r1.2.length 0)).bind λx29=>((A.deref x29 c5).bind λvi=>A.ak 0 vi).bind λx31=>(A.geq x31 (AV.ah 0)).bind λx32=>(A.cond x32 ((A.aF 5 (AV.op r1.2.length 0)).bind λx34=>((A.deref x34 c5).bind λgr=>A.ak 0 gr).bind λfG=>(A.aF 6 (AV.op r1.2.length 0)).bind λcK=>((A.deref cK c5).bind λlY=>A.ak 0 lY).bind λgj=>(A.aY 11 fG gj).bind λdV=>(A.aF 0 dV).bind λeX=>((A.deref eX c5).bind λmB=>A.ak 0 mB).bind λfk=>((A.cell fk).bind λv=>some [v]).bind λGm=>(A.aq 1 Gm lM).bind λAj=>some ([(AV.lbx [(AV.ah 0),(AV.ah 0),(AV.ah 0),aO,(AV.ah 0),AV.az]),(AV.lbx Aj)],c5)) (some ([(AV.lbx [(AV.ah 0),(AV.ah 0),(AV.ah 0),aO,(AV.ah 0),AV.az]),(AV.lbx lM)],c5))).bind λpN=>(A.aF 9 (AV.op r1.2.length 0)).bind λgP=>((A.deref gP pN.2).bind λiD=>A.ak 0 iD).bind λgK=>(MI [gK] pN.2).bind λr49=>(Jn [r49.1,(AV.fn 372 [])] r49.2).bind λdN=>(A.bR dN.1).bind λjD=>(A.loop (λfN jL=>(A.lss (aj fN 2) jD).bind λjU=>A.cond jU ((A.aY 2 dN.1 (aj fN 2)).bind λfH=>((A.deref fH jL).bind λjo=>A.aB 0 2 jo).bind λiG=>(A.cells 2 iG).bind λC3=>(A.aq 0 C3 [(AV.ah 0),bA]).bind λrJ=>(A.aB 0 2 rJ).bind λjF=>(A.aF 0 (AV.op r1.2.length 0)).bind λfc=>((A.deref fc jL).bind λqL=>A.aB 0 3 qL).bind λku=>(A.quiet (uF [ku,a2] jL) jL).bind λiH=>(A.quiet (oJ [(AV.op r1.2.length 0),jF,iH] jL) jL).bind λgG=>(A.ext 0 gG).bind λkC=>(A.ext 1 gG).bind λiI=>(A.cells 9 kC).bind λnW=>(A.aq 0 nW [(AV.ah 0),(AV.ah 0),(AV.ah 0),(AV.ah 0),(AV.ah 0),(AV.ah 0),AV.az,(AV.ah 0),aO]).bind λyQ=>(A.not iI).bind λmM=>A.cond mM ((A.add (aj fN 2) (AV.ah 1)).bind λnB=>some (AX.normal,[(aj fN 0),(aj fN 1),nB],jL)) ((A.ak 6 yQ).bind λiz=>((A.jB (.s 2) wL) [iz] jL).bind λAA=>((A.cell AA.1).bind λv=>some [v]).bind λnX=>(A.aq 6 nX yQ).bind λqM=>((A.lb (aj fN 1)).bind λ_=>some (5)).bind λpL=>((A.lb (aj fN 1)).bind λnr=>A.ak pL nr).bind λkE=>(A.aB 0 2 rJ).bind λgm=>(A.aB 0 7 qM).bind λnC=>(A.ak 7 qM).bind λnD=>(A.ak 8 qM).bind λnN=>(((A.cells 2 gm).bind λjf=>(A.aq 0 jf [(AV.ah 0),bA,(AV.ah 0),(AV.ah 0),(AV.ah 0),(AV.ah 0),(AV.ah 0),(AV.ah 0),AV.az,(AV.ah 0),aO]).bind λsU=>(A.cells 7 nC).bind λqN=>(A.aq 2 qN sU).bind λnZ=>((A.cell nD).bind λv=>some [v]).bind λsV=>(A.aq 9 sV nZ).bind λmD=>((A.cell nN).bind λv=>some [v]).bind λmE=>(A.aq 10 mE mD).bind λxK=>some xK).bind λcs=>some (AV.agg cs)).bind λnE=>(((A.cells 11 nE).bind λuo=>(A.aq 0 uo [(AV.ah 0),bA,(AV.ah 0),(AV.ah 0),(AV.ah 0),(AV.ah 0),(AV.ah 0),(AV.ah 0),AV.az,(AV.ah 0),aO]).bind λn5=>some n5).bind λcs=>some (AV.sl 11 (fI 11 1 cs))).bind λx95=>(A.append 11 (140737488355328 / 112) kE x95 AA.2).bind λEH=>((A.lb (aj fN 1)).bind λ_=>some (5)).bind λAw=>(A.lb (aj fN 1)).bind λsB=>((A.cell EH.1).bind λv=>some [v]).bind λn9=>(A.aq Aw n9 sB).bind λsW=>(A.add (aj fN 2) (AV.ah 1)).bind λx101=>some (AX.normal,[(aj fN 0),(AV.lbx sW),x101],EH.2))) (some (AX.exit 0,[(aj fN 0),(aj fN 1),(aj fN 2)],jL))) [(aj pN.1 0),(aj pN.1 1),(AV.ah 0)] dN.2).bind λPo=>bif Po.1==AX.exit 0 then(((A.lb (aj Po.2.1 1)).bind λCv=>A.aB 0 6 Cv).bind λx104=>(A.lb (aj Po.2.1 0)).bind λaqy=>(A.cells 6 x104).bind λzJ=>(A.aq 0 zJ aqy).bind λaqx=>(A.aB 0 6 aqx).bind λF8=>A.fin σ (AV.aM [F8,(AV.ah 0)]) Po.2.2)else none)
noncomputable def BO:au→Heap→aH:=A.wrap false [] (.t [(.a [.k,.k,.k,.k,.k,(.e 11 [.k,.k,.k,.k,.k,.k,.k,.k,(.s 2),.k,.k])]),.k]) (A.mU MJ)
end
section
set_option maxRecDepth 100000
noncomputable def Qa (a0 a1 a2 a3:AV) (σ:Heap):aH:=(A.cells 5 a0).bind λc1=>(A.aB 0 5 c1).bind λx2=>(HD [x2] σ).bind λr3=>(A.ext 0 r3.1).bind λx4=>(A.ext 1 r3.1).bind λx5=>(A.aB 0 5 c1).bind λx6=>(HD [x6] r3.2).bind λr7=>(A.ext 0 r7.1).bind λx8=>(A.ext 1 r7.1).bind λx9=>(A.neq .i x5 x9).bind λbX=>(A.guard bX false (some x5) ay).bind λdJ=>(A.guard bX false (A.neq .i dJ (AV.ah 0)) ay).bind λdS=>(A.pick bX dR dS).bind λeB=>A.cond eB ((A.eql .i x5 x9).bind λdY=>A.fin σ dY r7.2) ((A.eql .p x4 AV.np).bind λdK=>(A.guard dK false (some x8) ay).bind λdg=>(A.guard dK false (A.eql .p dg AV.np) ay).bind λdD=>(A.pick dK dR dD).bind λcI=>A.cond cI (A.fin σ aO r7.2) ((A.bR a1).bind λeC=>(A.loop (λv20 AI=>(A.lss (aj v20 2) eC).bind λfC=>A.cond fC ((A.aY 5 a1 (aj v20 2)).bind λx24=>((A.deref x24 AI).bind λgE=>A.aB 0 5 gE).bind λgh=>(A.cells 5 gh).bind λko=>(A.aq 0 ko [(AV.ah 0),(AV.ah 0),(AV.ah 0),(AV.ah 0),(AV.ah 0)]).bind λlM=>(A.bR a2).bind λx29=>(A.loop (λv30 gJ=>(A.lss (aj v30 2) x29).bind λeW=>A.cond eW ((A.aY 1 a2 (aj v30 2)).bind λx34=>((A.deref x34 gJ).bind λgr=>A.ak 0 gr).bind λfG=>(qV [x4] gJ).bind λjK=>(A.add jK.1 fG).bind λx38=>(AN [x4,x38] jK.2).bind λiP=>((A.lb (aj v30 0)).bind λ_=>some (4)).bind λAv=>((A.lb (aj v30 0)).bind λpE=>A.ak Av pE).bind λgz=>(A.bR gz).bind λfk=>(A.lss (aj v20 2) fk).bind λeY=>(A.cond eY (((A.lb (aj v30 0)).bind λ_=>some (4)).bind λvC=>((A.lb (aj v30 0)).bind λiD=>A.ak vC iD).bind λgK=>(A.aY 3 gK (aj v20 2)).bind λeZ=>(A.aF 0 eZ).bind λlG=>((A.deref lG iP.2).bind λpG=>A.ak 0 pG).bind λeP=>(A.quiet (qV [x4] iP.2) iP.2).bind λiy=>(A.add iy fG).bind λgL=>(A.quiet (BO [x4,eP,gL] iP.2) iP.2).bind λjU=>some ([(aj v30 0),(aj v30 1)],iP.2)) (some ([(aj v30 0),(aj v30 1)],iP.2))).bind λiX=>(A.add (aj v30 2) (AV.ah 1)).bind λfH=>some (AX.normal,[(aj iX.1 0),(aj iX.1 1),fH],iX.2)) (some (AX.exit 2,[(aj v30 0),(aj v30 1),(aj v30 2)],gJ))) [(aj v20 0),(AV.lbx lM),(AV.ah 0)] AI).bind λqj=>bif qj.1==AX.exit 2 then(((A.lb (aj qj.2.1 1)).bind λjh=>A.aB 0 5 jh).bind λfK=>(BP [x4,fK] qj.2.2).bind λql=>((A.lb (aj qj.2.1 1)).bind λnj=>A.aB 0 5 nj).bind λfc=>(BP [x8,fc] ql.2).bind λqm=>(A.neq .i ql.1 qm.1).bind λku=>A.cond ku (some (AX.ret,[(aj qj.2.1 0),aO,(aj v20 2)],qm.2)) ((A.add (aj v20 2) (AV.ah 1)).bind λiH=>some (AX.normal,[(aj qj.2.1 0),(aj v20 1),iH],qm.2)))else none) (some (AX.exit 0,[(aj v20 0),(aj v20 1),(aj v20 2)],AI))) [(AV.lbx c1),aO,(AV.ah 0)] r7.2).bind λy9=>bif y9.1==AX.exit 0 then((AN [x4,a3] y9.2.2).bind λfQ=>(A.ext 0 fQ.1).bind λiI=>(A.ext 1 fQ.1).bind λgX=>(AN [x8,a3] fQ.2).bind λJh=>(A.ext 0 Jh.1).bind λmM=>(A.ext 1 Jh.1).bind λnB=>(A.eql .i gX nB).bind λiz=>(A.guard iz true (some iI) ay).bind λjr=>(A.guard iz true (some mM) ay).bind λfP=>(A.guard iz true (A.quiet (Jk [jr,fP] Jh.2) Jh.2) ay).bind λkD=>(A.pick iz kD aO).bind λqT=>(A.guard qT true (some x4) ay).bind λkR=>(A.guard qT true (ML [kR] Jh.2) (some (AV.aM [],Jh.2))).bind λlE=>(A.guard qT true (A.bR lE.1) ay).bind λgm=>(A.guard qT true (some a1) ay).bind λnC=>(A.guard qT true (A.bR nC) ay).bind λnD=>(A.guard qT true (A.leq gm nD) ay).bind λnN=>(A.pick qT nN aO).bind λAL=>A.fin σ AL lE.2)else bif y9.1==AX.ret then(A.fin σ (aj y9.2.1 1) y9.2.2)else none))
noncomputable def W9:au→Heap→aH:=A.wrap true [Bw,(.s 5),(.s 1)] .k (A.vg Qa)
end
section
open Go.RowKit
theorem pW.same{P:Program}{nm:List Nat}{f:FuncId}{args:au}{σ:Heap}{r:AV}(hc:∀us w,(callFunc f us).run P w=.ok (.enter f us) w)
  (h:∀(c:RC)(vs:Array Value)(w:World),aR c args vs.toList→Calls P f vs w λe w'=>∃v,e=.returned v∧Below w.heap.size w w'∧∀c',an c' r v):pW P nm f args σ r σ:=by
 refine .inl ⟨f,hc,λz vs e1 e2 hh ha=>(h _ vs z.w ha).mono ?_⟩;rintro e w' ⟨v,k1,k2,k3⟩;have ho:Out z z.w z.E:=⟨rfl,rfl,rfl,bD _,λ_ _ _=>rfl,λi p hp=>.inr ⟨p,hp,rfl⟩,λi p hp=>⟨p,hp,.inl rfl⟩,e2,λp hp=>hh.lt hp⟩
 exact⟨v,z.E,k1,ho.grow k2,hh.mono (yh k2) rfl (λp hp=>k2.block _ (hh.lt hp)),k3 _⟩
theorem O5{c:RC}{a:AV}{vs:Array Value}(h:aR c [a] vs.toList):∃v,vs=#[v]∧an c a v:=by simp only[aR]at h;obtain⟨v,vs',e,h1,e2⟩:=h;refine⟨v,?_,h1⟩;subst e2;cases vs;simp at e;simp [e]
theorem O6{c:RC}{a b:AV}{vs:Array Value}(h:aR c [a,b] vs.toList):∃v u,vs=#[v,u]∧an c a v∧an c b u:=by simp only[aR]at h;obtain⟨v,vs',e,h1,u,vs2,e2,h2,e3⟩:=h;refine⟨v,u,?_,h1,h2⟩;subst e3;subst e2;cases vs;simp at e;simp [e]
theorem QK:Sound Tryz.prog aL 61 Jt:=by
 intro args σ r σ' h;unfold Jt A.dI at h;split at h
 ·simp only at h;split at h
  ·simp only[Option.some.injEq,Prod.mk.injEq]at h;obtain⟨rfl,rfl⟩:=h;refine pW.same Tryz.call61 λc vs w hr=>?_
   obtain⟨v,u,rfl,h1,h2⟩:=O6 hr;simp only[an]at h1 h2;subst h1 h2;refine(Tryz.strings_Compare _ _ w).mono ?_;rintro e w' ⟨rfl,rfl⟩;exact⟨_,rfl,Below.refl _ _,λc'=>by simp [an]⟩
  ·cases h
 ·cases h
end
section
open Go.RowKit
set_option maxRecDepth 100000
theorem AP{P:Program}{nm:List Nat}{f:FuncId}{m0:au→Heap→aH}(h0:Sound P nm f m0)(hc:∀us w,(callFunc f us).run P w=.ok (.enter f us) w)
  (hz:∀a cap w,Calls P f #[.slice a 0 cap] w λe w'=>∃q,e=.returned (.slice q 0 0)∧Below w.heap.size w w'):Sound P nm f (A.tM m0):=by
 intro args σ r σ' h;unfold A.tM at h;split at h
 ·simp only[Option.some.injEq,Prod.mk.injEq]at h;obtain⟨rfl,rfl⟩:=h;refine pW.same hc λc vs w hr=>?_
  obtain⟨v,rfl,h1⟩:=O5 hr;simp only[an]at h1;obtain⟨a,cap,rfl,_⟩:=h1;refine(hz _ _ w).mono ?_;rintro e w' ⟨q,rfl,hb⟩;exact⟨_,rfl,hb,λc'=>by simp [an]⟩
 ·simp only[Option.some.injEq,Prod.mk.injEq]at h;obtain⟨rfl,rfl⟩:=h;refine pW.same hc λc vs w hr=>?_
  obtain⟨v,rfl,h1⟩:=O5 hr;simp only[an]at h1;subst h1;refine(hz _ _ w).mono ?_;rintro e w' ⟨q,rfl,hb⟩;exact⟨_,rfl,hb,λc'=>by simp [an]⟩
 ·simp only[Option.some.injEq,Prod.mk.injEq]at h;obtain⟨rfl,rfl⟩:=h;refine pW.same hc λc vs w hr=>?_
  obtain⟨v,rfl,h1⟩:=O5 hr;simp only[an]at h1;obtain⟨a,rfl⟩:=h1;refine(hz _ _ w).mono ?_;rintro e w' ⟨q,rfl,hb⟩;exact⟨_,rfl,hb,λc'=>by simp [an]⟩
 ·simp only[Option.some.injEq,Prod.mk.injEq]at h;obtain⟨rfl,rfl⟩:=h;refine pW.same hc λc vs w hr=>?_
  obtain⟨v,rfl,h1⟩:=O5 hr;simp only[an]at h1;obtain⟨_,p,_,_,a,cap,rfl,_⟩:=h1;refine(hz _ _ w).mono ?_;rintro e w' ⟨q,rfl,hb⟩;exact⟨_,rfl,hb,λc'=>by simp [an]⟩
 ·exact h0 _ _ _ _ h
theorem pS{P:Program}{t e:TypeId}(ht:P.underlying t=some (.slice e))(a:Option Addr)(n m:Nat)(w:World):Sem.run P (binOp .eql t (.slice a n m) (.slice none 0 0)) w=.ok (.bool a.isNone) w:=by simp [binOp,show(Op.equal t (.slice a n m) (.slice none 0 0)).run P w=.ok a.isNone w from acZ w 9999 t a n m ht]
theorem am7(a:Option Addr)(cap:Nat)(w:World):Calls Tryz.prog 97 #[.slice a 0 cap] w λe w'=>∃q,e=.returned (.slice q 0 0)∧Below w.heap.size w w':=by
 go_enter Tryz.func97,Tryz.ntmps97
 cases a
 ·go_wp2_with (simp only[pS (Tryz.underlying133),Option.isNone_none,Result.andThen_ok])
  go_ret
  exact⟨_,rfl,Below.refl _ _⟩
 ·go_wp2_with (simp only[pS (Tryz.underlying133),Option.isNone_some,Result.andThen_ok])
  go_ret
  exact⟨_,rfl,(Below.refl _ _).alloc (bD _) _⟩
theorem alC(a:Option Addr)(cap:Nat)(w:World):Calls Tryz.prog 64 #[.slice a 0 cap] w λe w'=>∃q,e=.returned (.slice q 0 0)∧Below w.heap.size w w':=by
 go_enter Tryz.func64,Tryz.ntmps64
 cases a
 ·go_wp2_with (simp only[pS (Tryz.underlying130),Option.isNone_none,Result.andThen_ok])
  go_ret
  exact⟨_,rfl,Below.refl _ _⟩
 ·go_wp2_with (simp only[pS (Tryz.underlying130),Option.isNone_some,Result.andThen_ok])
  go_ret
  exact⟨_,rfl,(Below.refl _ _).alloc (bD _) _⟩
theorem aoQ(a:Option Addr)(cap:Nat)(w:World):Calls Tryz.prog 96 #[.slice a 0 cap] w λe w'=>∃q,e=.returned (.slice q 0 0)∧Below w.heap.size w w':=by
 go_enter Tryz.func96,Tryz.ntmps96
 cases a
 ·go_wp2_with (simp only[pS (Tryz.underlying68),Option.isNone_none,Result.andThen_ok])
  go_ret
  exact⟨_,rfl,Below.refl _ _⟩
 ·go_wp2_with (simp only[pS (Tryz.underlying68),Option.isNone_some,Result.andThen_ok])
  go_ret
  exact⟨_,rfl,(Below.refl _ _).alloc (bD _) _⟩
theorem alD(a:Option Addr)(cap:Nat)(w:World):Calls Tryz.prog 94 #[.slice a 0 cap] w λe w'=>∃q,e=.returned (.slice q 0 0)∧Below w.heap.size w w':=by
 go_enter Tryz.func94,Tryz.ntmps94
 cases a
 ·go_wp2_with (simp only[pS (Tryz.underlying48),Option.isNone_none,Result.andThen_ok])
  go_ret
  exact⟨_,rfl,Below.refl _ _⟩
 ·go_wp2_with (simp only[pS (Tryz.underlying48),Option.isNone_some,Result.andThen_ok])
  go_ret
  exact⟨_,rfl,(Below.refl _ _).alloc (bD _) _⟩
theorem alB(a:Option Addr)(cap:Nat)(w:World):Calls Tryz.prog 93 #[.slice a 0 cap] w λe w'=>∃q,e=.returned (.slice q 0 0)∧Below w.heap.size w w':=by
 go_enter Tryz.func93,Tryz.ntmps93
 cases a
 ·go_wp2_with (simp only[pS (Tryz.underlying99),Option.isNone_none,Result.andThen_ok])
  go_ret
  exact⟨_,rfl,Below.refl _ _⟩
 ·go_wp2_with (simp only[pS (Tryz.underlying99),Option.isNone_some,Result.andThen_ok])
  go_ret
  exact⟨_,rfl,(Below.refl _ _).alloc (bD _) _⟩
theorem ah4(a:Option Addr)(cap:Nat)(w:World):Calls Tryz.prog 91 #[.slice a 0 cap] w λe w'=>∃q,e=.returned (.slice q 0 0)∧Below w.heap.size w w':=by
 go_enter Tryz.func91,Tryz.ntmps91
 cases a
 ·go_wp2_with (simp only[pS (Tryz.underlying28),Option.isNone_none,Result.andThen_ok])
  go_ret
  exact⟨_,rfl,Below.refl _ _⟩
 ·go_wp2_with (simp only[pS (Tryz.underlying28),Option.isNone_some,Result.andThen_ok])
  go_ret
  exact⟨_,rfl,(Below.refl _ _).alloc (bD _) _⟩
theorem am8(a:Option Addr)(cap:Nat)(w:World):Calls Tryz.prog 92 #[.slice a 0 cap] w λe w'=>∃q,e=.returned (.slice q 0 0)∧Below w.heap.size w w':=by
 go_enter Tryz.func92,Tryz.ntmps92
 cases a
 ·go_wp2_with (simp only[pS (Tryz.underlying23),Option.isNone_none,Result.andThen_ok])
  go_ret
  exact⟨_,rfl,Below.refl _ _⟩
 ·go_wp2_with (simp only[pS (Tryz.underlying23),Option.isNone_some,Result.andThen_ok])
  go_ret
  exact⟨_,rfl,(Below.refl _ _).alloc (bD _) _⟩
theorem ai4(a:Option Addr)(cap:Nat)(w:World):Calls Tryz.prog 95 #[.slice a 0 cap] w λe w'=>∃q,e=.returned (.slice q 0 0)∧Below w.heap.size w w':=by
 go_enter Tryz.func95,Tryz.ntmps95
 cases a
 ·go_wp2_with (simp only[pS (Tryz.underlying40),Option.isNone_none,Result.andThen_ok])
  go_ret
  exact⟨_,rfl,Below.refl _ _⟩
 ·go_wp2_with (simp only[pS (Tryz.underlying40),Option.isNone_some,Result.andThen_ok])
  go_ret
  exact⟨_,rfl,(Below.refl _ _).alloc (bD _) _⟩
theorem ako(a:Option Addr)(cap:Nat)(w:World):Calls Tryz.prog 49 #[.slice a 0 cap] w λe w'=>∃q,e=.returned (.slice q 0 0)∧Below w.heap.size w w':=by
 go_enter Tryz.func49,Tryz.ntmps49
 cases a
 ·go_wp2_with (simp only[pS (Tryz.underlying31),Option.isNone_none,Result.andThen_ok])
  go_ret
  exact⟨_,rfl,Below.refl _ _⟩
 ·go_wp2_with (simp only[pS (Tryz.underlying31),Option.isNone_some,Result.andThen_ok])
  go_ret
  exact⟨_,rfl,(Below.refl _ _).alloc (bD _) _⟩
theorem alE(a:Option Addr)(cap:Nat)(w:World):Calls Tryz.prog 104 #[.slice a 0 cap] w λe w'=>∃q,e=.returned (.slice q 0 0)∧Below w.heap.size w w':=by
 go_enter Tryz.func104,Tryz.ntmps104
 cases a
 ·go_wp2_with (simp only[pS (Tryz.underlying90),Option.isNone_none,Result.andThen_ok])
  go_ret
  exact⟨_,rfl,Below.refl _ _⟩
 ·go_wp2_with (simp only[pS (Tryz.underlying90),Option.isNone_some,Result.andThen_ok])
  go_ret
  exact⟨_,rfl,(Below.refl _ _).alloc (bD _) _⟩
end
section
open Go.RowKit
def qH(W:World)(mb:Option Nat)(r:Nat)(es:Array MapEntry)(done:List MapEntry):Prop:=match mb with
 |none=>es=#[]∧done=[]∧∃a b c,W.heap[r]? =some (.mapIter none a b c)
 |some m=>∃aI,qo es aI∧W.heap[m]? =some (.map es aI)∧W.heap[r]? =some (.mapIter (some m) aI (done.map (·.born)).toArray aI)∧∃left,(done++left).Perm es.toList
def Bl(W:World)(mb:Option Nat)(es:Array MapEntry):Prop:=match mb with
 |none=>es=#[]
 |some m=>∃aI,qo es aI∧W.heap[m]? =some (.map es aI)
theorem Bl.below{W W':World}{mb:Option Nat}{es:Array MapEntry}(h:Bl W mb es)(hb:Below W.heap.size W W'):Bl W' mb es:=by
 cases mb with
 |none=>exact h
 |some m=>obtain⟨aI,h1,h2⟩:=h;exact⟨aI,h1,(hb.block m (mw.1 h2).1).trans h2⟩
theorem qH.walks{W W':World}{mb:Option Nat}{r:Nat}{es:Array MapEntry}{done:List MapEntry}(h:qH W mb r es done)(hk:KeepsWalks W W'):qH W' mb r es done:=by
 cases mb with
 |none=>obtain⟨h1,h2,a,b,c,h3⟩:=h;exact⟨h1,h2,a,b,c,hk.same _ _ h3 rfl⟩
 |some m=>obtain⟨aI,h1,h2,h3,h4⟩:=h;exact⟨aI,h1,hk.same _ _ h2 rfl,hk.same _ _ h3 rfl,h4⟩
theorem qH.iter{W:World}{mb:Option Nat}{r:Nat}{es:Array MapEntry}{done:List MapEntry}(h:qH W mb r es done):∃o:Obj,W.heap[r]? =some o∧o.isWalk=true:=by
 cases mb with
 |none=>obtain⟨h1,h2,a,b,c,h3⟩:=h;exact⟨_,h3,rfl⟩
 |some m=>obtain⟨aI,h1,h2,h3,h4⟩:=h;exact⟨_,h3,rfl⟩
theorem qH.len{W:World}{mb:Option Nat}{r:Nat}{es:Array MapEntry}{done:List MapEntry}(h:qH W mb r es done):done.length≤es.size:=by
 cases mb with
 |none=>obtain⟨h1,h2,_⟩:=h;subst h2;simp
 |some m=>obtain⟨aI,h1,h2,h3,left,h4⟩:=h;have:=h4.length_eq;simp at this;omega
theorem apU{W W':World}(hb:Below W.heap.size W W')(hh:W'.heap=W.heap):W.grownBy W' none:=⟨hb.os,hb.tape,hb.output,hb.size,λk hk _=>hb.block k hk⟩
theorem Bl.range{P:Program}{W:World}{mb:Option Nat}{es:Array MapEntry}(h:Bl W mb es){t kt et:TypeId}(ht:P.underlying t=some (.map kt et)):
  ∃o,(Instr.range t (.map mb)).run P W=.ok (.pointer (some ⟨W.heap.size,0,none⟩)) (W.alloc o)∧qH (W.alloc o) mb W.heap.size es []:=by
 cases mb with
 |none=>exact⟨.mapIter none 0 #[] 0,by simp [Instr.range,run_underlying ht,newObj,Sem.run],h,rfl,_,_,_,World.alloc_heap_new W _⟩
 |some m=>
  obtain⟨aI,h1,h2⟩:=h;have vT:(getObj m).run P W=.ok (.map es aI) W:=by simp [getObj,Sem.run,show W.heap[m]? =_ from h2]
  exact⟨.mapIter (some m) aI #[] aI,by simp [Instr.range,run_underlying ht,vT,newObj,Sem.run],aI,h1,(Below.heap_alloc W _ m (mw.1 h2).1).trans h2,World.alloc_heap_new W _,es.toList,by simp⟩
theorem qH.adL{W:World}{mb:Option Nat}{r:Nat}{es:Array MapEntry}{done:List MapEntry}{e:MapEntry}(h:qH W mb r es (done++[e])):∃m,mb=some m:=by
 cases mb with
 |none=>obtain⟨_,h2,_⟩:=h;simp at h2
 |some m=>exact⟨m,rfl⟩
theorem qH.next{P:Program}{W:World}{mb:Option Nat}{r:Nat}{es:Array MapEntry}{done:List MapEntry}(h:qH W mb r es done)(hmr:mb≠some r)(ty:TypeId):
  (done.Perm es.toList∧∃W',(Instr.next (.pointer (some ⟨r,0,none⟩)) false ty).run P W=.ok (.tuple #[.bool false]) W'∧W.grownBy W' none)∨
  (∃e W',e∈es.toList∧(Instr.next (.pointer (some ⟨r,0,none⟩)) false ty).run P W=.ok (.tuple #[.bool true,e.key,e.val]) W'∧qH W' mb r es (done++[e])∧W.grownBy W' (some r)):=by
 cases mb with
 |none=>
  obtain⟨h1,h2,a,b,c,h3⟩:=h;subst h1 h2;have j0:(getObj r).run P W=.ok (.mapIter none a b c) W:=by simp [getObj,Sem.run,show W.heap[r]? =_ from h3]
  exact .inl ⟨by simp,W,by simp [Instr.next,j0],⟨rfl,rfl,rfl,bD _,λ_ _ _=>rfl⟩⟩
 |some m=>
  obtain⟨aI,h7,h6,h3,left,hp⟩:=h;obtain⟨seen,FC⟩:∃seen,seen=(done.map (·.born)).toArray:=⟨_,rfl⟩
  have hsc:∀e,seen.contains e=(done.map (·.born)).contains e:=λe=>by rw[FC];simp
  rw[←FC]at h3;have j0:(getObj r).run P W=.ok (.mapIter (some m) aI seen aI) W:=by simp [getObj,Sem.run,show W.heap[r]? =_ from h3]
  have vT:(getObj m).run P W=.ok (.map es aI) W:=by simp [getObj,Sem.run,show W.heap[m]? =_ from h6]
  obtain⟨L,hL⟩:∃L,L=es.filter (λe=>!seen.contains e.born):=⟨_,rfl⟩
  have Dc:L.toList=es.toList.filter (λe=>!seen.contains e.born):=by rw[hL,Array.toList_filter]
  have hnd:((done++left).map (·.born)).Nodup:=(hp.map _).nodup_iff.2 h7.2
  -- what is left, up to order
  have hLp:L.toList.Perm left:=by
   rw[Dc];refine(hp.filter _).symm.trans ?_;rw[List.filter_append]
   have e1:done.filter (λe=>!seen.contains e.born)=[]:=by rw[List.filter_eq_nil_iff];intro e he;simp only[hsc,Bool.not_eq_true',Bool.not_eq_false];simp only[List.contains_iff_mem,gB];simpa using⟨e,he,rfl⟩
   have e2:left.filter (λe=>!seen.contains e.born)=left:=by rw[List.filter_eq_self];intro e he;simp only[hsc,Bool.not_eq_true'];rw[List.map_append,List.nodup_append]at hnd;have:=hnd.2.2;rw[Bool.eq_false_iff];intro hc;have hc:=List.contains_iff_mem.1 hc;exact this _ hc _ (gB.2 ⟨e,he,rfl⟩) rfl
   rw[e1,e2];exact List.Perm.refl _
  have hst:=h7.Uk seen.isEmpty;by_cases hl:L.size=0
  ·have hl0:es.filter (λe=>!seen.contains e.born)=#[]:=by rw[←hL];exact Array.eq_empty_of_size_eq_zero hl
   obtain⟨j,w',hj,hch,hb,hw⟩:=choose_lt (P:=P) W (n:=1) (by omega);have hj0:j=0:=by omega
   subst hj0;refine .inl ⟨?_,w',?_,apU hb hw⟩
   ·have:left=[]:=by have:=hLp.length_eq;rw[Array.length_toList,hl]at this;exact xh this.symm
    subst this;simpa using hp
   ·simp only[Instr.next,Sem.run_bind,j0,Result.andThen_ok,vT,hst,hl0];simp [-Go.run_choose,-Go.run_choose_drew,hch]
  ·have hlt':∀e∈L.toList,e.born<aI:=λe he=>h7.1 e (by rw[Dc]at he;exact(List.mem_filter.1 he).1)
   obtain⟨f1,f2⟩:=filter_all hlt'
   have hne:L.isEmpty=false:=by rw[Array.isEmpty_eq_false_iff];intro k;rw[k]at hl;simp at hl
   obtain⟨j,w',hj,hch,hb,hw⟩:=choose_lt (P:=P) W (n:=L.size) (by omega);obtain⟨e,LJ⟩:∃e,L[j]? =some e:=⟨_,uU hj⟩
   have n1:L.toList[j]? =some e:=by rw[Array.getElem?_toList];exact LJ
   have Wd:e∈L.toList:=cS n1;have h3':w'.heap[r]? =some (.mapIter (some m) aI seen aI):=by rw[hw];exact h3
   have hlt:r<w'.heap.size:=(mw.1 h3').1
   have sI:(setObj r (.mapIter (some m) aI (seen.push e.born) aI)).run P w'=.ok () (w'.eS r (.mapIter (some m) aI (seen.push e.born) aI)):=by simp [setObj,Sem.run,h3',World.eS]
   obtain⟨la,lb,arQ⟩:=List.append_of_mem (hLp.mem_iff.1 Wd);refine .inr ⟨e,w'.eS r (.mapIter (some m) aI (seen.push e.born) aI),by rw[Dc]at Wd;exact(List.mem_filter.1 Wd).1,?_,⟨aI,h7,?_,?_,la++lb,?_⟩,⟨hb.os,hb.tape,hb.output,?_,λk hk hkr=>?_⟩⟩
   ·simp only[Instr.next,Sem.run_bind,j0,Result.andThen_ok,vT,hst,←hL,f1,f2,hne];simp [-Go.run_choose,-Go.run_choose_drew,hch,LJ,sI]
   ·have arR:r≠m:=λk=>hmr (by rw[k])
    rw[wM _ arR,hw];exact h6
   ·rw[vM _ hlt,FC];congr 2;simp
   ·refine List.Perm.trans ?_ hp;rw[lU,arQ];exact List.Perm.append_left _ (show(e::(la++lb)).Perm (la++e::lb)from List.perm_middle.symm)
   ·rw[yg];exact hb.size
   ·rw[wM _ (λq=>hkr (by rw[q]))];exact hb.block k hk
theorem qH.entry{P:Program}{W:World}{m r:Nat}{es:Array MapEntry}{done:List MapEntry}{e:MapEntry}(h:qH W (some m) r es (done++[e])):(Instr.entry (.pointer (some ⟨r,0,none⟩))).run P W=.ok (.tuple #[e.key,e.val]) W:=by
 obtain⟨aI,h7,h6,h3,left,hp⟩:=h;have j0:(getObj r).run P W=.ok (.mapIter (some m) aI ((done++[e]).map (·.born)).toArray aI) W:=by simp [getObj,Sem.run,show W.heap[r]? =_ from h3]
 have vT:(getObj m).run P W=.ok (.map es aI) W:=by simp [getObj,Sem.run,show W.heap[m]? =_ from h6]
 have hf:es.find? (λx=>x.born==e.born)=some e:=by rw[←Array.find?_toList];exact find_born (f:=(·.born)) h7.2 (hp.mem_iff.1 (by simp))
 simp [Instr.entry,j0,vT,hf]
section
variable {F : Fence} {n : Nat} {P : Program} (w : World) {ops : Array Oper} {rest : List Oper} {o : Oper} {a : Act} {Q : Exit → Act → World → Prop}
theorem amH(hg:o.guard=none)(m:Operand)(t:TypeId)(hop:o.op=Op.range t m)(k e:TypeId)(ht:P.underlying t=some (.map k e))(mb:Option Nat)(es:Array MapEntry)
  (hm:a.eval m=.map mb) (hs:Bl w mb es)
  (hK:∀w',qH w' mb w.heap.size es []→w.grownBy w' none→w'.heap.size=w.heap.size+1→wpListIn F n P ops Q rest (a.put o.dst (.pointer (some ⟨w.heap.size,0,none⟩))) w'):
  wpListIn F n P ops Q (o::rest) a w:=by
 refine wpListIn_plain hg λK' PC=>?_
 obtain⟨o',hrun,r1⟩:=hs.range (P:=P) ht;unfold Oper.wpIn;refine⟨?_,?_⟩
 ·simp [Oper.about,hop]
 ·rw[Oper.semAt_plain F _ _ (by rw[hop];intro c qO;cases qO)];simp [execOp,hop,hm,hrun,Result.andThen];exact PC _ _ (hK _ r1 (World.grownBy_alloc w o' none) (by simp))
theorem aow(hg:o.guard=none)(it:Operand)(hop:o.op=Op.next it false)(mb:Option Nat)(r:Nat)(es:Array MapEntry)(done:List MapEntry)
  (hit:a.eval it=.pointer (some ⟨r,0,none⟩)) (h:qH w mb r es done) (hmr:mb≠some r)
  (hDone:∀w',done.Perm es.toList→w.grownBy w' none→wpListIn F n P ops Q rest (a.put o.dst (.tuple #[.bool false])) w')
  (hMore:∀(e:MapEntry)(w':World),e∈es.toList→qH w' mb r es (done++[e])→w.grownBy w' (some r)→(Instr.entry (.pointer (some ⟨r,0,none⟩))).run P w'=.ok (.tuple #[e.key,e.val]) w'→wpListIn F n P ops Q rest (a.put o.dst (.tuple #[.bool true,e.key,e.val])) w'):
  wpListIn F n P ops Q (o::rest) a w:=by
 refine wpListIn_plain hg λK' PC=>?_
 unfold Oper.wpIn;refine⟨by simp [Oper.about,hop],?_⟩;rw[Oper.semAt_plain F _ _ (by rw[hop];intro c qO;cases qO)];rcases h.next (P:=P) hmr o.type with⟨h0,W',hrun,hg'⟩|⟨e,W',he,hrun,h',hg'⟩
 ·simp [execOp,hop,hit,hrun,Result.andThen];exact PC _ _ (hDone W' h0 hg')
 ·simp [execOp,hop,hit,hrun,Result.andThen];obtain⟨m,rfl⟩:=h'.adL;exact PC _ _ (hMore e W' he h' hg' h'.entry)
end
end
section
open Go.RowKit Go.Sort
set_option maxRecDepth 100000
def sE(k:aG):Value:=.agg #[.int .i64 k.unit,.string k.param]
def KY:Value→aG
 |.agg #[.int _ u,.string s]=>⟨u,s⟩
 |_=>⟨0,⟨#[]⟩⟩
theorem Tp(l:List aG):(l.map sE).map KY=l:=by
 rw[List.map_map];conv=>rhs;rw[←List.map_id l]
 exact List.map_congr_left λk _=>rfl
theorem akY{a b:List aG}(h:(a.map sE).Perm (b.map sE)):a.Perm b:=by have:=h.map KY;rwa[Tp,Tp]at this
def vN(es:List MapEntry)(ks:List aG):Prop:=es.map (·.key)=ks.map sE
theorem vN.mem{es:List MapEntry}{ks:List aG}(h:vN es ks){e:MapEntry}(he:e∈es):∃k,e.key=sE k:=by have:e.key∈es.map (·.key):=gB.2 ⟨e,he,rfl⟩;rw[h]at this;obtain⟨k,_,hk⟩:=gB.1 this;exact⟨k,hk.symm⟩
set_option maxHeartbeats 1000000 in
theorem akF(F:Fence)(n:Nat)(LB:F.fn 119)(hro:F.round=none)(hn:1≤n)(l Bm off:Nat)(mb:Option Nat)(es:Array MapEntry)(ks:List aG)(hks:vN es.toList ks)(J:List aG→World→Prop)
  (hY:∀pre x W,J pre W→pre.length<es.size→YieldAt F (n-1) Tryz.prog l #[sE x] W λe W'=>e=.returned (.bool true)∧J (pre++[x]) W'∧KeepsWalks W W')
  (W:World) (hJ:AbidesFrom W.heap.size J) (hm:W.cell? ⟨Bm,off,none⟩=some (.map mb)) (hs:Bl W mb es) (h0:J [] W):
  CallsIn F n Tryz.prog 119 #[.func (.yield l) #[] #[],.pointer (some ⟨Bm,off,none⟩)] W λe W'=>(∃v,e=.returned v)∧∃ss:List aG,ss.Perm ks∧J ss W':=by
 have hsz:∀m,mb=some m→m<W.heap.size:=λm e=>by subst e;obtain⟨_,_,h⟩:=hs;exact(mw.1 h).1
 refine callsIn_of_wp Tryz.func119 rfl LB ?_ hro;simp only[Tryz.ntmps119,List.size_toArray,List.length_cons,List.length_nil,Nat.reduceAdd,Nat.reduceSub,Array.replicate_succ,Array.replicate_zero,List.push_toArray,List.append_toArray,List.nil_append,nI]
 gi_wp2_with (first
  |(gi_at_range;refine amH _ rfl _ 107 rfl _ _ Tryz.underlying107 mb es rfl hs ?_;intro w0 arX Ja hs0)
  |gi_in)
 go_frame
 gi_loopw [3] (λ_ wr=>∃(done:List MapEntry)(ss:List aG),qH wr mb W.heap.size es done∧vN done ss∧J ss wr)
  (λ_ wr=>match wr.heap[W.heap.size]? with|some (.mapIter _ _ seen _)=>es.size-seen.size|_=>0)
 case atStart=>
  exact⟨[],[],arX,rfl,hJ [] W w0 none h0 Ja (λr e=>by cases e)⟩
 case round=>
  obtain⟨done,ss,hit,Pj,hJs⟩:=hrel;have hmr:mb≠some W.heap.size:=λe=>Nat.lt_irrefl _ (hsz _ e)
  gi_wp2_with (first
   |(gi_at_next;refine aow _ rfl _ rfl mb W.heap.size es done rfl hit hmr ?_ ?_)
   |gi_in)
  ·intro w' hp hg
   gi_wp2
   go_end0
   refine⟨⟨_,rfl⟩,ss,?_,hJ ss wr w' none hJs hg (λr e=>by cases e)⟩;have h1:=hp.map (·.key);rw[Pj,hks]at h1;exact akY h1
  ·intro e w' he ad7 hg EB;obtain⟨k,hk⟩:=hks.mem (by simpa using he);rw[hk]at EB ⊢;unfold sE at EB ⊢;obtain⟨W2,yU⟩:∃W2,w'.alloc (.cells #[.int .i64 k.unit,.string k.param] 45)=W2:=⟨_,rfl⟩
   have arP:vN (done++[e]) (ss++[k]):=by unfold vN at Pj ⊢;rw[List.map_append,List.map_append,Pj,ef,List.map_nil,ef,List.map_nil,hk]
   have xP:done.length=ss.length:=by have:=congrArg List.length Pj;simpa using this
   have qd:=ad7.len;rw[List.length_append,List.length_singleton]at qd;have hJ1:J ss w':=hJ ss wr w' (some W.heap.size) hJs hg (λr q=>by cases q;exact⟨bD _,hit.iter⟩);have hg2:w'.grownBy W2 none:=by rw[←yU];exact World.grownBy_alloc w' _ none
   have hJ2:J ss W2:=hJ ss w' W2 none hJ1 hg2 (λr q=>by cases q);have hk2:KeepsWalks w' W2:=by rw[←yU];exact KeepsWalks.alloc _ _
   obtain⟨fn,tmps,assign,body,hy,hR⟩:=hY ss k W2 hJ2 (by omega);unfold sE at hy;subst yU;clear hg2 hJ2 hJ1
   gi_wp2
   refine hR.mono ?_;rintro e W3 ⟨rfl,hJ3,Wh⟩
   gi_wp2
   have U3:=(ad7.walks hk2).walks Wh
   go_roundw
   case rel=>exact⟨_,ss++[k],U3,arP,hJ3⟩
   case measure=>
    obtain⟨m,rfl⟩:=U3.adL;obtain⟨_,_,_,a1,_⟩:=U3;obtain⟨_,_,_,a2,_⟩:=hit;rw[a1,a2];simp;omega
def WI:Code→Code×Code
 |.seq _ (.seq (.seq _ (.block _ (.rangeFunc _ _ a b))) _)=>(a,b)
 |_=>(.ret,.ret)
noncomputable def I2:Code×Code:=match Tryz.prog.funcs[171]? with
 |some f=>(match f.body with|some c=>WI c|none=>(.ret,.ret))
 |none=>(.ret,.ret)
def wS(x:aG):List Value:=[.int .i64 x.unit,.string x.param]
noncomputable def yy (fn:FuncId) (sv:Value) (Bs D:Nat) (st:LoopState) (asn:Option Code):Loop:={state:=st,pending:=asn,fn,tmps:=#[.slice none 0 0,sv,.pointer (some ⟨Bs,0,none⟩),undef,.slice none 0 0,undef,sv,undef,undef,undef,undef,undef,undef],params:=#[7],assign:=I2.1,body:=I2.2,defers:=D}
structure KI (w0 : World) (fn : FuncId) (sv : Value) (Bs l D : Nat) (ss : List aG) (W : World) : Prop where
 box:∃v,W.heap[Bs]? =some (.cells #[v] 93 (0,0))∧W.ownsRow w0.heap.size 45 2 v ss.length (ss.flatMap wS)∧(v=.slice none 0 0↔ss=[])
 L:W.heap[l]? =some (.loop (yy fn sv Bs D .ready none))
 K:W.heap[D]? =some (.deferred (some []))
 below:Below w0.heap.size w0 W
theorem ago{W W':World}{row:Option Nat}{base:Nat}{e:TypeId}{size:Nat}{v:Value}{k:Nat}{xs:List Value}(h:W.ownsRow base e size v k xs)(hg:W.grownBy W' row)
  (hrow:∀r,row=some r→∃o:Obj,W.heap[r]? =some o∧o.isWalk=true):W'.ownsRow base e size v k xs:=by
 refine h.kept hg ?_;rcases h.2 with⟨rfl,_⟩|⟨g,cap,cur,rfl,_,BC,_⟩
 ·exact .inl rfl
 ·refine .inr λe'=>?_
  obtain⟨o,ho,hw⟩:=hrow g (by simpa [Value.ownBlock]using e'.symm);rw[BC]at ho;cases ho;cases hw
theorem akc(w0:World)(fn:FuncId)(sv:Value)(Bs l D B:Nat)(hB:w0.heap.size≤B):AbidesFrom B (KI w0 fn sv Bs l D):=λs W W' row h hg hrow=>by
 have OY:∀r,row=some r→∃o:Obj,W.heap[r]? =some o∧o.isWalk=true:=λr e=>(hrow r e).2
 obtain⟨v,hv,hr,hn⟩:=h.box
 exact⟨⟨v,(grownBy_keeps hg OY hv rfl).trans hv,ago hr hg OY,hn⟩,(grownBy_keeps hg OY h.L rfl).trans h.L,(grownBy_keeps hg OY h.K rfl).trans h.K,
  h.below.grown hg h.below.size (λk e=>Nat.le_trans hB (hrow k e).1)⟩
theorem Hf(W:World)(l:Nat)(o:Obj):W.grownBy (W.putObj l o) (some l):=
 ⟨rfl,rfl,rfl,by simp,λk _ hk=>World.putObj_heap_other (λe=>hk (by rw[e]))⟩
theorem afW(W:World)(b:Nat)(v:Value):W.grownBy (W.setCell ⟨b,0,none⟩ v) (some b):=
 ⟨rfl,rfl,rfl,(KeepsWalks.setCell W _ v).size,λk _ hk=>Below.heap_setCell _ _ _ k (λe=>hk (by rw[e]))⟩
theorem Hu{W:World}{base:Nat}{e:TypeId}{size:Nat}{v:Value}{k:Nat}{xs:List Value}(h:W.ownsRow base e size v k xs){j:Nat}{o:Obj}(hj:W.heap[j]? =some o)(hno:∀cur,o≠.cells cur e (0,0)):
  v.ownBlock=none∨v.ownBlock≠some j:=by
 rcases h.2 with⟨rfl,_⟩|⟨g,cap,cur,rfl,_,BC,_⟩
 ·exact .inl rfl
 ·refine .inr λe'=>?_
  have:g=j:=by simpa [Value.ownBlock]using e'
  subst this;rw[BC]at hj;cases hj;exact hno cur rfl
theorem Rc{W:World}{B:Nat}{v:Value}{t:TypeId}(h:W.heap[B]? =some (.cells #[v] t (0,0))):W.cell? ⟨B,0,none⟩=some v∧W.frozen? ⟨B,0,none⟩=false:=by constructor<;>simp [World.cell?,World.frozen?,h]
theorem afZ{W:World}{B:Nat}{v:Value}{t:TypeId}(v':Value)(h:W.heap[B]? =some (.cells #[v] t (0,0))):(W.setCell ⟨B,0,none⟩ v').heap[B]? =some (.cells #[v'] t (0,0)):=by obtain⟨hlt,hk⟩:=mw.1 h;show(W.heap.modify B _)[B]? =_;rw[uU (by rw[Array.size_modify];exact hlt),Array.getElem_modify_self,hk];rfl
theorem af0{W:World}{base:Nat}{e:TypeId}{size:Nat}{v:Value}{k:Nat}{xs:List Value}(h:W.ownsRow base e size v k xs):∀(j:Nat)(o:Obj),v.ownBlock=some j→W.heap[j]? =some o→o.isWalk=false:=by
 intro j o hj ho;rcases h.2 with⟨rfl,_⟩|⟨g,cap,cur,rfl,_,BC,_⟩
 ·simp [Value.ownBlock]at hj
 ·have:g=j:=by simpa [Value.ownBlock]using hj
  subst this;rw[BC]at ho;cases ho;rfl
set_option maxHeartbeats 2000000 in
theorem amP(F:Fence)(m:Nat)(w0:World)(fn:FuncId)(hfn:F.fn fn)(sv:Value)(Bs l D:Nat)(V2:Bs≠l)(hDl:D≠l)(hDB:D≠Bs)(h0B:w0.heap.size≤Bs)(h0l:w0.heap.size≤l)
  (N:Nat) (hN:N≤maxLen) (hNb:N*24≤140737488355328) (ss:List aG) (x:aG) (W:World) (h:KI w0 fn sv Bs l D ss W) (hlen:ss.length<N):
  YieldAt F m Tryz.prog l #[sE x] W λe W'=>e=.returned (.bool true)∧KI w0 fn sv Bs l D (ss++[x]) W'∧KeepsWalks W W':=by
 obtain⟨i0,hi,gf,hz1,GB⟩:∃i,Tryz.prog.info? 45=some i∧i.zero=some (.agg #[.int .i64 0,.string ⟨#[]⟩])∧i.size=2∧i.bytes=24:=⟨_,rfl,rfl,rfl,rfl⟩
 obtain⟨v,hv,hrow,_⟩:=h.box;refine⟨fn,#[.slice none 0 0,sv,.pointer (some ⟨Bs,0,none⟩),undef,.slice none 0 0,undef,sv,sE x,undef,undef,undef,undef,undef],I2.1,I2.2,by simpa [yy]using run_yield (P:=Tryz.prog) (args:=#[sE x]) h.L rfl,roundIn_of_wpIn hfn ?_⟩;have hl:l<W.heap.size:=(mw.1 h.L).1;have hB0:Bs<W.heap.size:=(mw.1 hv).1;have hD0:D<W.heap.size:=(mw.1 h.K).1;obtain⟨W1,uw⟩:∃W1,W1=W.alloc (.cells #[.int .i64 x.unit,.string x.param] 45):=⟨_,rfl⟩
 have hs1:W1.heap.size=W.heap.size+1:=by rw[uw];simp
 have hk1:KeepsWalks W W1:=by rw[uw];exact KeepsWalks.alloc _ _
 have BD:∀k,k<W.heap.size→W1.heap[k]? =W.heap[k]? :=λk hk=>by rw[uw];exact Below.heap_alloc _ _ k hk
 have hn1:W1.heap[W.heap.size]? =some (.cells #[.int .i64 x.unit,.string x.param] 45 (0,0)):=by rw[uw];exact World.alloc_heap_new W _
 have PE:=(BD l hl).trans h.L;have Ud:W1.ownsRow w0.heap.size 45 2 v ss.length (ss.flatMap wS):=by rw[uw];exact hrow.alloc _
 have BA:Below w0.heap.size w0 W1:=by rw[uw];exact h.below.alloc h.below.size _
 have hbr:=run_beginRound (P:=Tryz.prog) PE rfl;obtain⟨W2,yU⟩:∃W2,W1.putObj l (.loop {yy fn sv Bs D .ready none with state:=.busy})=W2:=⟨_,rfl⟩
 rw[yU]at hbr;have hg2:W1.grownBy W2 (some l):=by rw[←yU];exact Hf _ _ _
 have hk2:KeepsWalks W1 W2:=by rw[←yU];exact KeepsWalks.putObj _ PE rfl
 have BE:W2.heap[Bs]? =some (.cells #[v] 93 (0,0)):=by rw[←yU];exact(World.putObj_heap_other V2).trans ((BD Bs hB0).trans hv)
 have V5:W2.heap[D]? =some (.deferred (some [])):=by rw[←yU];exact(World.putObj_heap_other hDl).trans ((BD D hD0).trans h.K)
 have V7:W2.heap[l]? =some (.loop {yy fn sv Bs D .ready none with state:=.busy}):=by rw[←yU];exact World.putObj_heap_same (by omega)
 have OZ:W2.ownsRow w0.heap.size 45 2 v ss.length (ss.flatMap wS):=Ud.kept hg2 (Hu Ud PE (λcur e=>by cases e));have vq:Below w0.heap.size w0 W2:=BA.grown hg2 BA.size (λk e=>by cases e;exact h0l);have hn2:W2.heap[W.heap.size]? =some (.cells #[.int .i64 x.unit,.string x.param] 45 (0,0)):=by rw[←yU];exact(World.putObj_heap_other (by omega)).trans hn1
 have hx0:W2.cell? ⟨W.heap.size,0,none⟩=some (.int .i64 x.unit):=by simp [World.cell?,hn2]
 have hx1:W2.cell? ⟨W.heap.size,1,none⟩=some (.string x.param):=by simp [World.cell?,hn2]
 obtain⟨wB,vu⟩:=Rc BE;have arv:Bs<W2.heap.size:=(mw.1 BE).1;have qd:l<W2.heap.size:=(mw.1 V7).1;have arw:D<W2.heap.size:=(mw.1 V5).1;have arO:=hk1.trans hk2
 have Uj:∀{j:Nat}{o:Obj},W2.heap[j]? =some o→(∀cur,o≠.cells cur 45 (0,0))→some j≠v.ownBlock:=λhj hno=>by
  rcases Hu OZ hj hno with e|e
  ·rw[e];simp
  ·exact λe'=>e e'.symm
 clear yU Ud BA hg2 hk1 hk2 BD hn1 PE;subst uw;simp only[I2,Tryz.func171,Tryz.f171,WI];unfold sE
 gi_wp2_with (first
  | (
    gi_at_builtin;refine wpListIn_append_own _ rfl _ _ 93 rfl w0.heap.size 45 i0 _ 2 24 Tryz.underlying93 hi gf hz1 GB rfl (by decide) _ _ _ rfl (OZ.alloc _) ⟨W2.heap.size,0,none⟩ 1 1 [.int .i64 x.unit,.string x.param] rfl rfl (λj u hj=>?_) (by simp [Value.oneCell']) (by omega) (by omega) (by have:=vq.size;simp;omega) ?_
    ·rcases j with _|_|j
     ·simp at hj;subst hj;simp [Addr.add]
     ·simp at hj;subst hj;simp [Addr.add]
     ·simp at hj
    intro v' w3 Ub hg3 atM;have L0:w3.heap[Bs]? =some (.cells #[v] 93 (0,0)):=(hg3.block Bs (by simp;omega) (Uj BE (λcur e=>by cases e))).trans ((Below.heap_alloc _ _ Bs arv).trans BE);obtain⟨Dd,hf3⟩:=Rc L0
    obtain⟨g',cap',cur',rfl,atC,at7,mH,vw,Je,Wq⟩:∃g' cap' cur',v'=.slice (some ⟨g',0,none⟩) (ss.length+1) cap'∧w0.heap.size≤g'∧w3.heap[g']? =some (.cells cur' 45 (0,0))∧ss.length+1≤cap'∧cap'≤maxLen∧cur'.size=cap'*2∧cur'.toList.take ((ss.length+1)*2)=ss.flatMap wS++[.int .i64 x.unit,.string x.param]:=by
     rcases Ub.2 with⟨_,h0⟩|h'
     ·exact absurd h0 (by omega)
     ·exact h'
    go_frame)
  |(rw[Oper.semAt_eq _ _ _ (λc h=>by cases h)];go_simp;try go_bits))
 have Ph:(W2.alloc (.cells #[.int .i64 x.unit,.string x.param] 45)).grownBy w3 v.ownBlock:=hg3;have hL3:w3.heap[l]? =some (.loop {yy fn sv Bs D .ready none with state:=.busy}):=(Ph.block l (by simp;omega) (Uj V7 (λcur e=>by cases e))).trans ((Below.heap_alloc _ _ l qd).trans V7);have LI:w3.heap[D]? =some (.deferred (some [])):=(Ph.block D (by simp;omega) (Uj V5 (λcur e=>by cases e))).trans ((Below.heap_alloc _ _ D arw).trans V5);obtain⟨w4,L2⟩:∃w4,w3.setCell ⟨Bs,0,none⟩ (.slice (some ⟨g',0,none⟩) (ss.length+1) cap')=w4:=⟨_,rfl⟩
 rw[L2];have hg4:w3.grownBy w4 (some Bs):=by rw[←L2];exact afW _ _ _
 have hv4:w4.heap[Bs]? =some (.cells #[.slice (some ⟨g',0,none⟩) (ss.length+1) cap'] 93 (0,0)):=by rw[←L2];exact afZ _ L0
 have PF:w4.heap[l]? =some (.loop {yy fn sv Bs D .ready none with state:=.busy}):=(hg4.block l (mw.1 hL3).1 (λe=>V2 (by cases e;rfl))).trans hL3;have hK4:w4.heap[D]? =some (.deferred (some [])):=(hg4.block D (mw.1 LI).1 (λe=>hDB (by cases e;rfl))).trans LI;have adE:=Ub.kept hg4 (Hu Ub L0 (λcur e=>by cases e));have hl4:l<w4.heap.size:=(mw.1 PF).1;have LN:Below w0.heap.size w0 w3:=(vq.alloc vq.size _).grown Ph (by have:=vq.size;simp;omega) (λk e=>(OZ.lt k e).1);have hb4:Below w0.heap.size w0 w4:=LN.grown hg4 LN.size (λk e=>by cases e;exact h0B);have hk4:KeepsWalks W w4:=((arO.trans (KeepsWalks.alloc _ _)).trans (KeepsWalks.of_grownBy Ph (af0 (OZ.alloc _)))).trans (by rw[←L2];exact KeepsWalks.setCell _ _ _);clear L2;refine⟨_,_,run_endRound none PF,rfl,⟨⟨_,(World.putObj_heap_other V2).trans hv4,?_,by simp⟩,World.putObj_heap_same hl4,(World.putObj_heap_other hDl).trans hK4,hb4.grown (Hf _ _ _) hb4.size (λk e=>by cases e;exact h0l)⟩,hk4.trans (KeepsWalks.putObj _ PF rfl)⟩;have:=adE.kept (Hf w4 l (.loop {{yy fn sv Bs D .ready none with state:=.busy}with state:=if(none:Option Code).isNone then .ready else .done,pending:=none})) (Hu adE PF (λcur e=>by cases e));simpa [wS]using this
set_option maxHeartbeats 2000000 in
theorem ag7(F:Fence)(n:Nat)(h11:F.fn 171)(hro:F.round=none)(hn:2≤n)(g:Nat)(lb:Array Value)(hFg:F.fn g)(eg:∀args w,(callFunc g args).run Tryz.prog w=.ok (.enter g args) w)
  (S:List aG→Prop) (N:Nat) (hN:N≤maxLen) (hNb:N*24≤140737488355328) (w:World) (Vc:SeqGives F (n-1) Tryz.prog g lb sE S N w):
  CallsIn F n Tryz.prog 171 #[.slice none 0 0,.func (.func g) #[] lb] w λe w'=>∃(v:Value)(ss:List aG),e=.returned v∧S ss∧w'.ownsRow w.heap.size 45 2 v ss.length (ss.flatMap wS)∧(v=.slice none 0 0↔ss=[])∧Below w.heap.size w w':=by
 have h1:1≤n:=by omega
 refine callsIn_of_wp_marks Tryz.func171 rfl h11 ?_ hro;simp only[Tryz.ntmps171,List.size_toArray,List.length_cons,List.length_nil,Nat.reduceAdd,Nat.reduceSub,Array.replicate_succ,Array.replicate_zero,List.push_toArray,List.append_toArray,List.nil_append,nI]
 gi_wp2
 refine wpIn_rangeFunc ?_;intro fn hfn;rw[hro];obtain⟨W0,uv⟩:∃W0,w.alloc (.cells #[.slice none 0 0] 93)=W0:=⟨_,rfl⟩
 have hs0:W0.heap.size=w.heap.size+1:=by rw[←uv];simp
 have hv0:W0.heap[w.heap.size]? =some (.cells #[.slice none 0 0] 93 (0,0)):=by rw[←uv];exact World.alloc_heap_new w _
 have hb0:Below w.heap.size w W0:=by rw[←uv];exact(Below.refl _ w).alloc (bD _) _
 rw[uv];obtain⟨W1,uw⟩:∃W1,(W0.alloc (.deferred (some []))).alloc (.loop (yy fn (.func (.func g) #[] lb) w.heap.size W0.heap.size .ready none))=W1:=⟨_,rfl⟩
 have hold:∀k,k<W0.heap.size→W1.heap[k]? =W0.heap[k]? :=λk hk=>by rw[←uw];exact(Below.heap_alloc _ _ k (by simp;omega)).trans (Below.heap_alloc _ _ k hk)
 have BA:Below w.heap.size w W1:=by rw[←uw];exact(hb0.alloc hb0.size _).alloc (by have:=hb0.size;simp;omega) _
 have hs1:W1.heap.size=W0.heap.size+2:=by rw[←uw];simp
 have hM:KI w fn (.func (.func g) #[] lb) w.heap.size (W0.heap.size+1) W0.heap.size [] W1:=
  ⟨⟨_,(hold w.heap.size (by omega)).trans hv0,⟨rfl,.inl ⟨rfl,rfl⟩⟩,by simp⟩,
   by rw[←uw];have:=World.alloc_heap_new (W0.alloc (.deferred (some []))) (.loop (yy fn (.func (.func g) #[] lb) w.heap.size W0.heap.size .ready none));rwa[World.size_alloc]at this,
   by rw[←uw];exact(Below.heap_alloc _ _ _ (by simp)).trans (World.alloc_heap_new W0 _),BA⟩
 refine⟨W0.heap.size+1,[{target:=.collected W0.heap.size,args:=#[]}],W1,{target:=.fn (.func g) lb,args:=#[.func (.yield (W0.heap.size+1)) #[] #[]]},W1,g,
  #[.func (.yield (W0.heap.size+1)) #[] #[]]++lb,W1,?_,?_,?_,?_,λ_=>h1,?_⟩
 ·rw[←uw];unfold yy;simp only[I2,Tryz.func171,Tryz.f171,WI];exact run_enterLoop_outer _ _ _ _ _
 ·simp [resolve,go_sem]
 ·intro f' hf';simp [Target.leads]at hf';subst hf';exact hFg
 ·simp [invoke,go_sem,eg]
 ·refine(Vc (W0.heap.size+1) (KI w fn (.func (.func g) #[] lb) w.heap.size (W0.heap.size+1) W0.heap.size) W1 BA (akc _ _ _ _ _ _ _ BA.size)
   (λpre x W hJ hl=>amP F (n-1-1) w fn hfn _ w.heap.size (W0.heap.size+1) W0.heap.size (by omega) (by omega) (by omega) (bD _) (by omega) N hN hNb pre x W hJ hl) hM).mono ?_
  rintro e W2 ⟨⟨v0,rfl⟩,ss,hS,h2⟩;obtain⟨v,hv,hrow,IE⟩:=h2.box;have hend:=run_endLoop (P:=Tryz.prog) h2.L (by simp [yy]);obtain⟨W3,LM⟩:∃W3,W2.putObj (W0.heap.size+1) (.loop {yy fn (.func (.func g) #[] lb) w.heap.size W0.heap.size .ready none with state:=.exhausted})=W3:=⟨_,rfl⟩
  rw[LM]at hend;have hg3:W2.grownBy W3 (some (W0.heap.size+1)):=by rw[←LM];exact Hf _ _ _
  have L0:W3.heap[w.heap.size]? =some (.cells #[v] 93 (0,0)):=by rw[←LM];exact(World.putObj_heap_other (by omega)).trans hv
  have LI:W3.heap[W0.heap.size]? =some (.deferred (some [])):=by rw[←LM];exact(World.putObj_heap_other (by omega)).trans h2.K
  have adD:=hrow.kept hg3 (Hu hrow h2.L (λcur e=>by cases e));have LN:Below w.heap.size w W3:=h2.below.grown hg3 h2.below.size (λk e=>by cases e;omega);obtain⟨Dd,hf3⟩:=Rc L0;clear LM;refine⟨none,W3,hend,?_⟩
  gi_wp2
  rw[←hs0];refine⟨by simp,.inl ⟨_,_,rfl,run_takeDeferred LI,?_⟩⟩;exact⟨_,results_tmp rfl _ _ _,v,ss,rfl,hS,adD.kept (Hf _ _ _) (Hu adD LI (λcur e=>by cases e)),IE,LN.grown (Hf _ _ _) LN.size (λk e=>by cases e;omega)⟩
theorem ahx(Bm off:Nat)(mb:Option Nat)(es:Array MapEntry)(ks:List aG)(hks:vN es.toList ks)(hlen:ks.length≤1000000)(w:World)(hm:w.cell? ⟨Bm,off,none⟩=some (.map mb))(V3:Bm<w.heap.size)(hs:Bl w mb es):
  Calls Tryz.prog 117 #[.func (.func 119) #[] #[.pointer (some ⟨Bm,off,none⟩)]] w λe w'=>∃(v:Value)(ss:List aG),e=.returned v∧ss.Perm ks∧w'.ownsRow w.heap.size 45 2 v ss.length (ss.flatMap wS)∧(v=.slice none 0 0↔ss=[])∧Below w.heap.size w w':=by
 have hl:es.size=ks.length:=by have:=congrArg List.length hks;simpa using this
 have Vc:∀W,Below w.heap.size w W→SeqGives Fence.wide 8 Tryz.prog 119 #[.pointer (some ⟨Bm,off,none⟩)] sE (λss=>ss.Perm ks) es.size W:=λW hW l J W1 uw hJ hY h0=>by have hb:Below w.heap.size w W1:=hW.trans (uw.mono hW.size);exact akF Fence.wide 8 trivial rfl (by omega) l Bm off mb es ks hks J hY W1 hJ (by rw[cell_of_block (hb.block Bm V3)];exact hm) (hs.below hb) h0
 have hN0:es.size≤maxLen:=Nat.le_trans (by omega) (show(1000000:Nat)≤maxLen by decide);have hA:=λW(hW:Below w.heap.size w W)=>callsIn_wide.1 (ag7 Fence.wide 9 trivial rfl (by omega) 119 #[.pointer (some ⟨Bm,off,none⟩)] trivial Tryz.call119 (λss=>ss.Perm ks) es.size hN0 (by omega) W (Vc W hW))
 have hA0:=hA w (Below.refl _ _)
 go_enter Tryz.func117,Tryz.ntmps117
 go_wp2_with (go_at_call 171;refine hA0.mono ?_;rintro e w' ⟨v,ss,rfl,hS,hrow,IE,hb⟩)
 go_ret
 exact⟨v,ss,rfl,hS,hrow,IE,hb⟩
end
section
theorem bq(s t:ByteArray):(s==t)=decide (s=t):=by obtain⟨a⟩:=s;obtain⟨b⟩:=t;show(a==b)=_;rw[p4];simp
section
variable {α β : Type}
theorem cT(t e:Option α):A.cond (.bool true) t e=t:=rfl
theorem cF(t e:Option α):A.cond (.bool false) t e=e:=rfl
theorem gTT(e d:Option α):A.guard (.bool true) true e d=e:=rfl
theorem gTF(e d:Option α):A.guard (.bool true) false e d=d:=rfl
theorem gFT(e d:Option α):A.guard (.bool false) true e d=d:=rfl
theorem gFF(e d:Option α):A.guard (.bool false) false e d=e:=rfl
theorem pT(x y:AV):A.pick (.bool true) x y=some x:=rfl
theorem pF(x y:AV):A.pick (.bool false) x y=some y:=rfl
theorem Db{p:Prop}[Decidable p]{w:Bool}{e d:Option α}{f:α→Option β}:(A.guard (.bool (decide p)) w e d).bind f=if p then(A.guard (.bool true) w e d).bind f else(A.guard (.bool false) w e d).bind f:=by by_cases h:p<;>simp [h]
theorem Da{b w:Bool}{e d:Option α}{f:α→Option β}:(A.guard (.bool b) w e d).bind f=match b with|true=>(A.guard (.bool true) w e d).bind f|false=>(A.guard (.bool false) w e d).bind f:=by cases b<;>rfl
theorem C7{p:Prop}[Decidable p]{t e:Option α}:A.cond (.bool (decide p)) t e=if p then t else e:=by by_cases h:p<;>simp [h,A.cond]
theorem CH{p:Prop}[Decidable p]{t e:Option α}:A.cond (.bool (!decide p)) t e=if p then e else t:=by by_cases h:p<;>simp [h,A.cond]
theorem C6{b:Bool}{t e:Option α}:A.cond (.bool (!b)) t e=match b with|true=>e|false=>t:=by cases b<;>rfl
theorem C5{b:Bool}{t e:Option α}:A.cond (.bool b) t e=match b with|true=>t|false=>e:=by cases b<;>rfl
theorem gN(w:Bool)(e d:Option α):A.guard (.aM []) w e d=d:=rfl
theorem xN(a b:AX):(a==b)=decide (a=b):=by rw[p4];simp
end
section
variable (k : IntKind) (a b : Int) (p q : Prop) [Decidable p] [Decidable q] (s t : ByteArray) (x y : AV) (σ : Heap) (cs : au)
theorem mz:A.add (.ah a) (.ah b)=some (.ah (IntKind.i64.wrap (a+b))):=rfl
theorem sA:A.sub (.ah a) (.ah b)=some (.ah (IntKind.i64.wrap (a-b))):=rfl
theorem zI:A.mul (.ah a) (.ah b)=some (.ah (IntKind.i64.wrap (a*b))):=rfl
theorem ad1(h:b≠0):A.quo (.ah a) (.ah b)=some (.ah (IntKind.i64.wrap (a.tdiv b))):=by simp [A.quo,h]
theorem aqp(h:b≠0):A.rem (.ah a) (.ah b)=some (.ah (a.tmod b)):=by simp [A.rem,h]
theorem l8:A.lss (.ah a) (.ah b)=some (.bool (decide (a<b))):=rfl
theorem KJ:A.leq (.ah a) (.ah b)=some (.bool (decide (a≤b))):=rfl
theorem Iy:A.gtr (.ah a) (.ah b)=some (.bool (decide (b<a))):=rfl
theorem uc:A.geq (.ah a) (.ah b)=some (.bool (decide (b≤a))):=rfl
theorem adn:A.lss (.int .u8 a) (.int .u8 b)=some (.bool (decide (a<b))):=rfl
theorem adl:A.leq (.int .u8 a) (.int .u8 b)=some (.bool (decide (a≤b))):=rfl
theorem adj:A.gtr (.int .u8 a) (.int .u8 b)=some (.bool (decide (b<a))):=rfl
theorem adi:A.geq (.int .u8 a) (.int .u8 b)=some (.bool (decide (b≤a))):=rfl
theorem jQ:A.eql .i (.int k a) (.int k b)=some (.bool (decide (a=b))):=by simp only[A.eql,A.fM,A.pI,if_true,bZ];congr 2
theorem ij:A.neq .i (.int k a) (.int k b)=some (.bool (decide (¬a=b))):=by simp only[A.neq,A.fM,A.pI,if_true,bZ];congr 2;rw[p4];simp
theorem adY:A.eql .z (.str s) (.str t)=some (.bool (decide (s=t))):=by simp only[A.eql,A.fM,A.rK,bZ,bq]
theorem Uv:A.neq .z (.str s) (.str t)=some (.bool (decide (¬s=t))):=by simp only[A.neq,A.fM,A.rK,bZ,bq];simp
theorem ad0(b:Bool):A.not (.bool b)=some (.bool (!b)):=rfl
theorem ado:A.not (.bool (decide p))=some (.bool (decide (¬p))):=by simp [A.not]
theorem aLb:A.lb (.lbx cs)=some cs:=rfl
theorem ade(l:au):A.ext 0 (.aM (x::l))=some x:=rfl
theorem adf(x0 x:AV)(l:au):A.ext 1 (.aM (x0::x::l))=some x:=rfl
theorem adg(x0 x1 x:AV)(l:au):A.ext 2 (.aM (x0::x1::x::l))=some x:=rfl
theorem adh(x0 x1 x2 x:AV)(l:au):A.ext 3 (.aM (x0::x1::x2::x::l))=some x:=rfl
theorem aDe:A.deref (.rp cs) σ=some cs:=rfl
theorem aFa(o:Nat):A.aF o (.rp cs)=some (.rp (cs.drop o)):=rfl
theorem adk:A.Er (.str s)=some (.ah s.size):=rfl
theorem aCI(n:Int):A.cell (.int k n)=some (.int k n):=rfl
theorem aCB(b:Bool):A.cell (.bool b)=some (.bool b):=rfl
theorem aCS:A.cell (.str s)=some (.str s):=rfl
theorem adX(sz:Nat)(es:List au):A.cell (.sl sz es)=some (.sl sz es):=rfl
theorem WC(o k:Nat):A.ak o (cs.drop k)=A.ak (k+o) cs:=by simp [A.ak,List.getElem?_drop]
end
theorem gd0(a d:AV)(l:au):(a::l).getD 0 d=a:=rfl
theorem gd1(a b d:AV)(l:au):(b::a::l).getD 1 d=a:=rfl
theorem gd2(a b c d:AV)(l:au):(b::c::a::l).getD 2 d=a:=rfl
theorem gd3(a b c e d:AV)(l:au):(b::c::e::a::l).getD 3 d=a:=rfl
theorem gd4(a b c e f d:AV)(l:au):(b::c::e::f::a::l).getD 4 d=a:=rfl
theorem gd5(a b c e f g d:AV)(l:au):(b::c::e::f::g::a::l).getD 5 d=a:=rfl
theorem gd6(a b c e f g h d:AV)(l:au):(b::c::e::f::g::h::a::l).getD 6 d=a:=rfl
theorem gd7(a b c e f g h i d:AV)(l:au):(b::c::e::f::g::h::i::a::l).getD 7 d=a:=rfl
theorem gd8(a b c e f g h i j d:AV)(l:au):(b::c::e::f::g::h::i::j::a::l).getD 8 d=a:=rfl
theorem cL{n:Int}(h:aV n):IntKind.i64.wrap n=n:=IntWalk.i64_in n h
theorem wrap_eq{ro:Bool}{gD:List Sh}{ig:Sh}{r:au→Heap→aH}{args:au}{σ σ':Heap}{v v':AV}(h:args.any A.own=false)(e:r (A.cG gD args) σ=some (v,σ'))(hv:A.nn ig v=v'):A.wrap ro gD ig r args σ=some (v',σ'):=by unfold A.wrap;rw[h,Bool.and_false,bE,e];simp [hv]
theorem RY{v:AV}(n:Nat)(h:A.xe v=true):A.fresh v=true∧A.shift n v=v:=by cases v<;>first|exact⟨h,rfl⟩|cases h
theorem Zh{v:AV}(n:Nat)(h:A.F5 v=true):A.Ca v=true∧A.Bf n v=v:=by
 have key:(∀vs,v≠.aM vs)→A.Ca v=true∧A.Bf n v=v:=by intro k;have:=RY (v:=v) n;cases v<;>first|exact absurd rfl (k _)|exact this h
 by_cases ht:∃vs,v=.aM vs
 ·obtain⟨vs,rfl⟩:=ht;simp only[A.F5,vX]at h;refine⟨by simp only[A.Ca,vX];exact λx hx=>(RY n (h x hx)).1,?_⟩;simp only[A.Bf];congr 1
  calc vs.map (A.shift n)=vs.map id:=List.map_congr_left λx hx=>(RY n (h x hx)).2
   _=vs:=List.map_id vs
 ·exact key λvs e=>ht ⟨vs,e⟩
theorem abi{gD:List Sh}{ig:Sh}{r:au→Heap→aH}{args args':au}{σ:Heap}{v:AV}(h:args.any A.own=true)(hz:A.ga σ 0 8 args=some args')(ho:args'.any A.own=false)(e:A.wrap true gD ig r args' []=some (v,[]))(hs:A.F5 v=true):A.wrap true gD ig r args σ=some (v,σ):=by unfold A.wrap at e ⊢;rw[ho,Bool.and_false,bE]at e;obtain⟨⟨q1,q2⟩,e1,e2⟩:=eG.1 e;simp only[Prod.mk.injEq]at e2;obtain⟨rfl,rfl⟩:=e2;rw[h,Bool.and_self,ck,hz];simp [e1,(Zh σ.length hs).1,(Zh σ.length hs).2]
theorem bP(σ:Heap)(r:AV):A.fin σ r σ=some (r,σ):=by simp [A.fin]
theorem ZJ(σ:Heap)(n d:Nat){a:AV}(h:A.yD a=true):A.bG σ n d a=some a:=by
 cases a<;>simp only[A.yD]at h<;>first|(cases h;done)|skip
 case sl sz es=>cases es with
  |nil=>cases d<;>simp [A.bG,A.kT]
  |cons _ _=>simp at h
 all_goals cases d<;>simp [A.bG]
theorem YR(σ:Heap)(n d:Nat):∀{l:au},l.all A.yD=true→A.ga σ n d l=some l
 |[],_=>by simp [A.ga]
 |a::l,h=>by simp only[List.all_cons,jI]at h;simp [A.ga,ZJ σ n d h.1,YR σ n d h.2]
theorem ZK(σ:Heap)(n d:Nat){a:AV}(h:A.xe a=true):A.bG σ n d a=some a:=by
 unfold A.xe at h;split at h
 ·cases d<;>simp [A.bG,YR σ n _ h]
 ·exact ZJ σ n d h
theorem YS(σ:Heap)(n d:Nat):∀{l:au},l.all A.xe=true→A.ga σ n d l=some l
 |[],_=>by simp [A.ga]
 |a::l,h=>by simp only[List.all_cons,jI]at h;simp [A.ga,ZK σ n d h.1,YS σ n d h.2]
theorem alV(σ:Heap)(n d:Nat){a:AV}(h:A.F5 a=true):A.bG σ n d a=some a:=by
 unfold A.F5 at h;split at h
 ·cases d<;>simp [A.bG,YS σ n _ h]
 ·exact ZK σ n d h
theorem N5(σ bs:Heap){r:AV}(h:A.F5 r=true):A.fin σ r (σ++bs)=some (r,σ):=by
 unfold A.fin;split
 ·rfl
 ·rw[aQ (by simp),alV _ _ _ h];rfl
theorem Tr(σ bs:Heap)(k:IntKind)(n:Int):A.fin σ (.int k n) (σ++bs)=some (.int k n,σ):=N5 σ bs rfl
theorem aaB(σ bs:Heap)(b:Bool):A.fin σ (.bool b) (σ++bs)=some (.bool b,σ):=N5 σ bs rfl
theorem abw(σ bs:Heap)(s:ByteArray):A.fin σ (.str s) (σ++bs)=some (.str s,σ):=N5 σ bs rfl
theorem aaC(σ bs:Heap):A.fin σ (.aM []) (σ++bs)=some (.aM [],σ):=N5 σ bs rfl
theorem PJ(σ bs:Heap)(j:Nat):(σ++bs)[σ.length+j]? =bs[j]? :=by rw[iZ (by omega)];congr 1;omega
theorem IC(σ bs:Heap):(σ++bs)[σ.length]? =bs[0]? :=by rw[iZ (bD _),Nat.sub_self]
theorem sI(σ bs:Heap)(j:Nat)(b:aS):(σ++bs).set (σ.length+j) b=σ++bs.set j b:=by rw[qu _ _ (by omega)];congr 2;omega
theorem Ue(σ bs:Heap)(b:aS):(σ++bs).set σ.length b=σ++bs.set 0 b:=by rw[qu _ _ (bD _),Nat.sub_self]
section
variable {α : Type} (sz : Nat) (c : α → au) (l : List α)
theorem gH:A.bR (sl sz c l)=some (.ah l.length):=by simp [sl,A.bR]
theorem nQ{k:Nat}{x:α}(h:l[k]? =some x):A.aY sz (sl sz c l) (.ah (k:Int))=some (.rp (c x)):=by have hk:k<l.length:=(bM.1 h).1;have hx:l[k]=x:=(bM.1 h).2;simp [A.aY,sl,A.idx,hk,hx]
theorem akB{i:Int}{x:α}(h0:0≤i)(h:l[i.toNat]? =some x):A.aY sz (sl sz c l) (.ah i)=some (.rp (c x)):=by have:=nQ sz c l h;rwa[Int.toNat_of_nonneg h0]at this
end
inductive Rd (S R : Type) where
 |go(s:S)
 |out(r:R)
def Rd.el{S R γ:Type}(x:Rd S R)(f:S→γ)(g:R→γ):γ:=match x with|.go s=>f s|.out r=>g r
theorem D0{S R γ:Type}(s:S)(f:S→γ)(g:R→γ):(Rd.go s:Rd S R).el f g=f s:=rfl
theorem DT{S R γ:Type}(r:R)(f:S→γ)(g:R→γ):(Rd.out r:Rd S R).el f g=g r:=rfl
theorem Ic{S R γ:Type}{p:Prop}[Decidable p](x y:Rd S R)(f:S→γ)(g:R→γ):(if p then x else y).el f g=if p then x.el f g else y.el f g:=by split<;>rfl
def mA{α S R:Type}(body:List α→α→S→Rd S R):List α→List α→S→Rd S R
 |_,[],s=>.go s
 |pre,x::l,s=>match body pre x s with|.go s'=>mA body (pre++[x]) l s'|.out r=>.out r
theorem akE{f:au→Heap→Option (AX×au×Heap)}{v:au}{σ:Heap}:∀{n m:Nat}{r r':AX×au×Heap},A.iter f n v σ=some r→A.iter f m v σ=some r'→r=r':=by
 intro n;induction n generalizing v σ with
 |zero=>intro m r r' h;cases h
 |succ n ih=>
  intro m r r' h1 h2;cases m with
  |zero=>cases h2
  |succ m=>
   simp only[A.iter]at h1 h2;cases hf:f v σ with
   |none=>rw[hf]at h1;cases h1
   |some q=>
    rw[hf]at h1 h2;simp only[aX]at h1 h2;obtain⟨e,v',σ'⟩:=q;cases e with
    |normal=>exact ih h1 h2
    |exit i=>simp only at h1 h2;rw[h1]at h2;injection h2
    |ret=>simp only at h1 h2;rw[h1]at h2;injection h2
theorem E1{f:au→Heap→Option (AX×au×Heap)}{v:au}{σ:Heap}{n:Nat}{r:AX×au×Heap}(h:A.iter f n v σ=some r):A.loop f v σ=some r:=by
 have hex:∃n r,A.iter f n v σ=some r:=⟨n,r,h⟩
 unfold A.loop;rw[dif_pos hex];exact congrArg some (akE (Classical.choose_spec (Classical.choose_spec hex)) h)
theorem E8{f:au→Heap→Option (AX×au×Heap)}{v v':au}{σ σ':Heap}{r:AX×au×Heap}(h:f v σ=some (.normal,v',σ'))(k:∃n,A.iter f n v' σ'=some r):∃n,A.iter f n v σ=some r:=by obtain⟨n,k⟩:=k;exact⟨n+1,by simp [A.iter,h,k]⟩
theorem yf{f:au→Heap→Option (AX×au×Heap)}{v:au}{σ:Heap}{r:AX×au×Heap}(h:f v σ=some r)(hr:r.1≠.normal):∃n,A.iter f n v σ=some r:=by obtain⟨e,v',σ'⟩:=r;refine⟨1,?_⟩;cases e<;>first|(simp [A.iter,h];done)|exact absurd rfl hr
theorem rQ{α S R γ:Type}{f:au→Heap→Option (AX×au×Heap)}(l:List α)(body:List α→α→S→Rd S R)(st:List α→S→au)(hp:List α→S→Heap)
  (fin:S→AX×au×Heap) (out:List α→S→R→AX×au×Heap) (P:List α→S→Prop) (s0:S) {k:AX×au×Heap→Option γ} (K1:S→Option γ) (K2:R→Option γ)
  (hstep:∀pre x rest s,l=pre++x::rest→P pre s→f (st pre s) (hp pre s)=some ((body pre x s).el (λs'=>(.normal,st (pre++[x]) s',hp (pre++[x]) s')) (λr=>out pre s r)))
  (hend:∀s,P l s→f (st l s) (hp l s)=some (fin s)) (h0:P [] s0)
  (hP:∀pre x rest s s',l=pre++x::rest→P pre s→body pre x s=.go s'→P (pre++[x]) s')
  (hk1:∀s,P l s→k (fin s)=K1 s) (hk2:∀pre x rest s r,l=pre++x::rest→P pre s→body pre x s=.out r→k (out pre s r)=K2 r)
  (CM:∀s,(fin s).1≠.normal:=by intros;simp) (hout:∀pre s r,(out pre s r).1≠.normal:=by intros;simp) {v:au} {σ:Heap} (hv:v=st [] s0:=by rfl) (iO:σ=hp [] s0:=by rfl):
  (A.loop f v σ).bind k=(mA body [] l s0).el K1 K2:=by
 have key:∀(rest pre:List α)(s:S),l=pre++rest→P pre s→∃q,(∃n,A.iter f n (st pre s) (hp pre s)=some q)∧k q=(mA body pre rest s).el K1 K2:=by
  intro rest;induction rest with
  |nil=>intro pre s hl hp';rw[List.append_nil]at hl;subst hl;exact⟨fin s,yf (hend s hp') (CM s),by rw[mA,D0,hk1 s hp']⟩
  |cons x rest ih=>
   intro pre s hl hp';have h:=hstep pre x rest s hl hp';rw[mA];cases hb:body pre x s with
   |go s'=>rw[hb]at h;obtain⟨q,h1,h2⟩:=ih (pre++[x]) s' (by simpa using hl) (hP pre x rest s s' hl hp' hb);exact⟨q,E8 h h1,h2⟩
   |out r=>rw[hb]at h;exact⟨out pre s r,yf h (hout pre s r),by rw[DT,hk2 pre x rest s r hl hp' hb]⟩
 obtain⟨q,⟨n,h1⟩,h2⟩:=key l [] s0 rfl h0;rw[hv,iO,E1 h1,aX,h2]
theorem NC{α:Type}{body:List α→α→Unit→Rd Unit Int}{xL:List α→List α→Int}(h0:∀pre,xL pre []=0)(h:∀pre x rest,xL pre (x::rest)=(body pre x ()).el (λ_=>xL (pre++[x]) rest) (λr=>r)) {γ:Type} (K:Int→γ):
  ∀(l pre:List α),(mA body pre l ()).el (λ_=>K 0) K=K (xL pre l)
 |[],pre=>by rw[mA,h0];rfl
 |x::l,pre=>by
  rw[mA,h];cases body pre x ()with
  |go s=>exact NC h0 h K l (pre++[x])
  |out r=>rfl
theorem rS{α:Type}{l pre rest:List α}{x:α}(h:l=pre++x::rest):l[pre.length]? =some x:=by rw[h];simp
theorem uR{α:Type}{l pre rest:List α}{x:α}(h:l=pre++x::rest):pre.length<l.length:=by rw[h];simp
theorem aa0{α:Type}{l pre rest:List α}{x:α}(h:l=pre++x::rest)(h0:0<pre.length):∃y,pre.getLast? =some y∧l[pre.length-1]? =some y:=by
 cases hp:pre.getLast? with
 |none=>rw[List.getLast?_eq_none_iff]at hp;subst hp;simp at h0
 |some y=>refine⟨y,rfl,?_⟩;rw[h,jg (by omega),←hp,List.getLast?_eq_getElem?]
theorem aaj{γ:Type}{p:UInt8→Bool}{f:au→Heap→Option (AX×au×Heap)}(s:ByteArray){σ:Heap}{k:AX×au×Heap→Option γ}(K2:Option γ)
  (hstep:∀(i:Nat)(c:UInt8),i<s.size→A.wu (.str s) (.ah (i:Int))=some (.int .u8 c.toNat)→f [.bool false,.ah (i:Int)] σ=if p c=true then some (.normal,[.bool false,.ah ((i:Int)+1)],σ)else some (.ret,[.bool false,.ah (i:Int)],σ))
  (hend:f [.bool false,.ah (s.size:Int)] σ=some (.exit 0,[.bool false,.ah (s.size:Int)],σ)) (hk2:∀i:Int,k (.ret,[.bool false,.ah i],σ)=K2):
  (A.loop f [.bool false,.ah 0] σ).bind k=if s.data.toList.all p=true then k (.exit 0,[.bool false,.ah (s.size:Int)],σ)else K2:=by
 have hsz:s.data.toList.length=s.size:=rfl
 refine(rQ (S:=Unit) (R:=Unit) s.data.toList (λ_ c _=>if p c=true then .go ()else .out ()) (λpre _=>[.bool false,.ah (pre.length:Int)]) (λ_ _=>σ) (λ_=>(.exit 0,[.bool false,.ah (s.size:Int)],σ)) (λpre _ _=>(.ret,[.bool false,.ah (pre.length:Int)],σ)) (λ_ _=>True) ()
  (λ_=>k (.exit 0,[.bool false,.ah (s.size:Int)],σ)) (λ_=>K2) ?_ ?_ trivial (λ_ _ _ _ _ _ _ _=>trivial) (λ_ _=>rfl) (λ_ _ _ _ _ _ _ _=>hk2 _)).trans ?_
 ·intro pre c rest u hl _;have hlt:=uR hl;have hc:=rS hl;rw[hsz]at hlt
  have hsi:A.wu (.str s) (.ah (pre.length:Int))=some (.int .u8 c.toNat):=by have h2:s[pre.length]=c:=(bM.1 hc).2;simp [A.wu,A.idx,hlt,h2]
  rw[hstep pre.length c hlt hsi];cases p c<;>simp [Rd.el]
 ·intro u _;rw[hsz];exact hend
 ·have key:∀(l pre:List UInt8),(mA (λ(_:List UInt8)c(_:Unit)=>if p c=true then(Rd.go ():Rd Unit Unit)else .out ()) pre l ()).el (λ_=>k (.exit 0,[.bool false,.ah (s.size:Int)],σ)) (λ_=>K2)=if l.all p=true then k (.exit 0,[.bool false,.ah (s.size:Int)],σ)else K2:=by
   intro l;induction l with
   |nil=>intro pre;simp [mA,Rd.el]
   |cons c l ih=>
    intro pre;rw[mA];cases hc:p c
    ·simp [hc,Rd.el]
    ·simp only[if_true];rw[ih];simp [hc]
  exact key s.data.toList []
section
variable {α : Type} (g : α → ByteArray) (gi : α → Int) (v : α → AV)
theorem acs(k:ByteArray):∀(l:List α),A.find .z (.str k) (l.map λx=>(AV.str (g x),v x))=some ((l.find? λx=>decide (k=g x)).map v)
 |[]=>rfl
 |x::l=>by
  simp only[ef,A.find,A.fM,A.rK,aX,List.find?];by_cases h:k=g x
  ·rw[bq];simp [h]
  ·rw[bq];simp [h,acs k l]
theorem acr(kk:IntKind)(k:Int):∀(l:List α),A.find .i (.int kk k) (l.map λx=>(AV.int kk (gi x),v x))=some ((l.find? λx=>decide (k=gi x)).map v)
 |[]=>rfl
 |x::l=>by
  simp only[ef,A.find,A.fM,A.pI,if_true,aX,List.find?];by_cases h:k=gi x
  ·have:(k==gi x)=true:=by simpa using h
   simp [this,h]
  ·have:(k==gi x)=false:=by simpa using h
   simp [this,h,acr kk k l]
theorem Uo{k:ByteArray}{w:AV}:∀{l:List α},(∀x∈l,g x≠k)→A.upd .z (.str k) w (l.map λx=>(AV.str (g x),v x))=some ((l.map λx=>(AV.str (g x),v x))++[(.str k,w)])
 |[],_=>rfl
 |x::l,h=>by
  have h1:(k==g x)=false:=by rw[bq];exact cD λe:k=g x=>h x (by simp) e.symm
  simp only[ef,A.upd,A.fM,A.rK,aX,h1,bE];rw[Uo (λy hy=>h y (by simp [hy]))];rfl
theorem Un{kk:IntKind}{k:Int}{w:AV}:∀{l:List α},(∀x∈l,gi x≠k)→A.upd .i (.int kk k) w (l.map λx=>(AV.int kk (gi x),v x))=some ((l.map λx=>(AV.int kk (gi x),v x))++[(.int kk k,w)])
 |[],_=>rfl
 |x::l,h=>by
  have h1:(k==gi x)=false:=by simpa using λe:k=gi x=>h x (by simp) e.symm
  simp only[ef,A.upd,A.fM,A.pI,if_true,aX,h1,bE];rw[Un (λy hy=>h y (by simp [hy]))];rfl
end
theorem DM(e:A.EK){k z:AV}{σ:Heap}{id:Nat}{es:List (AV×AV)}(hk:A.lq e k=true)(h:σ[id]? =some (.map es)):A.look e (.om id) k z σ=(A.find e k es).map λr=>r.getD z:=by simp [A.look,hk,A.entries,h]
theorem B3(e:A.EK){k w:AV}{σ:Heap}{id:Nat}{es:List (AV×AV)}(hk:A.lq e k=true)(h:σ[id]? =some (.map es)):A.fV e (.om id) k w σ=(A.upd e k w es).map λes=>σ.set id (.map es):=by simp [A.fV,hk,h]
theorem aaN{α:Type}(l:List α)(x:α):(((l++[x]).length:Nat):Int)=(l.length:Int)+1:=by simp
theorem Nv{α:Type}(sz:Nat)(c:α→au)(l:List α){k:Nat}{x:α}(h0:0<k)(h:l[k-1]? =some x):A.aY sz (sl sz c l) (.ah ((k:Int) -1))=some (.rp (c x)):=by have:=nQ sz c l h;rwa[show((k-1:Nat):Int)=(k:Int) -1 by omega]at this
def oB{α:Type}(g:α→ByteArray)(l:List α):List (AV×AV):=l.map λx=>(AV.str (g x),AV.bool true)
def uj{α:Type}(g:α→Int)(l:List α):List (AV×AV):=l.map λx=>(AV.ah (g x),AV.bool true)
theorem SR{α:Type}(p:α→Bool):∀(l:List α),((l.find? p).map λ_=>AV.bool true).getD aO=AV.bool (l.any p)
 |[]=>rfl
 |x::l=>by
  simp only[List.find?,List.any_cons];cases h:p x
  ·simpa using SR p l
  ·rfl
theorem Z8{α:Type}(g:α→ByteArray)(k:ByteArray)(l:List α):(A.find .z (.str k) (oB g l)).map (λr=>r.getD (.bool false))=some (.bool (lu k (l.map g))):=by unfold oB;rw[acs g (λ_=>AV.bool true) k l,bZ,SR];refine congrArg some (congrArg AV.bool ?_);rw[p4,S3];simp only[List.any_eq_true,decide_eq_true_eq,gB];exact⟨λ⟨x,h,e⟩=>⟨x,h,e.symm⟩,λ⟨x,h,e⟩=>⟨x,h,e.symm⟩⟩
theorem Z4{α:Type}(g:α→Int)(k:Int)(l:List α):(A.find .i (.ah k) (uj g l)).map (λr=>r.getD (.bool false))=some (.bool (lu k (l.map g))):=by unfold uj;rw[acr g (λ_=>AV.bool true) .i64 k l,bZ,SR];refine congrArg some (congrArg AV.bool ?_);rw[p4,S3];simp only[List.any_eq_true,decide_eq_true_eq,gB];exact⟨λ⟨x,h,e⟩=>⟨x,h,e.symm⟩,λ⟨x,h,e⟩=>⟨x,h,e.symm⟩⟩
section
variable {α : Type} (g : α → ByteArray) (gi : α → Int) (l : List α) (k : ByteArray) (n : Int) (σ bs : Heap) (b0 : aS)
theorem Zk:A.look .z (.om σ.length) (.str k) (.bool false) (σ++aS.map (oB g l)::bs)=some (.bool (lu k (l.map g))):=by rw[DM .z rfl (by rw[IC];rfl),Z8]
theorem Zi:A.look .i (.om σ.length) (.ah n) (.bool false) (σ++aS.map (uj gi l)::bs)=some (.bool (lu n (l.map gi))):=by rw[DM .i rfl (by rw[IC];rfl),Z4]
theorem Zl:A.look .z (.om (σ.length+1)) (.str k) (.bool false) (σ++b0::aS.map (oB g l)::bs)=some (.bool (lu k (l.map g))):=by rw[DM .z rfl (by rw[PJ];rfl),Z8]
theorem Zj:A.look .i (.om (σ.length+1)) (.ah n) (.bool false) (σ++b0::aS.map (uj gi l)::bs)=some (.bool (lu n (l.map gi))):=by rw[DM .i rfl (by rw[PJ];rfl),Z4]
theorem aaa(h:lu k (l.map g)=false):A.fV .z (.om σ.length) (.str k) (.bool true) (σ++aS.map (oB g l)::bs)=some (σ++aS.map (oB g l++[(.str k,.bool true)])::bs):=by rw[B3 .z rfl (by rw[IC];rfl),oB,Uo g _ (λx hx e=>Nw.1 h (by rw[←e];exact List.mem_map_of_mem hx)),bZ,Ue];rfl
theorem Z6(h:lu n (l.map gi)=false):A.fV .i (.om σ.length) (.ah n) (.bool true) (σ++aS.map (uj gi l)::bs)=some (σ++aS.map (uj gi l++[(.ah n,.bool true)])::bs):=by rw[B3 .i rfl (by rw[IC];rfl),uj,Un gi _ (λx hx e=>Nw.1 h (by rw[←e];exact List.mem_map_of_mem hx)),bZ,Ue];rfl
theorem aab(h:lu k (l.map g)=false):A.fV .z (.om (σ.length+1)) (.str k) (.bool true) (σ++b0::aS.map (oB g l)::bs)=some (σ++b0::aS.map (oB g l++[(.str k,.bool true)])::bs):=by rw[B3 .z rfl (by rw[PJ];rfl),oB,Uo g _ (λx hx e=>Nw.1 h (by rw[←e];exact List.mem_map_of_mem hx)),bZ,sI];rfl
theorem Z7(h:lu n (l.map gi)=false):A.fV .i (.om (σ.length+1)) (.ah n) (.bool true) (σ++b0::aS.map (uj gi l)::bs)=some (σ++b0::aS.map (uj gi l++[(.ah n,.bool true)])::bs):=by rw[B3 .i rfl (by rw[PJ];rfl),uj,Un gi _ (λx hx e=>Nw.1 h (by rw[←e];exact List.mem_map_of_mem hx)),bZ,sI];rfl
end
theorem Z9{α:Type}(g:α→ByteArray)(l:List α)(x:α):oB g (l++[x])=oB g l++[(.str (g x),.bool true)]:=by simp [oB]
theorem Sf(σ:Heap)(v:AV):A.quiet (some (v,σ)) σ=some v:=by simp [A.quiet]
def Fz(a:AV):Prop:=∀σ n d,A.bG σ n d a=some a
def jP(l:au):Prop:=∀σ n d,A.ga σ n d l=some l
theorem dA(k:IntKind)(n:Int):Fz (.int k n):=λ_ _ d=>by cases d<;>simp [A.bG]
theorem A8(b:Bool):Fz (.bool b):=λ_ _ d=>by cases d<;>simp [A.bG]
theorem zz(s:ByteArray):Fz (.str s):=λ_ _ d=>by cases d<;>simp [A.bG]
theorem aoV:Fz .az:=λ_ _ d=>by cases d<;>simp [A.bG]
theorem wV{l:au}(h:jP l):Fz (.agg l):=λσ n d=>by cases d<;>simp [A.bG,h σ n]
theorem acv{l:au}(h:jP l):Fz (.aM l):=λσ n d=>by cases d<;>simp [A.bG,h σ n]
theorem nR:jP []:=λ_ _ _=>by simp [A.ga]
theorem bQ{a:AV}{l:au}(h:Fz a)(k:jP l):jP (a::l):=λσ n d=>by simp [A.ga,h σ n d,k σ n d]
theorem rA{α:Type}{sz:Nat}{c:α→au}(h:∀x,jP (c x))(l:List α):Fz (sl sz c l):=by
 intro σ n d
 have:A.kT σ n d (l.map c)=some (l.map c):=by
  induction l with
  |nil=>simp [A.kT]
  |cons x l ih=>simp [A.kT,h x σ n d,ih]
 cases d<;>simp [sl,A.bG,this]
theorem UN{α:Type}{c:α→au}(h:∀x,jP (c x))(l:List α)(σ:Heap)(n d:Nat):A.kT σ n d (l.map c)=some (l.map c):=by
 induction l with
 |nil=>simp [A.kT]
 |cons x l ih=>simp [A.kT,h x σ n d,ih]
def yK{α:Type}(id sz:Nat)(l:List α):AV:=if l=[]then .az else .os id l.length sz 0 l.length
def uY{α:Type}(sz:Nat)(c:α→au)(l:List α):Heap:=if l=[]then[]else[.arr l.length sz (l.map c)]
theorem amf{α:Type}(sz:Nat)(c:α→au):uY sz c []=[]:=rfl
theorem ajn{α:Type}{sz most:Nat}(c:α→au)(l:List α)(x:α)(σ:Heap)(h:l.length+1≤most):A.append sz most (yK σ.length sz l) (.sl sz [c x]) (σ++uY sz c l)=some (yK σ.length sz (l++[x]),σ++uY sz c (l++[x])):=by
 unfold yK uY;cases l with
 |nil=>
  have h1:1≤most:=by simpa using h
  simp [A.append,A.vO,A.elems,h1]
 |cons y l=>
  have h1:l.length+1+1≤most:=by simpa using h
  simp [A.append,A.vO,A.elems,h1,IC,Ue,jX,yF]
theorem an1{α:Type}{sz:Nat}{c:α→au}(hc:∀x,jP (c x))(l:List α)(σ:Heap)(d:Nat):A.bG (σ++uY sz c l) σ.length (d+1) (yK σ.length sz l)=some (if l=[]then .az else sl sz c l):=by
 unfold yK uY;split
 ·simp [A.bG]
 ·rename_i hl;simp only[A.bG,Nat.lt_irrefl,if_false,IC,List.getElem?_cons_zero];rw[aQ (by simp)];have e:(List.take l.length (List.drop 0 (l.map c)))=l.map c:=by simp [yF]
  rw[e,HM,UN hc];rfl
theorem alQ{α:Type}{sz:Nat}{c:α→au}(hc:∀x,jP (c x))(l:List α)(k:IntKind)(n:Int)(σ:Heap):A.fin σ (.aM [yK σ.length sz l,.int k n]) (σ++uY sz c l)=some (.aM [if l=[]then .az else sl sz c l,.int k n],σ):=by
 unfold A.fin;split
 ·rename_i h;have:uY sz c l=[]:=by simpa using h
  have hl:l=[]:=by
   unfold uY at this;split at this
   ·assumption
   ·cases this
  subst hl;rfl
 ·rw[aQ (by simp)]
  have:A.bG (σ++uY sz c l) σ.length 8 (.aM [yK σ.length sz l,.int k n])=some (.aM [if l=[]then .az else sl sz c l,.int k n]):=by simp only[A.bG,A.ga,an1 hc,dA k n _ _ _,aX,bZ]
  rw[this];rfl
theorem apd{α:Type}(sz:Nat)(c:α→au)(l:List α):A.nn (.s sz) (if l=[]then .az else sl sz c l)=sl sz c l:=by
 split
 ·rename_i h;subst h;rfl
 ·rfl
def lg{α:Type}(p:α→Bool)(l:List α):Int:=match l.findIdx? p with|some i=>i|none=>-1
theorem zj{α:Type}(p:α→Bool)(l:List α):(lg p l=-1∧(∀x∈l,p x=false)∧l.find? p=none)∨∃(k:Nat)(x:α),l[k]? =some x∧p x=true∧lg p l=k∧l.find? p=some x∧∀(j:Nat)(y:α),j<k→l[j]? =some y→p y=false:=by
 induction l with
 |nil=>left;exact⟨rfl,by simp,rfl⟩
 |cons x l ih=>
  cases h:p x
  ·rcases ih with⟨h1,h2,h3⟩|⟨k,y,h1,h2,h3,h4,h5⟩
   ·left;refine⟨?_,?_,?_⟩
    ·unfold lg at h1 ⊢;rw[List.findIdx?_cons,h];cases hf:l.findIdx? p with
     |none=>simp
     |some i=>rw[hf]at h1;simp at h1
    ·intro y hy;rcases jY.1 hy with rfl|hy
     ·exact h
     ·exact h2 y hy
    ·simp [List.find?,h,h3]
   ·right;refine⟨k+1,y,by simpa using h1,h2,?_,by simp [List.find?,h,h4],?_⟩
    ·unfold lg at h3 ⊢;rw[List.findIdx?_cons,h];cases hf:l.findIdx? p with
     |none=>rw[hf]at h3;simp at h3
     |some i=>rw[hf]at h3;simp at h3 ⊢;omega
    ·intro j z hj hz;cases j with
     |zero=>simp at hz;subst hz;exact h
     |succ j=>exact h5 j z (by omega) (by simpa using hz)
  ·right;refine⟨0,x,rfl,h,?_,by simp [List.find?,h],by intro j y hj;omega⟩;unfold lg;rw[List.findIdx?_cons,h];rfl
theorem Fi{α:Type}{γ:Type}(p:α→Bool)(K1:Option γ)(K2:Int→Option γ):∀(l pre:List α),(∀x∈pre,p x=false)→(mA (λpre x(_:Unit)=>if p x=true then(Rd.out (pre.length:Int):Rd Unit Int)else .go ()) pre l ()).el (λ_=>K1) K2=if lg p (pre++l)=-1 then K1 else K2 (lg p (pre++l))
 |[],pre,h=>by
  have:lg p (pre++[])=-1:=by
   rcases zj p (pre++[])with h1|⟨k,x,h1,h2,_⟩
   ·exact h1.1
   ·have:=h x (by have:=cS h1;simpa using this);rw[h2]at this;cases this
  rw[mA,D0,aQ this]
 |x::l,pre,h=>by
  rw[mA];cases hx:p x
  ·simp only[Bool.false_eq_true,if_false]
   have:=Fi p K1 K2 l (pre++[x]) (λy hy=>by
    rcases kM.1 hy with hy|hy
    ·exact h y hy
    ·simp at hy;subst hy;exact hx)
   simpa using this
  ·simp only[if_true,DT]
   have:lg p (pre++x::l)=pre.length:=by
    rcases zj p (pre++x::l)with h1|⟨k,y,h1,h2,h3,_,h5⟩
    ·have:=h1.2.1 x (by simp);rw[hx]at this;cases this
    ·rw[h3];rcases Nat.lt_trichotomy k pre.length with hk|hk|hk
     ·rw[jg hk]at h1;have:=h y (cS h1);rw[h2]at this;cases this
     ·omega
     ·have:=h5 pre.length x hk (by simp);rw[hx]at this;cases this
   rw[this,aP (by omega)]
theorem aa9{α R γ:Type}(p:α→Bool)(r:R)(K1:Unit→γ)(K2:R→γ):∀(l pre:List α),(mA (λ_ x(_:Unit)=>if p x=true then(Rd.out r:Rd Unit R)else .go ()) pre l ()).el K1 K2=if l.any p=true then K2 r else K1 ()
 |[],pre=>by simp [mA,Rd.el]
 |x::l,pre=>by
  rw[mA];cases h:p x
  ·simp only[Bool.false_eq_true,if_false];rw[aa9 p r K1 K2 l (pre++[x])];simp [h]
  ·simp [h,Rd.el]
theorem aiI{α:Type}(sz:Nat)(c:α→au)(l:List α){k:Nat}(h:k≤l.length){σ:Heap}:A.FA sz (sl sz c l) none (some (.ah (k:Int))) σ=some (sl sz c (l.take k)):=by simp [A.FA,sl,A.bound,h,List.map_take]
theorem Z5(l:List Int)(n:Int):uj id l++[(.ah n,.bool true)]=uj id (l++[n]):=by simp [uj]
theorem akO{κ:Type}[DecidableEq κ](k x:κ)(S:List κ):lu k (S++[x])=(lu k S||decide (x=k)):=by simp [lu]
theorem xy{α:Type}{sz:Nat}{c:α→au}{sh:List Sh}(h:∀x,A.cG sh (c x)=c x)(l:List α):A.nn (.e sz sh) (sl sz c l)=sl sz c l:=by simp only[sl,A.nn,List.map_map];congr 1;exact List.map_congr_left λx _=>h x
theorem anV(sz:Nat)(sh:List Sh):A.nn (.e sz sh) .az=.sl sz []:=by simp [A.nn]
theorem aaR{α γ:Type}{f:au→Heap→Option (AX×au×Heap)}(l:List α)(p:α→Bool)(vs:Nat→au)(σ:Heap)(fin:AX×au×Heap)(ret:Nat→AX×au×Heap){k:AX×au×Heap→Option γ}(K1 K2:Option γ)
  (hstep:∀(i:Nat)(x:α),l[i]? =some x→f (vs i) σ=if p x=true then some (ret i)else some (.normal,vs (i+1),σ)) (hend:f (vs l.length) σ=some fin) (hk1:k fin=K1) (hk2:∀i,k (ret i)=K2)
  (CM:fin.1≠.normal:=by simp) (Lh:∀i,(ret i).1≠.normal:=by intros;simp) {v:au} {σ':Heap} (hv:v=vs 0:=by rfl) (iO:σ'=σ:=by rfl):
  (A.loop f v σ').bind k=if l.any p=true then K2 else K1:=by
 subst hv iO
 refine(rQ (S:=Unit) (R:=Unit) l (λ_ x _=>if p x=true then .out ()else .go ()) (λpre _=>vs pre.length) (λ_ _=>σ') (λ_=>fin) (λpre _ _=>ret pre.length) (λ_ _=>True) () (λ_=>K1) (λ_=>K2)
  ?_ (λ_ _=>hend) trivial (λ_ _ _ _ _ _ _ _=>trivial) (λ_ _=>hk1) (λ_ _ _ _ _ _ _ _=>hk2 _) (λ_=>CM) (λ_ _ _=>Lh _)).trans (aa9 p () _ _ l [])
 intro pre x rest u hl _;rw[hstep pre.length x (rS hl)];cases p x<;>simp [Rd.el]
theorem aaK{α:Type}(sz:Nat)(c:α→au){l:List α}{k:Nat}{x:α}(h:l[k]? =some x):A.aY sz (sl sz c l) (.ah (k:Int))=some (.rp (c x))∧(k:Int)<(l.length:Int)∧(l.length≤bg→IntKind.i64.wrap ((k:Int)+1)=(k:Int)+1):=
 ⟨nQ sz c l h,by have:=(bM.1 h).1;omega,λhl=>cL (by have:=(bM.1 h).1;unfold aV;unfold bg at hl;omega)⟩
theorem akJ{α γ:Type}{f:au→Heap→Option (AX×au×Heap)}(l:List α)(p:α→Bool)(vs:Nat→au)(σ:Heap)(fin:AX×au×Heap)(ret:Nat→α→AX×au×Heap){k:AX×au×Heap→Option γ}(K1:Option γ)(K2:α→Option γ)
  (hstep:∀(i:Nat)(x:α),l[i]? =some x→f (vs i) σ=if p x=true then some (ret i x)else some (.normal,vs (i+1),σ)) (hend:f (vs l.length) σ=some fin) (hk1:k fin=K1) (hk2:∀i x,k (ret i x)=K2 x)
  (CM:fin.1≠.normal:=by simp) (Lh:∀i x,(ret i x).1≠.normal:=by intros;simp) {v:au} {σ':Heap} (hv:v=vs 0:=by rfl) (iO:σ'=σ:=by rfl):
  (A.loop f v σ').bind k=(l.find? p).elim K1 K2:=by
 subst hv iO
 have run:∀(l pre:List α),(mA (λ_ x(_:Unit)=>if p x=true then(Rd.out x:Rd Unit α)else .go ()) pre l ()).el (λ_=>K1) K2=(l.find? p).elim K1 K2:=by
  intro l;induction l with
  |nil=>intro pre;rfl
  |cons x l ih=>
   intro pre;rw[mA];cases h:p x
   ·simp only[Bool.false_eq_true,if_false];rw[ih,List.find?_cons,h]
   ·simp [h,Rd.el]
 refine(rQ (S:=Unit) (R:=α) l (λ_ x _=>if p x=true then .out x else .go ()) (λpre _=>vs pre.length) (λ_ _=>σ') (λ_=>fin) (λpre _ x=>ret pre.length x) (λ_ _=>True) () (λ_=>K1) K2
  ?_ (λ_ _=>hend) trivial (λ_ _ _ _ _ _ _ _=>trivial) (λ_ _=>hk1) (λ_ _ _ _ _ _ _ _=>hk2 _ _) (λ_=>CM) (λ_ _ _=>Lh _ _)).trans (run l [])
 intro pre x rest u hl _;rw[hstep pre.length x (rS hl)];cases p x<;>simp [Rd.el]
theorem HQ{α:Type}(n:Int)(B:AV→Option α)(s:Option α):((A.lss (.ah n) (.ah n)).bind λx=>A.cond x (B x) s)=s:=by simp only[l8,Int.lt_irrefl,aX,decide_false,cF]
section
variable {α β : Type}
theorem akm{c c':AV}(h:c=c')(t e:Option α):A.cond c t e=A.cond c' t e:=by rw[h]
theorem ajd{c c':AV}(h:c=c')(w:Bool)(e d:Option α):A.guard c w e d=A.guard c' w e d:=by rw[h]
theorem ake{x y:Option α}(h:x=y)(f:α→Option β):x.bind f=y.bind f:=by rw[h]
attribute [congr] akm ajd ake
end
theorem aW:type_of% @aX.{0,0}∧type_of% @bZ.{0,0}∧type_of% @cT∧type_of% @cF∧type_of% @gTT∧type_of% @gTF∧type_of% @gFT∧type_of% @gFF∧type_of% @gN∧type_of% @pT∧type_of% @pF∧type_of% @ck.{1}∧type_of% @bE.{1}∧type_of% @xN∧type_of% @mz∧type_of% @sA∧type_of% @zI∧type_of% @l8∧type_of% @KJ∧type_of% @Iy∧type_of% @uc∧type_of% @adn∧type_of% @adl∧type_of% @adj∧type_of% @adi∧type_of% @jQ∧type_of% @ij∧type_of% @adY∧type_of% @Uv∧type_of% @ad0∧type_of% @ado∧type_of% @aLb∧type_of% @ade∧type_of% @adf∧type_of% @adg∧type_of% @adh∧type_of% @aDe∧type_of% @aFa∧type_of% @adk∧type_of% @aCI∧type_of% @aCB∧type_of% @aCS∧type_of% @adX∧type_of% @WC∧type_of% @gd0∧type_of% @gd1∧type_of% @gd2∧type_of% @gd3∧type_of% @gd4∧type_of% @gd5∧type_of% @gd6∧type_of% @gd7∧type_of% @gd8∧type_of% @bP∧type_of% @Tr∧type_of% @aaB∧type_of% @abw∧type_of% @aaC∧type_of% @gH∧type_of% @ite_true.{1}∧type_of% @ite_false.{1}∧type_of% @if_true.{1}∧type_of% @if_false.{1}∧type_of% @Bool.false_eq_true∧type_of% @not_true_eq_false∧type_of% @not_false_eq_true∧type_of% @decide_true∧type_of% @decide_false∧type_of% @Bool.not_true∧type_of% @Bool.not_false∧type_of% @lU.{0}∧type_of% @nI.{0}∧type_of% @List.nil_append.{0}∧type_of% @List.drop_zero.{0}∧type_of% @TB∧type_of% @abQ∧type_of% @aaN∧type_of% @Int.natCast_add∧type_of% @Int.cast_ofNat_Int∧type_of% @Sf∧type_of% @D0∧type_of% @DT∧type_of% @Ic∧type_of% @Zk∧type_of% @Zi∧type_of% @Zl∧type_of% @Zj∧type_of% @Z9∧type_of% @aaa∧type_of% @Z6∧type_of% @aab∧type_of% @Z7∧type_of% @true_and∧type_of% @and_true∧type_of% @false_and∧type_of% @and_false∧type_of% @true_or∧type_of% @or_true∧type_of% @false_or∧type_of% @or_false∧type_of% @Option.getD_some.{0}∧type_of% @Option.getD_none.{0}∧type_of% @List.length_append.{0}∧type_of% @List.length_cons.{0}∧type_of% @List.length_nil.{0}∧type_of% @Nat.zero_add∧type_of% @Nat.add_zero:=
 ⟨@aX.{0,0},@bZ.{0,0},@cT,@cF,@gTT,@gTF,@gFT,@gFF,@gN,@pT,@pF,@ck.{1},@bE.{1},@xN,@mz,@sA,@zI,@l8,@KJ,@Iy,@uc,@adn,@adl,@adj,@adi,@jQ,@ij,@adY,@Uv,@ad0,@ado,@aLb,@ade,@adf,@adg,@adh,@aDe,@aFa,@adk,@aCI,@aCB,@aCS,@adX,@WC,@gd0,@gd1,@gd2,@gd3,@gd4,@gd5,@gd6,@gd7,@gd8,@bP,@Tr,@aaB,@abw,@aaC,@gH,@ite_true.{1},@ite_false.{1},@if_true.{1},@if_false.{1},@Bool.false_eq_true,@not_true_eq_false,@not_false_eq_true,@decide_true,@decide_false,@Bool.not_true,@Bool.not_false,@lU.{0},@nI.{0},@List.nil_append.{0},@List.drop_zero.{0},@TB,@abQ,@aaN,@Int.natCast_add,@Int.cast_ofNat_Int,@Sf,@D0,@DT,@Ic,@Zk,@Zi,@Zl,@Zj,@Z9,@aaa,@Z6,@aab,@Z7,@true_and,@and_true,@false_and,@and_false,@true_or,@or_true,@false_or,@or_false,@Option.getD_some.{0},@Option.getD_none.{0},@List.length_append.{0},@List.length_cons.{0},@List.length_nil.{0},@Nat.zero_add,@Nat.add_zero⟩
end
theorem JW(x:nF):jP (iJ x):=(bQ (dA _ _) (bQ (dA _ _) nR))
theorem ZM(x:rj):jP (oM x):=(bQ (dA _ _) (bQ (dA _ _) (bQ (zz _) nR)))
theorem SC(x:fS):jP (gA x):=(bQ (zz _) (bQ (dA _ _) (bQ (dA _ _) (bQ (dA _ _) (bQ (dA _ _) (bQ (A8 _) (bQ (rA ZM _) nR)))))))
theorem aic(x:dZ):jP (dm x):=(bQ (zz _) (bQ (dA _ _) (bQ (rA SC _) nR)))
theorem SZ(x:jH):jP (cO x):=(bQ (dA _ _) (bQ (zz _) (bQ (dA _ _) (bQ (dA _ _) nR))))
theorem BZ(x:aG):jP (aT x):=(bQ (dA _ _) (bQ (zz _) nR))
theorem Ng(x:nP):jP (fD x):=(bQ (dA _ _) (bQ (zz _) (bQ (dA _ _) nR)))
theorem YU(x:l5):jP (ff x):=(bQ (dA _ _) (bQ (zz _) (bQ (rA Ng _) nR)))
theorem aaH(x:gQ):jP (gZ x):=(bQ (dA _ _) (bQ (zz _) (bQ (dA _ _) (bQ (dA _ _) (bQ (A8 _) (bQ (A8 _) (bQ (dA _ _) (bQ (dA _ _) nR))))))))
theorem Ox(x:bz):jP (br x):=(bQ (dA _ _) (bQ (zz _) (bQ (dA _ _) (bQ (dA _ _) (bQ (dA _ _) (bQ (dA _ _) (bQ (dA _ _) (bQ (rA JW _) (bQ (A8 _) (bQ (dA _ _) (bQ (rA aaH _) nR)))))))))))
theorem ZL(x:bB):jP (dP x):=(bQ (dA _ _) (bQ (zz _) (bQ (dA _ _) (bQ (dA _ _) (bQ (dA _ _) nR)))))
theorem alW(x:kL):jP (fA x):=(bQ (dA _ _) (bQ (rA Ox _) nR))
theorem Rm(x:nO):jP (dh x):=(bQ (dA _ _) (bQ (dA _ _) (bQ (dA _ _) nR)))
theorem YT(x:fR):jP (cg x):=(bQ (dA _ _) (bQ (dA _ _) (bQ (dA _ _) (bQ (dA _ _) (bQ (dA _ _) nR)))))
theorem anr(x:Cs):jP (me x):=(bQ (dA _ _) (bQ (zz _) (bQ (dA _ _) (bQ (dA _ _) (bQ (dA _ _) (bQ (dA _ _) (bQ (dA _ _) (bQ (dA _ _) (bQ (rA JW _) (bQ (dA _ _) (bQ (A8 _) nR)))))))))))
instance : Inhabited ByteArray := ⟨⟨#[]⟩⟩
instance : Inhabited nF := ⟨⟨0, 0⟩⟩
instance : Inhabited rT := ⟨⟨0, []⟩⟩
instance : Inhabited jd := ⟨⟨0, 0, 0, 0, 0, ⟨0, []⟩⟩⟩
instance : Inhabited amK := ⟨⟨0, 0⟩⟩
instance : Inhabited rj := ⟨⟨0, 0, ⟨#[]⟩⟩⟩
instance : Inhabited fS := ⟨⟨⟨#[]⟩, 0, 0, 0, 0, false, []⟩⟩
instance : Inhabited dZ := ⟨⟨⟨#[]⟩, 0, []⟩⟩
instance : Inhabited jH := ⟨⟨0, ⟨#[]⟩, 0, 0⟩⟩
instance : Inhabited je := ⟨⟨[], []⟩⟩
instance : Inhabited aG := ⟨⟨0, ⟨#[]⟩⟩⟩
theorem tL(a b:aG):A.fM (.s [0,2]) (.agg (aT a)) (.agg (aT b))=some (decide (a=b)):=by obtain⟨x1,x2⟩:=a;obtain⟨x101,x102⟩:=b;simp only[A.fM,aT,A.iS,A.oG,A.pI,A.yS,A.rK,if_true,aX,bZ,bq];congr 1;rw[p4];simp [and_assoc]
theorem acp(a b:aG):A.eql (.s [0,2]) (.agg (aT a)) (.agg (aT b))=some (.bool (decide (a=b))):=by rw[A.eql,tL];rfl
instance : Inhabited nP := ⟨⟨⟨0, ⟨#[]⟩⟩, 0⟩⟩
theorem aia(a b:nP):A.fM (.s [0,2,0]) (.agg (fD a)) (.agg (fD b))=some (decide (a=b)):=by obtain⟨⟨x1,x2⟩,x3⟩:=a;obtain⟨⟨x101,x102⟩,yN⟩:=b;simp only[A.fM,fD,A.iS,A.oG,A.pI,A.yS,A.rK,if_true,aX,bZ,bq];congr 1;rw[p4];simp [and_assoc]
theorem ajj(a b:nP):A.neq (.s [0,2,0]) (.agg (fD a)) (.agg (fD b))=some (.bool (decide (¬(a=b)))):=by rw[A.neq,aia,bZ,decide_not]
instance : Inhabited l5 := ⟨⟨0, ⟨#[]⟩, []⟩⟩
instance : Inhabited aqn := ⟨⟨[], 0, 0⟩⟩
instance : Inhabited ow := ⟨⟨0, 0⟩⟩
theorem aks(a b:ow):A.fM (.s [0,0]) (.agg (yp a)) (.agg (yp b))=some (decide (a=b)):=by obtain⟨x1,x2⟩:=a;obtain⟨x101,x102⟩:=b;simp only[A.fM,yp,A.iS,A.oG,A.pI,A.yS,A.rK,if_true,aX,bZ,bq];congr 1;rw[p4];simp [and_assoc]
theorem amd(a b:ow):A.neq (.s [0,0]) (.agg (yp a)) (.agg (yp b))=some (.bool (decide (¬(a=b)))):=by rw[A.neq,aks,bZ,decide_not]
instance : Inhabited gQ := ⟨⟨⟨0, ⟨#[]⟩⟩, ⟨0, 0⟩, false, false, 0, 0⟩⟩
instance : Inhabited bz := ⟨⟨0, ⟨#[]⟩, 0, 0, 0, 0, ⟨0, []⟩, false, 0, []⟩⟩
instance : Inhabited bB := ⟨⟨⟨0, ⟨#[]⟩⟩, ⟨0, 0⟩, 0⟩⟩
instance : Inhabited apF := ⟨⟨0, 0, 0⟩⟩
instance : Inhabited kL := ⟨⟨0, []⟩⟩
instance : Inhabited nO := ⟨⟨0, 0, 0⟩⟩
instance : Inhabited iQ := ⟨⟨⟨[], []⟩, [], [], []⟩⟩
instance : Inhabited fR := ⟨⟨0, 0, 0, 0, 0⟩⟩
instance : Inhabited aoA := ⟨⟨0, ⟨0, 0, 0, 0, 0⟩⟩⟩
instance : Inhabited aoD := ⟨⟨0, 0, 0, 0⟩⟩
instance : Inhabited Cs := ⟨⟨⟨0, ⟨#[]⟩⟩, ⟨0, 0, 0, 0, 0, ⟨0, []⟩⟩, 0, false⟩⟩
instance : Inhabited JT := ⟨⟨0, 0, 0, false, 0, []⟩⟩
instance : Inhabited Yi := ⟨⟨0, 0, 0⟩⟩
instance : Inhabited abj := ⟨⟨0, 0, 0, 0, 0, 0, false, false, []⟩⟩
instance : Inhabited adb := ⟨⟨0, 0⟩⟩
instance : Inhabited alk := ⟨⟨⟨0, 0, 0, 0, 0, 0, false, false, []⟩, [], 0, [], 0, 0, 0⟩⟩
section
def Rf{β τ:Type}(M:Option β)(T:Option τ)(Q:τ→β→Prop):Prop:=∀t,T=some t→∃b,M=some b∧Q t b
section
variable {α β ω τ ζ : Type}
theorem aA{M0:Option α}{K:α→Option β}{T:Option τ}{Q:τ→β→Prop}(a:α)(h:M0=some a)(k:Rf (K a) T Q):Rf (M0.bind K) T Q:=by intro t ht;obtain⟨b,h1,h2⟩:=k t ht;exact⟨b,by rw[h];exact h1,h2⟩
theorem nh{M0:Option α}{K:α→Option β}{o:Option ω}{K':ω→Option τ}{Q:τ→β→Prop}(e:ω→α)(h:∀t,o=some t→M0=some (e t))(k:∀t,o=some t→Rf (K (e t)) (K' t) Q):Rf (M0.bind K) (o.bind K') Q:=by intro t ht;obtain⟨x,h1,h2⟩:=bO.1 ht;obtain⟨b,h3,h4⟩:=k x h1 t h2;exact⟨b,by rw[h x h1];exact h3,h4⟩
theorem Pr{M0:Option α}{K:α→Option β}{o:Option ω}{K':ω→Option τ}{Q:τ→β→Prop}(Q0:ω→α→Prop)(h:Rf M0 o Q0)(k:∀t a,Q0 t a→Rf (K a) (K' t) Q):Rf (M0.bind K) (o.bind K') Q:=by intro t ht;obtain⟨x,h1,h2⟩:=bO.1 ht;obtain⟨a,h3,h4⟩:=h x h1;obtain⟨b,h5,h6⟩:=k x a h4 t h2;exact⟨b,by rw[h3];exact h5,h6⟩
theorem cV{t:τ}{b:β}{Q:τ→β→Prop}(h:Q t b):Rf (some b) (some t) Q:=by intro u hu;cases hu;exact⟨b,rfl,h⟩
theorem fW{M:Option β}{t:τ}{Q:τ→β→Prop}(b:β)(e:M=some b)(h:Q t b):Rf M (some t) Q:=by rw[e];exact cV h
theorem aob{M:Option β}{Q:τ→β→Prop}:Rf M (none:Option τ) Q:=by intro u hu;cases hu
theorem aqi{M:Option β}{p:Prop}[Decidable p]{T:Option τ}{Q:τ→β→Prop}(h:p→Rf M T Q):Rf M (if p then T else none) Q:=by
 split
 ·exact h ‹_›
 ·exact aob
theorem ng{p:Prop}[Decidable p]{X Y:Option β}{X' Y':Option τ}{Q:τ→β→Prop}(h1:p→Rf X X' Q)(h2:¬p→Rf Y Y' Q):Rf (A.cond (.bool (decide p)) X Y) (if p then X' else Y') Q:=by
 by_cases h:p
 ·simp only[h,decide_true,if_true];exact h1 h
 ·simp only[h,decide_false,if_false];exact h2 h
theorem kV{c:Bool}{X Y:Option β}{X' Y':Option τ}{Q:τ→β→Prop}(h1:c=true→Rf X X' Q)(h2:c=false→Rf Y Y' Q):Rf (A.cond (.bool c) X Y) (if c=true then X' else Y') Q:=by
 cases c
 ·exact h2 rfl
 ·exact h1 rfl
theorem tV{X Y:Option β}{T:Option τ}{Q:τ→β→Prop}(h:Rf X T Q):Rf (A.cond (.bool true) X Y) T Q:=h
theorem tU{X Y:Option β}{T:Option τ}{Q:τ→β→Prop}(h:Rf Y T Q):Rf (A.cond (.bool false) X Y) T Q:=h
theorem l7{c:Bool}{X Y:Option β}{T:Option τ}{Q:τ→β→Prop}(e:c=true)(h:Rf X T Q):Rf (bif c then X else Y) T Q:=by rw[e];exact h
theorem yC{c:Bool}{X Y:Option β}{T:Option τ}{Q:τ→β→Prop}(e:c=false)(h:Rf Y T Q):Rf (bif c then X else Y) T Q:=by rw[e];exact h
def gv{α:Type}(g:Bool)(e:α→AV)(t:α):AV:=bif g then e t else .aM []
end
inductive Lr (S B R : Type) where
 |go(s:S)
 |brk(b:B)
 |ret(r:R)
def oR{α S B R:Type}(body:Nat→α→S→Option (Lr S B R))(fin:S→Option B):List α→Nat→S→Option (B ⊕ R)
 |[],_,s=>(fin s).map .inl
 |x::l,i,s=>(body i x s).bind λq=>match q with|.go s'=>oR body fin l (i+1) s'|.brk b=>some (.inl b)|.ret r=>some (.inr r)
def mY{α S B R γ:Type}(l:List α)(body:Nat→α→S→Option (Lr S B R))(fin:S→Option B)(s:S)(K1:B→Option γ)(K2:R→Option γ):Option γ:=
 if l.length≤bg then(oR body fin l 0 s).bind λq=>q.elim K1 K2 else none
section
variable {α S B R β τ : Type}
abbrev LS:=AX×au×Heap
def Px(I:S→au→Heap→Prop)(QB:B→LS→Prop)(QR:R→LS→Prop)(t:Lr S B R)(q:LS):Prop:=match t with
 |.go s=>q.1=.normal∧I s q.2.1 q.2.2
 |.brk b=>q.1≠.normal∧QB b q
 |.ret r=>q.1≠.normal∧QR r q
theorem tP{I:S→au→Heap→Prop}{QB:B→LS→Prop}{QR:R→LS→Prop}{s:S}{v:au}{σ:Heap}(h:I s v σ):Px I QB QR (.go s) (.normal,v,σ):=⟨rfl,h⟩
theorem aoc{I:S→au→Heap→Prop}{QB:B→LS→Prop}{QR:R→LS→Prop}{b:B}{q:LS}(n:q.1≠.normal)(h:QB b q):Px I QB QR (.brk b) q:=⟨n,h⟩
theorem jO{I:S→au→Heap→Prop}{QB:B→LS→Prop}{QR:R→LS→Prop}{r:R}{q:LS}(n:q.1≠.normal)(h:QR r q):Px I QB QR (.ret r) q:=⟨n,h⟩
theorem tO{f:au→Heap→Option LS}{K:LS→Option β}{Q:τ→β→Prop}{l:List α}{body:Nat→α→S→Option (Lr S B R)}{fin:S→Option B}{s0:S}{K1:B→Option τ}{K2:R→Option τ}{v0:au}{aK:Heap}
  (I:Nat→S→au→Heap→Prop) (QB:B→LS→Prop) (QR:R→LS→Prop)
  (hstep:l.length≤bg→∀i x s v σ,l[i]? =some x→I i s v σ→Rf (f v σ) (body i x s) (Px (I (i+1)) QB QR))
  (hend:l.length≤bg→∀s v σ,I l.length s v σ→Rf (f v σ) (fin s) (λb q=>q.1≠.normal∧QB b q))
  (h0:I 0 s0 v0 aK) (k1:l.length≤bg→∀b q,QB b q→Rf (K q) (K1 b) Q) (k2:l.length≤bg→∀r q,QR r q→Rf (K q) (K2 r) Q):
  Rf ((A.loop f v0 aK).bind K) (mY l body fin s0 K1 K2) Q:=by
 unfold mY;refine aqi λhl=>?_
 have hstep:=hstep hl;have hend:=hend hl
 have key:∀(rest pre:List α)(s:S)(v:au)(σ:Heap),l=pre++rest→I pre.length s v σ→∀t,oR body fin rest pre.length s=some t→∃q,(∃n,A.iter f n v σ=some q)∧(match t with|.inl b=>QB b q|.inr r=>QR r q):=by
  intro rest;induction rest with
  |nil=>intro pre s v σ hl hI t ht;rw[List.append_nil]at hl;subst hl;simp only[oR]at ht;obtain⟨b,hb,rfl⟩:=eG.1 ht;obtain⟨q,h1,h2,h3⟩:=hend s v σ hI b hb;exact⟨q,yf h1 h2,h3⟩
  |cons x rest ih=>
   intro pre s v σ hl hI t ht;simp only[oR]at ht;obtain⟨y,hy,h2⟩:=bO.1 ht;obtain⟨q,h3,h4⟩:=hstep pre.length x s v σ (by rw[hl];simp) hI y hy;obtain⟨e,v',σ'⟩:=q;cases y with
   |go s'=>obtain⟨rfl,V4⟩:=h4;obtain⟨q,h5,h6⟩:=ih (pre++[x]) s' v' σ' (by simpa using hl) (by simpa using V4) t (by simpa using h2);exact⟨q,E8 h3 h5,h6⟩
   |brk b=>simp only[Option.some.injEq]at h2;subst h2;exact⟨_,yf h3 h4.1,h4.2⟩
   |ret b=>simp only[Option.some.injEq]at h2;subst h2;exact⟨_,yf h3 h4.1,h4.2⟩
 intro t ht;obtain⟨y,hy,h2⟩:=bO.1 ht;obtain⟨q,⟨n,hn⟩,h3⟩:=key l [] s0 v0 aK rfl h0 y hy;cases y with
 |inl b=>obtain⟨z,h4,h5⟩:=k1 hl b q h3 t h2;exact⟨z,by rw[E1 hn];exact h4,h5⟩
 |inr b=>obtain⟨z,h4,h5⟩:=k2 hl b q h3 t h2;exact⟨z,by rw[E1 hn];exact h4,h5⟩
theorem kU{l:List α}{i:Nat}{x:α}(h:l[i]? =some x):A.lss (.ah (i:Int)) (.ah (l.length:Int))=some (.bool true):=by have:=(bM.1 h).1;rw[l8];simp;omega
theorem kS(l:List α):A.lss (.ah (l.length:Int)) (.ah (l.length:Int))=some (.bool false):=by rw[l8];simp
theorem gY{l:List α}{i:Nat}{x:α}(h:l[i]? =some x)(hl:l.length≤bg):A.add (.ah (i:Int)) (.ah 1)=some (.ah ((i+1:Nat):Int)):=by have:=(bM.1 h).1;rw[mz,cL (by unfold aV;unfold bg at hl;omega)];simp
def xW(l:List α)(i:Int):Option α:=if 0≤i then l[i.toNat]? else none
theorem D6{sz:Nat}{c:α→au}{l:List α}{i:Int}{x:α}(h:xW l i=some x):A.aY sz (sl sz c l) (.ah i)=some (.rp (c x)):=by
 unfold xW at h;split at h
 ·exact akB sz c l ‹_› h
 ·cases h
theorem jG{sz:Nat}{c:α→au}{l:List α}{i:Nat}{x:α}(h:l[i]? =some x):A.aY sz (sl sz c l) (.ah (i:Int))=some (.rp (c x)):=nQ sz c l h
end
theorem eT{M:aH}{v:AV}{σ:Heap}(h:M=some (v,σ)):A.quiet M σ=some v:=by rw[h,Sf]
def Ln(a b:Int):Option Int:=if b=0 then none else some (IntKind.i64.wrap (a.tdiv b))
def Lo(a b:Int):Option Int:=if b=0 then none else some (a.tmod b)
theorem apk{a b c:Int}(h:Ln a b=some c):A.quo (.ah a) (.ah b)=some (.ah c):=by
 unfold Ln at h;split at h
 ·cases h
 ·injection h with h;subst h;exact ad1 a b ‹_›
theorem apm{a b c:Int}(h:Lo a b=some c):A.rem (.ah a) (.ah b)=some (.ah c):=by
 unfold Lo at h;split at h
 ·cases h
 ·injection h with h;subst h;exact aqp a b ‹_›
noncomputable def tq {α:Type} (p:Prop) (x:α):Option α:=open Classical in if p then some x else none
theorem yu{α:Type}{p:Prop}{x:α}(h:p):tq p x=some x:=aQ h
theorem zF{α β:Type}{p:Prop}{x r:α}{M:Option β}{e:α→β}(h:p→M=some (e x))(k:tq p x=some r):M=some (e r):=by
 unfold tq at k;split at k
 ·rename_i hp;injection k with k;subst k;exact h hp
 ·cases k
theorem uQ(b t:Bool):A.pick (.bool b) (bif b then .bool t else .aM []) (.bool false)=some (.bool (b&&t)):=by cases b<;>rfl
theorem sj(b t:Bool):A.pick (.bool b) (.bool true) (bif !b then .bool t else .aM [])=some (.bool (b||t)):=by cases b<;>rfl
section
variable {α β ω τ : Type} {G b : Bool} {M0 : Option AV} {K : AV → Option β} {T : Option τ} {K' : ω → Option τ} {o : Option ω} {Q : τ → β → Prop}
theorem fE(a:AV)(h:b=true→M0=some a)(k:Rf (K (bif b then a else .aM [])) T Q):Rf ((A.guard (.bool b) true M0 (some (.aM []))).bind K) T Q:=by refine aA _ ?_ k;cases b<;>simp_all [A.guard]
theorem fZ(a:AV)(h:(!b)=true→M0=some a)(k:Rf (K (bif !b then a else .aM [])) T Q):Rf ((A.guard (.bool b) false M0 (some (.aM []))).bind K) T Q:=by refine aA _ ?_ k;cases b<;>simp_all [A.guard]
theorem Ik(a:AV)(h:(G&&b)=true→M0=some a)(k:Rf (K (bif G&&b then a else .aM [])) T Q):Rf ((A.guard (bif G then .bool b else .aM []) true M0 (some (.aM []))).bind K) T Q:=by refine aA _ ?_ k;cases G<;>cases b<;>simp_all [A.guard]
theorem acV(a:AV)(h:(G&&!b)=true→M0=some a)(k:Rf (K (bif G&&!b then a else .aM [])) T Q):Rf ((A.guard (bif G then .bool b else .aM []) false M0 (some (.aM []))).bind K) T Q:=by refine aA _ ?_ k;cases G<;>cases b<;>simp_all [A.guard]
theorem aqh{g:Bool}{M:Option AV}{d:ω}(e:ω→AV)(hM:M=bif g then M0 else some (.aM []))(h:g=true→∀t,o=some t→M0=some (e t))(k:∀t,(g=true→o=some t)→Rf (K (bif g then e t else .aM [])) (K' t) Q):Rf (M.bind K) ((if g=true then o else some d).bind K') Q:=by
 subst hM;cases g
 ·exact k d (by simp)
 ·intro t ht;simp only[if_true]at ht;obtain⟨x,h1,h2⟩:=bO.1 ht;obtain⟨y,h3,h4⟩:=k x (λ_=>h1) t h2;refine⟨y,?_,h4⟩;simp only[ck,h rfl x h1,aX];exact h3
theorem Bd{d:ω}(e:ω→AV)(h:b=true→∀t,o=some t→M0=some (e t))(k:∀t,(b=true→o=some t)→Rf (K (bif b then e t else .aM [])) (K' t) Q):Rf ((A.guard (.bool b) true M0 (some (.aM []))).bind K) ((if b=true then o else some d).bind K') Q:=aqh e (by cases b<;>rfl) h k
end
theorem TJ{ro:Bool}{gD:List Sh}{ig:Sh}{r:au→Heap→aH}{args args':au}{σ:Heap}(hn:A.cG gD args=A.cG gD args')(h1:args.any A.own=false)(h2:args'.any A.own=false):A.wrap ro gD ig r args σ=A.wrap ro gD ig r args' σ:=by unfold A.wrap;rw[h1,h2,hn,Bool.and_false,bE,bE]
theorem TE{τ:Type}{ro:Bool}{gD:List Sh}{ig:Sh}{r:au→Heap→aH}{args args':au}{σ:Heap}{T:Option τ}{enc:τ→AV}(hn:A.cG gD args=args')(h:args.any A.own=false)(e:Rf (r args' σ) T (λt b=>A.nn ig b.1=enc t∧b.2=σ)):∀t,T=some t→A.wrap ro gD ig r args σ=some (enc t,σ):=by intro t ht;obtain⟨⟨v,σ'⟩,h1,h2,h3⟩:=e t ht;simp only at h2 h3;subst h3;exact wrap_eq h (by rw[hn];exact h1) h2
theorem AZ{τ:Type}{ro:Bool}{gD:List Sh}{ig:Sh}{f:AV→Heap→aH}{x0 y0:AV}{σ:Heap}{T:Option τ}{enc:τ→AV}(hn:A.cG gD [x0]=[y0])(h:([x0]:au).any A.own=false)(e:Rf (f y0 σ) T (λt b=>A.nn ig b.1=enc t∧b.2=σ)):∀t,T=some t→A.wrap ro gD ig (A.dH f) [x0] σ=some (enc t,σ):=TE hn h e
theorem yl{τ:Type}{ro:Bool}{gD:List Sh}{ig:Sh}{f:AV→AV→Heap→aH}{x0 x1 y0 y1:AV}{σ:Heap}{T:Option τ}{enc:τ→AV}(hn:A.cG gD [x0,x1]=[y0,y1])(h:([x0,x1]:au).any A.own=false)(e:Rf (f y0 y1 σ) T (λt b=>A.nn ig b.1=enc t∧b.2=σ)):∀t,T=some t→A.wrap ro gD ig (A.dI f) [x0,x1] σ=some (enc t,σ):=TE hn h e
theorem aa7{τ:Type}{ro:Bool}{gD:List Sh}{ig:Sh}{f:AV→AV→AV→Heap→aH}{x0 x1 x2 y0 y1 y2:AV}{σ:Heap}{T:Option τ}{enc:τ→AV}(hn:A.cG gD [x0,x1,x2]=[y0,y1,y2])(h:([x0,x1,x2]:au).any A.own=false)(e:Rf (f y0 y1 y2 σ) T (λt b=>A.nn ig b.1=enc t∧b.2=σ)):∀t,T=some t→A.wrap ro gD ig (A.mU f) [x0,x1,x2] σ=some (enc t,σ):=TE hn h e
end
section
inductive Ct where
 |s(sz:Nat)(es:List au)
 |m(es:List (AV×AV))
 |b(cs:au)
def Bq:AV→Option Nat
 |.os id _ _ _ _=>some id
 |.om id=>some id
 |.op id _=>some id
 |_=>none
def Own(n:Nat)(σ:Heap)(p:AV×Ct):Prop:=match p.2 with
 |.s sz es=>(p.1=.az∧es=[])∨∃id g off a,p.1=.os id g sz off es.length∧n≤id∧σ[id]? =some (.arr g sz a)∧off≤a.length∧a.drop off=es
 |.m es=>∃id,p.1=.om id∧n≤id∧σ[id]? =some (.map es)
 |.b cs=>∃id,p.1=.op id 0∧n≤id∧σ[id]? =some (.box cs)
structure Hp (aK σ : Heap) (L : List (AV × Ct)) : Prop where
 pre:∃bs,σ=aK++bs
 own:∀(i:Nat)p,L[i]? =some p→Own aK.length σ p
 sep:∀(i j:Nat)p q a,L[i]? =some p→L[j]? =some q→Bq p.1=some a→Bq q.1=some a→i=j
section
variable {aK σ σ' : Heap} {L : List (AV × Ct)} {n : Nat}
theorem TQ(σ:Heap):Hp σ σ []:=⟨⟨[],by simp⟩,by simp,by simp⟩
theorem TV{p:AV×Ct}{a:Nat}(h:Own n σ p)(e:Bq p.1=some a):n≤a∧a<σ.length:=by
 obtain⟨v,c⟩:=p;cases c with
 |s sz es=>
  rcases h with⟨h1,_⟩|⟨id,g,off,x,h1,h2,h3,_⟩
  ·simp only at h1;subst h1;cases e
  ·simp only at h1;subst h1;injection e with e;subst e;exact⟨h2,(bM.1 h3).1⟩
 |m es=>obtain⟨id,h1,h2,h3⟩:=h;simp only at h1;subst h1;injection e with e;subst e;exact⟨h2,(bM.1 h3).1⟩
 |b es=>obtain⟨id,h1,h2,h3⟩:=h;simp only at h1;subst h1;injection e with e;subst e;exact⟨h2,(bM.1 h3).1⟩
theorem aaW{p:AV×Ct}(h:Own n σ p)(k:∀a,Bq p.1=some a→σ'[a]? =σ[a]?):Own n σ' p:=by
 obtain⟨v,c⟩:=p;cases c with
 |s sz es=>
  rcases h with h|⟨id,g,off,x,h1,h2,h3,h4⟩
  ·exact .inl h
  ·simp only at h1;subst h1;exact .inr ⟨id,g,off,x,rfl,h2,by rw[k id rfl];exact h3,h4⟩
 |m es=>obtain⟨id,h1,h2,h3⟩:=h;simp only at h1;subst h1;exact⟨id,rfl,h2,by rw[k id rfl];exact h3⟩
 |b es=>obtain⟨id,h1,h2,h3⟩:=h;simp only at h1;subst h1;exact⟨id,rfl,h2,by rw[k id rfl];exact h3⟩
theorem an8(h:∃bs,σ=aK++bs){id:Nat}(hn:aK.length≤id)(b:aS):∃bs,σ.set id b=aK++bs:=by obtain⟨bs,rfl⟩:=h;exact⟨bs.set (id-aK.length) b,by rw[qu _ _ hn]⟩
theorem acD(H:Hp aK σ L){k id:Nat}{h h':AV}{c c':Ct}{b:aS}(hk:L[k]? =some (h,c))(hi:Bq h=some id)(hi':Bq h'=some id)(ho:Own aK.length (σ.set id b) (h',c')):Hp aK (σ.set id b) (L.set k (h',c')):=by
 have hid:=TV (H.own k _ hk) hi;have Ar:=(bM.1 hk).1;refine⟨an8 H.pre hid.1 b,λi p hp=>?_,λi j p q a hp hq e1 e2=>?_⟩
 ·rw[kW]at hp;split at hp
  ·rename_i e;subst e;simp [Ar]at hp;subst hp;exact ho
  ·rename_i e;refine aaW (H.own i p hp) λa ha=>?_
   rw[kW];split
   ·rename_i e';subst e';exact absurd (H.sep k i _ _ id hk hp hi ha) e
   ·rfl
 ·have key:∀(i:Nat)(p:AV×Ct),(L.set k (h',c'))[i]? =some p→Bq p.1=some a→∃p',L[i]? =some p'∧Bq p'.1=some a:=by
   intro i p hp e;rw[kW]at hp;split at hp
   ·rename_i e';subst e';simp [Ar]at hp;subst hp;exact⟨_,hk,by rw[hi];rw[hi']at e;exact e⟩
   ·exact⟨p,hp,e⟩
  obtain⟨p',hp',e1'⟩:=key i p hp e1;obtain⟨q',Df,Lz⟩:=key j q hq e2;exact H.sep i j p' q' a hp' Df e1' Lz
theorem anE(H:Hp aK σ L){h':AV}{c':Ct}{b:aS}(hi':Bq h'=some σ.length)(ho:Own aK.length (σ++[b]) (h',c')):Hp aK (σ++[b]) (L++[(h',c')]):=by
 refine⟨?_,λi p hp=>?_,λi j p q a hp hq e1 e2=>?_⟩
 ·obtain⟨bs,rfl⟩:=H.pre;exact⟨bs++[b],by simp⟩
 ·rw[List.getElem?_append]at hp;split at hp
  ·refine aaW (H.own i p hp) λa ha=>?_
   have:=(TV (H.own i p hp) ha).2;rw[jg this]
  ·have hp':=(bM.1 hp).2;simp at hp';subst hp';exact ho
 ·have key:∀(i:Nat)(p:AV×Ct),(L++[(h',c')])[i]? =some p→Bq p.1=some a→(i=L.length∧a=σ.length)∨(L[i]? =some p∧a<σ.length):=by
   intro i p hp e;rw[List.getElem?_append]at hp;split at hp
   ·exact .inr ⟨hp,(TV (H.own i p hp) e).2⟩
   ·obtain⟨h1,h2⟩:=bM.1 hp;simp at h1 h2;subst h2;rw[hi']at e;injection e with e;exact .inl ⟨by omega,e.symm⟩
  rcases key i p hp e1 with⟨a1,a2⟩|⟨a1,a2⟩<;>rcases key j q hq e2 with⟨b1,b2⟩|⟨b1,b2⟩
  ·omega
  ·omega
  ·omega
  ·exact H.sep i j p q a a1 b1 e1 e2
theorem Uc(H:Hp aK σ L):Hp aK (σ++[.map []]) (L++[(.om σ.length,.m [])]):=by
 have hl:aK.length≤σ.length:=by obtain⟨bs,rfl⟩:=H.pre;simp
 exact anE H rfl ⟨σ.length,rfl,hl,by simp⟩
theorem Tu(H:Hp aK σ L):Hp aK σ []:=⟨H.pre,by simp,by simp⟩
theorem anD(H:Hp aK σ L){k:Nat}{h key v:AV}{ek:A.EK}{es es':List (AV×AV)}(hk:L[k]? =some (h,.m es))(hok:A.lq ek key=true)(he:A.upd ek key v es=some es'):∃σ',A.fV ek h key v σ=some σ'∧Hp aK σ' (L.set k (h,.m es')):=by obtain⟨id,h1,h2,h3⟩:=H.own k _ hk;simp only at h1 h3;subst h1;have hid:=(bM.1 h3).1;exact⟨σ.set id (.map es'),by simp [A.fV,hok,h3,he],acD H hk rfl rfl ⟨id,rfl,h2,by simp [hid]⟩⟩
theorem anC(H:Hp aK σ L){k:Nat}{h key:AV}{ek:A.EK}{es es':List (AV×AV)}(hk:L[k]? =some (h,.m es))(hok:A.lq ek key=true)(he:A.del ek key es=some es'):∃σ',A.F0 ek h key σ=some σ'∧Hp aK σ' (L.set k (h,.m es')):=by obtain⟨id,h1,h2,h3⟩:=H.own k _ hk;simp only at h1 h3;subst h1;have hid:=(bM.1 h3).1;exact⟨σ.set id (.map es'),by simp [A.F0,hok,h3,he],acD H hk rfl rfl ⟨id,rfl,h2,by simp [hid]⟩⟩
theorem anB(H:Hp aK σ L){k:Nat}{h key z:AV}{ek:A.EK}{es:List (AV×AV)}{r:Option AV}(hk:L[k]? =some (h,.m es))(hok:A.lq ek key=true)(he:A.find ek key es=some r):A.look ek h key z σ=some (r.getD z):=by obtain⟨id,h1,h2,h3⟩:=H.own k _ hk;simp only at h1 h3;subst h1;rw[DM ek hok h3,he];rfl
def VR(aK σ:Heap)(r r':AV):Prop:=(∀d,A.bG σ aK.length (d+1) r=some r')∧(σ=aK→r'=r)
theorem acw{r:AV}(h:Fz r):VR aK σ r r:=⟨λd=>h σ _ (d+1),λ_=>rfl⟩
theorem kI{s1:Sh}{v1 w1:AV}{ss:List Sh}{vs ws:au}(h1:A.nn s1 v1=w1)(h2:A.cG ss vs=ws):A.cG (s1::ss) (v1::vs)=w1::ws:=by simp only[A.cG,h1,h2]
theorem It:A.cG [] []=[]:=by simp [A.cG]
theorem sL{ss:List Sh}{vs ws:au}(h:A.cG ss vs=ws):A.nn (.a ss) (.agg vs)=.agg ws:=by simp only[A.nn,h]
theorem aet{ss:List Sh}{vs ws:au}(h:A.cG ss vs=ws):A.nn (.t ss) (.aM vs)=.aM ws:=by simp only[A.nn,h]
theorem Ow(d:Nat):∀{es:List (AV×AV)},(∀p∈es,Fz p.1∧Fz p.2)→A.D2 σ n d es=some es
 |[],_=>by simp [A.D2]
 |(k,v)::es,h=>by have h1:=h (k,v) (by simp);simp only[A.D2,h1.1 σ n d,h1.2 σ n d,aX,Ow d (es:=es) (λp hp=>h p (by simp [hp])),bZ]
theorem acy(H:Hp aK σ L){k:Nat}{h:AV}{es:List (AV×AV)}(hk:L[k]? =some (h,.m es))(hc:∀p∈es,Fz p.1∧Fz p.2):VR aK σ h (.fm es):=by
 obtain⟨id,h1,h2,h3⟩:=H.own k _ hk;simp only at h1 h3;subst h1;refine⟨λd=>?_,λe=>?_⟩
 ·simp only[A.bG,Nat.not_lt.2 h2,if_false,h3,Ow d hc,bZ]
 ·subst e;have:=(bM.1 h3).1;omega
theorem OO(H:Hp aK σ L){r r':AV}(h:VR aK σ r r'):A.fin aK r σ=some (r',aK):=by
 obtain⟨bs,hb⟩:=H.pre;subst hb;by_cases vr:bs=[]
 ·subst vr;rw[List.append_nil]at h ⊢;rw[bP,h.2 rfl]
 ·unfold A.fin;rw[aP (by simpa using vr),aQ (by simp),h.1 7];rfl
end
section
variable {κ ν : Type} [DecidableEq κ]
def dM(k:κ):List (κ×ν)→Option ν
 |[]=>none
 |(k',v)::r=>if k=k' then some v else dM k r
def eH(k:κ)(v:ν):List (κ×ν)→List (κ×ν)
 |[]=>[(k,v)]
 |(k',v')::r=>if k=k' then(k,v)::r else(k',v')::eH k v r
def sN(k:κ):List (κ×ν)→List (κ×ν)
 |[]=>[]
 |(k',v')::r=>if k=k' then r else(k',v')::sN k r
variable {ek : A.EK} {eK : κ → AV} {eV : ν → AV} (hq : ∀ a b, A.fM ek (eK a) (eK b) = some (decide (a = b)))
include hq
theorem DU(k:κ):∀l:List (κ×ν),A.find ek (eK k) (l.map λp=>(eK p.1,eV p.2))=some ((dM k l).map eV)
 |[]=>rfl
 |(k',v)::r=>by
  simp only[ef,A.find,hq,aX,dM];by_cases h:k=k'
  ·simp [h]
  ·simp [h,DU k r]
theorem FE(k:κ)(v:ν):∀l:List (κ×ν),A.upd ek (eK k) (eV v) (l.map λp=>(eK p.1,eV p.2))=some ((eH k v l).map λp=>(eK p.1,eV p.2))
 |[]=>rfl
 |(k',v')::r=>by
  simp only[ef,A.upd,hq,aX,eH];by_cases h:k=k'
  ·simp [h]
  ·simp [h,FE k v r]
theorem adt(k:κ):∀l:List (κ×ν),A.del ek (eK k) (l.map λp=>(eK p.1,eV p.2))=some ((sN k l).map λp=>(eK p.1,eV p.2))
 |[]=>rfl
 |(k',v')::r=>by
  simp only[ef,A.del,hq,aX,sN];by_cases h:k=k'
  ·simp [h]
  ·simp [h,adt k r]
end
theorem abt(a b:ByteArray):A.fM .z (.str a) (.str b)=some (decide (a=b)):=by simp only[A.fM,A.rK,bq]
theorem getD_map{α:Type}(o:Option α)(f:α→AV)(d:α):(o.map f).getD (f d)=f (o.getD d):=by cases o<;>rfl
theorem isSome_map{α:Type}(o:Option α)(f:α→AV):(o.map f).isSome=o.isSome:=by cases o<;>rfl
def xM{κ ν:Type}(eK:κ→AV)(eV:ν→AV)(l:List (κ×ν)):AV:=.fm (l.map λp=>(eK p.1,eV p.2))
section
variable {κ ν : Type} [DecidableEq κ] {ek : A.EK} {eK : κ → AV} {eV : ν → AV} {aK σ : Heap} {L : List (AV × Ct)} {h : AV} {l : List (κ × ν)}
theorem Tt(H:Hp aK σ L)(k:Nat)(hk:L[k]? =some (h,.m (l.map λp=>(eK p.1,eV p.2)))) (hq:∀a b,A.fM ek (eK a) (eK b)=some (decide (a=b))) (x:κ) (v:ν) (hok:A.lq ek (eK x)=true):∃σ',A.fV ek h (eK x) (eV v) σ=some σ'∧Hp aK σ' (L.set k (h,.m ((eH x v l).map λp=>(eK p.1,eV p.2)))):=anD H hk hok (FE hq x v l)
theorem anA(H:Hp aK σ L)(k:Nat)(hk:L[k]? =some (h,.m (l.map λp=>(eK p.1,eV p.2)))) (hq:∀a b,A.fM ek (eK a) (eK b)=some (decide (a=b))) (x:κ) (hok:A.lq ek (eK x)=true):∃σ',A.F0 ek h (eK x) σ=some σ'∧Hp aK σ' (L.set k (h,.m ((sN x l).map λp=>(eK p.1,eV p.2)))):=anC H hk hok (adt hq x l)
theorem alY(H:Hp aK σ L)(k:Nat)(hk:L[k]? =some (h,.m (l.map λp=>(eK p.1,eV p.2)))) (hq:∀a b,A.fM ek (eK a) (eK b)=some (decide (a=b))) (x:κ) (z:ν) (hok:A.lq ek (eK x)=true):A.look ek h (eK x) (eV z) σ=some (eV ((dM x l).getD z)):=by rw[anB H hk hok (DU hq x l),getD_map]
theorem alT(hq:∀a b,A.fM ek (eK a) (eK b)=some (decide (a=b)))(x:κ)(z:ν)(hok:A.lq ek (eK x)=true):A.look ek (xM eK eV l) (eK x) (eV z) σ=some (eV ((dM x l).getD z)):=by simp only[A.look,xM,hok,ck,A.entries,aX,DU hq,bZ,getD_map]
end
section
variable {α : Type} {c : α → au} {l ys : List α} {aK σ : Heap} {L : List (AV × Ct)} {h : AV} {sz : Nat}
end
end
section
def jZ{α:Type}(f:Nat→α→Int):List α→Nat→Int
 |[],_=>0
 |x::l,i=>if f i x=0 then jZ f l (i+1)else f i x
section
variable {α β γ S B R : Type}
theorem AR{f:Nat→α→Int}:∀(l:List α)(i:Nat),jZ f l i=0↔∀j x,l[j]? =some x→f (i+j) x=0
 |[],i=>by simp [jZ]
 |y::l,i=>by
  rw[jZ];by_cases h:f i y=0
  ·rw[aQ h,AR l (i+1)];constructor
   ·intro k j x hx;cases j with
    |zero=>simp at hx;subst hx;exact h
    |succ j=>have:=k j x (by simpa using hx);rwa[show i+1+j=i+(j+1) by omega]at this
   ·intro k j x hx;have:=k (j+1) x (by simpa using hx);rwa[show i+(j+1)=i+1+j by omega]at this
  ·rw[aP h];exact⟨λe=>absurd e h,λk=>absurd (k 0 y rfl) h⟩
theorem Kf{l:List α}{body:Nat→α→S→Option (Lr S B R)}{fin:S→Option B}{s:S}{K1:B→Option γ}{K2:R→Option γ}(hl:l.length≤bg):mY l body fin s K1 K2=(oR body fin l 0 s).bind λq=>q.elim K1 K2:=aQ hl
theorem DH{f:Nat→α→Int}{l:List α}{body:Nat→α→Unit→Option (Lr Unit Unit Int)}{fin:Unit→Option Unit}{s:Unit}{K1:Unit→Option γ}{K2:Int→Option γ}(hl:l.length≤bg)(hb:∀i x,l[i]? =some x→body i x ()=some (if f i x=0 then .go ()else .ret (f i x)))(hf:fin ()=some ():=by rfl):mY l body fin s K1 K2=if jZ f l 0=0 then K1 ()else K2 (jZ f l 0):=by
 rw[Kf hl]
 have key:∀(rest pre:List α),l=pre++rest→oR body fin rest pre.length ()=some (if jZ f rest pre.length=0 then .inl ()else .inr (jZ f rest pre.length)):=by
  intro rest;induction rest with
  |nil=>intro pre _;simp [oR,hf,jZ]
  |cons x rest ih=>
   intro pre hp;rw[oR,hb pre.length x (by rw[hp];simp),aX,jZ];by_cases h:f pre.length x=0
   ·simp only[h,if_true];have:=ih (pre++[x]) (by simpa using hp);simpa using this
   ·simp only[h,if_false]
 have k:=key l [] rfl;rw[List.length_nil]at k;rw[show s=()from rfl,k,aX];split<;>rfl
theorem HZ{p:Prop}[Decidable p]{k f:Int}{Y:Option (Lr Unit Unit Int)}(hk:k≠0)(h:Y=some (if f=0 then .go ()else .ret f)):(if p then some (.ret k)else Y)=some (if(if p then k else f)=0 then .go ()else .ret (if p then k else f)):=by
 by_cases hp:p
 ·simp [hp,hk]
 ·simp [hp,h]
theorem go_ret:(some (.go ()):Option (Lr Unit Unit Int))=some (if(0:Int)=0 then .go ()else .ret 0):=rfl
theorem aav(k:Int):(if k=0 then some (.go ())else some (.ret k):Option (Lr Unit Unit Int))=some (if k=0 then .go ()else .ret k):=by split<;>rfl
theorem ZD{p:α→Bool}{l:List α}{body:Nat→α→Unit→Option (Lr Unit Unit R)}{r:α→R}{fin:Unit→Option Unit}{s:Unit}{K1:Unit→Option γ}{K2:R→Option γ}(hl:l.length≤bg)(hb:∀i x,l[i]? =some x→body i x ()=some (if p x=true then .ret (r x)else .go ()))(hf:fin ()=some ():=by rfl):mY l body fin s K1 K2=match l.find? p with|some x=>K2 (r x)|none=>K1 ():=by
 rw[Kf hl]
 have key:∀(rest pre:List α),l=pre++rest→oR body fin rest pre.length ()=some (match rest.find? p with|some x=>.inr (r x)|none=>.inl ()):=by
  intro rest;induction rest with
  |nil=>intro pre _;simp [oR,hf]
  |cons x rest ih=>
   intro pre hp;rw[oR,hb pre.length x (by rw[hp];simp),aX,List.find?_cons];cases h:p x
   ·simp only[Bool.false_eq_true,if_false];have:=ih (pre++[x]) (by simpa using hp);simpa using this
   ·simp only[if_true]
 have k:=key l [] rfl;rw[List.length_nil]at k;rw[show s=()from rfl,k,aX];cases l.find? p<;>rfl
theorem NL{l:List α}{body:Nat→α→S→Option (Lr S B R)}{fin:S→Option B}{s:S}{K1:B→Option γ}{K2:R→Option γ}(g:S→α→S)(P:Nat→S→Prop)(hl:l.length≤bg)(h0:P 0 s)(hP:∀i x s,l[i]? =some x→P i s→P (i+1) (g s x))(hb:∀i x s,l[i]? =some x→P i s→body i x s=some (.go (g s x))):mY l body fin s K1 K2=(fin (l.foldl g s)).bind K1:=by
 rw[Kf hl]
 have key:∀(rest pre:List α)(s:S),l=pre++rest→P pre.length s→oR body fin rest pre.length s=(fin (rest.foldl g s)).map .inl:=by
  intro rest;induction rest with
  |nil=>intro pre s _ _;simp [oR]
  |cons x rest ih=>
   intro pre s hp hq;have hx:l[pre.length]? =some x:=by rw[hp];simp
   rw[oR,hb pre.length x s hx hq,aX,List.foldl_cons];have:=ih (pre++[x]) (g s x) (by simpa using hp) (by simpa using hP _ _ _ hx hq);simpa using this
 have k:=key l [] s rfl h0;rw[List.length_nil]at k;rw[k];cases fin (l.foldl g s)<;>rfl
def pv [Inhabited α](l:List α)(i:Nat):α:=if 0<i then l.getD (i-1) default else default
theorem TI{l:List α}{i:Int}{x:α}(h0:0≤i)(h:l[i.toNat]? =some x):xW l i=some x:=by rw[xW,aQ h0,h]
theorem H7 [Inhabited α]{l:List α}{i:Nat}{x:α}(h:l[i]? =some x)(hl:l.length≤bg):(if decide (0<(i:Int))=true then xW l (IntKind.i64.wrap ((i:Int) -1))else some default)=some (pv l i):=by
 have hi:=(bM.1 h).1;unfold pv;by_cases h0:0<i
 ·rw[aQ (by simpa using h0),aQ h0,cL (by unfold aV;unfold bg at hl;omega)];refine TI (by omega) ?_;have:((i:Int) -1).toNat=i-1:=by omega
  rw[this,List.getD,bT (by omega)];rfl
 ·rw[aP (by simpa using h0),aP h0]
theorem T7{a b:Int}:(([a,b]:List Int).find? λn=>decide (¬n=0)).getD 0=if ¬(a=0)then a else b:=by
 by_cases ha:a=0
 ·by_cases hb:b=0<;>simp [ha,hb,List.find?]
 ·simp [ha,List.find?]
end
theorem Oi(s:ByteArray):s.toList=s.data.toList:=ByteArray.toList_eq s
theorem Tn:∀(a b:List UInt8),Lib.compareBytes a b<0↔Op.bytesLess a b=true
 |[],[]=>by simp [Lib.compareBytes,Op.bytesLess]
 |[],_::_=>by simp [Lib.compareBytes,Op.bytesLess]
 |_::_,[]=>by simp [Lib.compareBytes,Op.bytesLess]
 |a::x,b::y=>by
  rw[Lib.compareBytes,Op.bytesLess];by_cases h1:a<b
  ·simp [h1]
  ·by_cases h2:b<a
   ·have:a≠b:=by rintro rfl;exact h1 h2
    simp [h1,h2,this]
   ·have:a=b:=UInt8.le_antisymm (UInt8.not_lt.1 h2) (UInt8.not_lt.1 h1);subst this;simp [UInt8.lt_irrefl,Tn x y]
theorem Tm:∀(a b:List UInt8),Lib.compareBytes a b=0↔a=b
 |[],[]=>by simp [Lib.compareBytes]
 |[],_::_=>by simp [Lib.compareBytes]
 |_::_,[]=>by simp [Lib.compareBytes]
 |a::x,b::y=>by
  rw[Lib.compareBytes];by_cases h1:a<b
  ·have:a≠b:=by rintro rfl;exact UInt8.lt_irrefl _ h1
   simp [h1,this]
  ·by_cases h2:b<a
   ·have:a≠b:=by rintro rfl;exact UInt8.lt_irrefl _ h2
    simp [h1,h2,this]
   ·have:a=b:=UInt8.le_antisymm (UInt8.not_lt.1 h2) (UInt8.not_lt.1 h1);subst this;simp [UInt8.lt_irrefl,Tm x y]
def gI(a b:aG):Bool:=decide (a.unit<b.unit)||(decide (a.unit=b.unit)&&Op.bytesLess a.param.toList b.param.toList)
def yG(a b:aG):Int:=if ¬(a.unit=b.unit)then(if a.unit<b.unit then -1 else 1)else Lib.compareBytes a.param.data.toList b.param.data.toList
theorem To(a b:aG):yG a b<0↔gI a b=true:=by
 unfold yG gI;by_cases h:a.unit=b.unit
 ·simp [h,Oi,Tn]
 ·by_cases h2:a.unit<b.unit<;>simp [h,h2]
theorem am2(a b:aG):decide (0≤yG a b)=!gI a b:=by
 have:=To a b;cases h:gI a b
 ·rw[h]at this;simp at this;simp [this]
 ·rw[h]at this;simp at this;simp [this]
theorem am1(a b:aG):yG a b=0↔a=b:=by
 obtain⟨u,p⟩:=a;obtain⟨v,q⟩:=b;unfold yG;by_cases h:u=v
 ·subst h;simp only[not_true_eq_false,if_false,Tm,aG.mk.injEq,true_and];exact⟨λe=>by obtain⟨⟨p⟩⟩:=p;obtain⟨⟨q⟩⟩:=q;simp at e;subst e;rfl,λe=>by rw[e]⟩
 ·by_cases h2:u<v<;>simp [h,h2]
end
section
open Go.Sort
theorem acg:∀a:List UInt8,Op.bytesLess a a=false
 |[]=>rfl
 |x::l=>by simp [Op.bytesLess,UInt8.lt_irrefl,acg l]
theorem aam:∀a b c:List UInt8,Op.bytesLess a b=true→Op.bytesLess b c=true→Op.bytesLess a c=true
 |[],[],c,h,_=>by simp [Op.bytesLess]at h
 |[],_::_,[],_,k=>by simp [Op.bytesLess]at k
 |[],_::_,_::_,_,_=>rfl
 |_::_,[],c,h,_=>by simp [Op.bytesLess]at h
 |_::_,_::_,[],_,k=>by simp [Op.bytesLess]at k
 |x::a,y::b,z::c,h,k=>by
  rw[Op.bytesLess]at h k ⊢;simp only[Bool.or_eq_true,jI,decide_eq_true_eq,beq_iff_eq]at h k ⊢;rcases h with h|⟨rfl,h⟩<;>rcases k with k|⟨rfl,k⟩
  ·exact .inl (UInt8.lt_trans h k)
  ·exact .inl h
  ·exact .inl k
  ·exact .inr ⟨rfl,aam a b c h k⟩
theorem B0(a:aG):gI a a=false:=by simp [gI,acg]
theorem E9{a b c:aG}(h:gI a b=true)(k:gI b c=true):gI a c=true:=by
 simp only[gI,Bool.or_eq_true,jI,decide_eq_true_eq]at h k ⊢;rcases h with h|⟨h1,h2⟩<;>rcases k with k|⟨k1,k2⟩
 ·left;omega
 ·left;omega
 ·left;omega
 ·right;exact⟨by omega,aam _ _ _ h2 k2⟩
theorem Tx{a b:aG}(h:gI a b=false)(k:gI b a=false):a=b:=by
 rw[←am1];have h1:¬yG a b<0:=λe=>by rw[(To a b).1 e]at h;cases h
 have hba:yG b a=-yG a b∨True:=.inr trivial
 -- what is neither smaller nor greater is the same
 unfold yG at h1 ⊢;simp only[gI,oP,Bool.and_eq_false_iff,decide_eq_false_iff_not]at h k;have hu:a.unit=b.unit:=by omega
 simp only[hu,not_true_eq_false,if_false]at h1 ⊢
 have e1:Op.bytesLess a.param.data.toList b.param.data.toList=false:=by
  rcases h.2 with q|q
  ·exact absurd hu q
  ·simpa [Oi]using q
 have e2:Op.bytesLess b.param.data.toList a.param.data.toList=false:=by
  rcases k.2 with q|q
  ·exact absurd hu.symm q
  ·simpa [Oi]using q
 rw[Tm]
 have tri:∀x y:List UInt8,Op.bytesLess x y=false→Op.bytesLess y x=false→x=y:=by
  intro x;induction x with
  |nil=>intro y p q;cases y with|nil=>rfl|cons y l=>simp [Op.bytesLess]at p
  |cons x xs ih=>
   intro y p q;cases y with
   |nil=>simp [Op.bytesLess]at q
   |cons y ys=>
    rw[Op.bytesLess]at p q;by_cases h1:x<y
    ·simp [h1]at p
    ·by_cases h2:y<x
     ·simp [h2]at q
     ·have:x=y:=UInt8.le_antisymm (UInt8.not_lt.1 h2) (UInt8.not_lt.1 h1);subst this;simp [h1]at p q;rw[ih ys p q]
 exact tri _ _ e1 e2
theorem DD(a b:aG):mO a b<0↔gI a b=true:=To a b
theorem zx{α:Type}(f:α→aG):SWO (λx y=>decide (mO (f x) (f y)<0)):=by
 refine⟨λx=>?_,λx y z h k=>?_,λx y z h k=>?_⟩
 ·exact cD λh=>by rw[DD,B0]at h;cases h
 ·have h:=(DD _ _).1 (of_decide_eq_true h);have k:=(DD _ _).1 (of_decide_eq_true k);exact cz ((DD _ _).2 (E9 h k))
 ·have h:gI (f x) (f y)=false:=by
   cases q:gI (f x) (f y)
   ·rfl
   ·exact absurd ((DD _ _).2 q) (of_decide_eq_false h)
  have k:gI (f y) (f z)=false:=by
   cases q:gI (f y) (f z)
   ·rfl
   ·exact absurd ((DD _ _).2 q) (of_decide_eq_false k)
  refine cD λq=>?_
  have q:=(DD _ _).1 q;cases e:gI (f y) (f x)
  ·have:=Tx h e;rw[this,k]at q;cases q
  ·have:=E9 e q;rw[k]at this;cases this
theorem YM(x y:bB)(h:dP x=dP y):x=y:=by obtain⟨⟨a,b⟩,⟨p,q⟩,r⟩:=x;obtain⟨⟨a',b'⟩,⟨p',q'⟩,r'⟩:=y;simp [dP]at h;obtain⟨rfl,rfl,rfl,rfl,rfl⟩:=h;rfl
end
section
open Go.RowKit Go.Sort
set_option maxRecDepth 100000
theorem Yf{α:Type}[Inhabited α]{enc:α→List Value}{k:Nat}(hk:∀x,(enc x).length=k){w:World}{b off n:Nat}{d d':Array α}{os:Array Obj}{arr:Array Value}{bt:TypeId}(hs:d'.size=d.size)
  (hb:w.heap[b]? =some (.cells arr bt (0,0))) (hfit:off+d.size*k≤arr.size):
  Below w.heap.size (w.eS b (.cells (iw arr off (d'.toList.flatMap enc)) bt (0,0))) (sortWorldK enc k w b off n d' os):=by
 have hlt:b<w.heap.size:=(mw.1 hb).1
 have hfl:(d'.toList.flatMap enc).length=d'.size*k:=by
  have:∀l:List α,(l.flatMap enc).length=l.length*k:=by
   intro l;induction l with
   |nil=>simp
   |cons x l ih=>simp [hk,ih,gO];omega
  rw[this,Array.length_toList]
 have j0:∀(l:List α)(t:Nat),t<l.length*k→(l.flatMap enc)[t]? =some ((enc l.toArray[t / k]!)[t % k]!):=by
  intro l;induction l with
  |nil=>intro t ht;simp at ht
  |cons x l ih=>
   intro t ht;have hk0:0<k:=Nat.pos_of_ne_zero λe=>by subst e;simp at ht
   rw[List.flatMap_cons];by_cases h:t<k
   ·rw[jg (by rw[hk];exact h),Nat.div_eq_of_lt h,Nat.mod_eq_of_lt h];simp [hk,h]
   ·rw[iZ (by rw[hk];omega),hk,ih (t-k) (by simp [gO]at ht;omega)];have e1:t / k=(t-k) / k+1:=by rw[Nat.div_eq_sub_div hk0 (by omega)]
    have e2:t % k=(t-k) % k:=by rw[Nat.mod_eq_sub_mod (by omega)]
    rw[e1,e2];simp
 have hcells:putCells id off (flatK enc k d') arr=iw arr off (d'.toList.flatMap enc):=by
  apply Array.ext_getElem?;intro j;rw[DQ _ _ _ (by rw[hfl,hs];omega)];simp only[putCells,Array.getElem?_mapIdx,size_flatK];by_cases hj:off≤j∧j<off+d'.size*k
  ·rw[aQ (by rw[hfl];exact hj)];have hja:j<arr.size:=by rw[hs]at hj;omega
   rw[uU hja,bZ,aQ hj];have:=j0 d'.toList (j-off) (by rw[Array.length_toList];omega);rw[this];simp only[id];rw[get_flatK _ _ _ _ (by omega)]
  ·rw[aP (by rw[hfl];exact hj)];by_cases hja:j<arr.size
   ·rw[uU hja,bZ,aP hj]
   ·rw[Array.getElem?_eq_none (by omega),Option.map_none]
 refine⟨rfl,rfl,rfl,?_,λi hi=>?_⟩
 ·rw[yg];simp [sortWorldK,grow,putRowK,putRow,mapBlock,Sort.ahead]
 ·have hi':i<(putRowK enc k (Sort.ahead w n) b off d').heap.size:=by simp [putRowK,putRow,mapBlock,Sort.ahead];exact hi
  show(grow (putRowK enc k (Sort.ahead w n) b off d') os).heap[i]? =_;unfold grow;simp only;rw[Array.getElem?_append_left hi'];simp only[putRowK,putRow,mapBlock,Sort.ahead];rw[Array.getElem?_modify];by_cases h:b=i
  ·subst h;rw[aQ rfl,vM _ hlt,hb];simp only[bZ,onCells,hcells]
  ·rw[aP h,wM _ h]
theorem aj0{P:Program}{nm:List Nat}{f g:FuncId}{α:Type}[Inhabited α]{sz:Nat}{c:α→au}{enc:α→List Value}{cf:α→α→Int}(hsz:0<sz)(hinj:∀x y,c x=c y→x=y)(iN:∀x,(c x).length=sz)
  (Eo:∀cc x,aR cc (c x) (enc x)) (aqb:∀cc x vs,aR cc (c x) vs→vs=enc x) (hone:∀x,∀v∈enc x,eR v=true)
  (hf:∀us w,(callFunc f us).run P w=.ok (.enter f us) w) (hnone:∀w,Calls P f #[.slice none 0 0,.func (.func g) #[] #[]] w λe w'=>e=.returned (.tuple #[])∧Below w.heap.size w w')
  (ap4:∀(blk off cap:Nat)(d:Array α)(w:World),HoldsK enc sz w blk off d→blk<w.heap.size→d.size<4611686018427387904→Calls P f #[.slice (some ⟨blk,off,none⟩) d.size cap,.func (.func g) #[] #[]] w λe w'=>
   e=.returned (.tuple #[])∧∃n os,w'=sortWorldK enc sz w blk off n (pdq (λx y=>decide (cf x y<0)) d 0 d.size (Lib.bitLen d.size) true true) os)
  (hsize:∀d:Array α,(pdq (λx y=>decide (cf x y<0)) d 0 d.size (Lib.bitLen d.size) true true).size=d.size)
  {x:AV} {σ:Heap} {r:AV} {σ':Heap} (hm:A.KF sz c cf x σ=some (r,σ')) {n:Nat} (hn:∀f,nm.getD f 0=n→f=g):pW P nm f [x,.fn n []] σ r σ':=by
 refine .inl ⟨f,hf,λz vs e1 e2 hh ha=>?_⟩;obtain⟨v,u,rfl,r1,r2⟩:=O6 ha;simp only[an]at r2;obtain⟨f',us,rfl,k1,k2⟩:=r2;have hf':f'=g:=hn f' (by rw[←e1];exact k1);have Ws:us=#[]:=by simp only[aR]at k2;exact nH.1 k2
 subst hf' Ws;have hout:Out z z.w z.E:=⟨rfl,rfl,rfl,bD _,λ_ _ _=>rfl,λi p hp=>.inr ⟨p,hp,rfl⟩,λi p hp=>⟨p,hp,.inl rfl⟩,e2,λp hp=>hh.lt hp⟩
 unfold A.KF at hm;cases x<;>simp only at hm<;>first|(cases hm;done)|skip
 case az=>
  simp only[Option.some.injEq,Prod.mk.injEq]at hm;obtain⟨rfl,rfl⟩:=hm;simp only[an]at r1;subst r1;refine(hnone z.w).mono ?_;rintro e w' ⟨rfl,hb⟩;exact⟨_,z.E,rfl,hout.grow hb,hh.mono (yh hb) rfl (λp hp=>hb.block _ (hh.lt hp)),by simp [an,aR]⟩
 case os=>
  rename_i id gg iF off len;simp only[an]at r1;obtain⟨hg,p,k3,k4,qa,cap,rfl,hcap,rx⟩:=r1;split at hm
  ·rename_i g' sz' es hs;split at hm
   ·rename_i hc;obtain⟨⟨c1,c2,c3,c4,c5,c6⟩,c7⟩:=hc;subst c1;subst c2;subst c3;simp only[Option.some.injEq,Prod.mk.injEq]at hm;obtain⟨rfl,rfl⟩:=hm;have hl:=Classical.choose_spec c7;generalize Classical.choose c7=l at hl ⊢;obtain⟨j1,j2,j3,j4,⟨arr,bt,j5,j6⟩,j7,j8,j9⟩:=hh.blk id p _ k3 hs;obtain⟨q1,q2,q3⟩:=rx j1.symm;have As:qa=⟨p.b,p.base+off*p.sz,none⟩:=q2.resolve_left (by omega)
    have wC:l.length=len:=by have:=congrArg List.length hl;simp at this;omega
    have hmul:(off+len)*iF≤es.length*iF:=rD _ c4;rw[gO]at hmul;have BF:z.w.heap[p.b]? =some (.cells arr bt (0,0)):=j5;have hlt:p.b<z.w.heap.size:=(mw.1 BF).1;have arW:p.sz=iF:=q1
    have ao0:HoldsK enc iF z.w p.b (p.base+off*iF) l.toArray:=by
     intro t ht;simp only[size_flatK,List.size_toArray]at ht;rw[get_flatK _ _ _ _ (by simpa using ht)];have uy:t / iF<l.length:=by rw[Nat.div_lt_iff_lt_mul hsz];exact ht
     have Aq:es[off+t / iF]? =some (c l[t / iF]):=by
      have h1:((es.drop off).take len)[t / iF]? =(l.map c)[t / iF]? :=by rw[hl]
      rw[List.getElem?_take_of_lt (by omega),List.getElem?_drop,sy,bT uy]at h1;exact h1
     obtain⟨_,m2⟩:=bN.nth j8 Aq;obtain⟨vs,m3,m4,m5⟩:=m2.Mi;have m6:=aqb _ _ _ m3;subst m6;have hmod:t % iF<(enc l[t / iF]).length:=by rw[←(Eo (ctx z z.w z.E dQ) _).length,iN];exact Nat.mod_lt _ hsz
     have m7:=m5 (t % iF) _ (bT hmod)
     have e:p.base+(off+t / iF)*iF+t % iF=p.base+off*iF+t:=by have:=Nat.div_add_mod t iF;rw[gO,Nat.mul_comm (t / iF)];omega
     rw[e]at m7;refine⟨?_,by simp [World.frozen?,BF]⟩;rw[show z.w.cell? ⟨p.b,p.base+off*iF+t,none⟩=_ from m7];simp [uy,hmod]
    have CL:=ap4 p.b (p.base+off*iF) cap l.toArray z.w ao0 hlt (by simpa [wC]using c6);rw[As,arW];simp only[List.size_toArray,wC]at CL;refine CL.mono ?_;rintro e w' ⟨rfl,nn,os,rfl⟩;have hd':=hsize l.toArray;simp only[List.size_toArray,wC]at hd';generalize sZ:pdq (λx y=>decide (cf x y<0)) l.toArray 0 len (Lib.bitLen len) true true=d' at hd' ⊢;have hsw:=Yf (enc:=enc) (k:=iF) (λx=>by rw[←(Eo (ctx z z.w z.E dQ) x).length,iN]) (w:=z.w) (b:=p.b) (off:=p.base+off*iF) (n:=nn) (d:=l.toArray) (d':=d') (os:=os) (by rw[hd'];simp [wC]) BF (by simp [wC];rw[j6];omega)
    have ar9:St ⟨P,nm,λ_ _ _=>none,λ_ _ _=>none,[],[],0,[]⟩ z ⟨[],λ_=>none,σ⟩ {tmps:=#[],defers:=[]} z.w z.E dQ:=
     ⟨rfl,rfl,λi av hi=>by simp at hi,λi cs hi=>by simp at hi,λt p hp=>(by cases hp),λi b hb=>(by cases hb),λi j b hb=>(by cases hb),hh,rfl,hout,e1.symm⟩
    have hnl:(d'.toList.map c).length=len:=by rw[List.length_map,Array.length_toList,hd']
    obtain⟨_,hst⟩:=NX ar9 (i:=off) (ys:=d'.toList.map c) (news:=d'.toList.flatMap enc) k3 hs j5 (by rw[hnl];exact c4) (by
      generalize d'.toList=l';induction l' with
      |nil=>simp [aR]
      |cons x l' ih=>simp only[ef,List.flatten_cons,List.flatMap_cons];exact(Eo _ x).append ih)
     (λx hx=>by obtain⟨y,_,hy⟩:=List.mem_flatMap.1 hx;exact hone y x hy) (λy hy=>by obtain⟨x,_,rfl⟩:=gB.1 hy;exact iN x)
     (by
      have:∀l:List α,(l.flatMap enc).length=l.length*iF:=by
       intro l;induction l with
       |nil=>simp
       |cons x l ih=>simp only[List.flatMap_cons,List.length_append,ih,←(Eo (ctx z z.w z.E dQ) x).length,iN,List.length_cons,gO];omega
      rw[this,List.length_map])
    have zX:=hst.grow (w':=sortWorldK enc iF z.w p.b (p.base+off*iF) nn d' os) (by rw[yg];exact hsw);refine⟨_,z.E,rfl,zX.out,?_,by simp [an,aR]⟩;have PO:oS cf l=d'.toList:=by unfold oS;rw[wC,sZ]
    rw[hnl]at zX;rw[PO];exact zX.heap
   ·cases hm
  ·cases hm
def zq(x:bB):List Value:=[.int .i64 x.key.unit,.string x.key.param,.int .i64 x.value.level,.int .i64 x.value.iY,.int .i64 x.cm]
theorem J4{W:World}{o1 o2:Obj}:∃q os',(W.alloc o1).alloc o2=grow (W.drewN q) os':=⟨0,_,by rw[alloc_eq_grow,alloc_eq_grow,grow_grow];rfl⟩
theorem akz{W:World}{o1 o2:Obj}{q:Nat}{os:Array Obj}:∃q' os',grow (((W.alloc o1).alloc o2).drewN q) os=grow (W.drewN q') os':=⟨q,_,by rw[alloc_eq_grow,alloc_eq_grow,grow_grow];show grow (grow (W.drewN q) _) os=_;rw[grow_grow]⟩
theorem ahy(a b:aG)(W:World):Calls Tryz.prog 203 #[.agg #[.int .i64 a.unit,.string a.param],.agg #[.int .i64 b.unit,.string b.param]] W λe w'=>e=.returned (.int .i64 (mO a b))∧∃q os',w'=grow (W.drewN q) os':=by
 have CL:=λ(x y:ByteArray)W'=>Tryz.strings_Compare x y W'
 go_enter Tryz.func203,Tryz.ntmps203
 go_wp2_with (go_at_call 61;refine(CL _ _ _).mono ?_;rintro e w' ⟨rfl,rfl⟩)
 ·go_ret
  have h1:a.unit≠b.unit:=by omega
  exact⟨by rw[mO,aQ h1,aQ (by omega)];rfl,J4⟩
 ·go_ret
  have h1:a.unit≠b.unit:=by simpa using ‹(a.unit !=b.unit)=true›
  exact⟨by rw[mO,aQ h1,aP (by omega)];rfl,J4⟩
 ·go_ret
  have h1:a.unit=b.unit:=by first|simpa using ‹(a.unit !=b.unit)=false›|simpa using ‹¬(a.unit !=b.unit)=true›|omega
  exact⟨by rw[mO,aP (by simpa using h1)];rfl,J4⟩
theorem ak4(cc:RC)(x:bB):aR cc (dP x) (zq x):=by obtain⟨⟨a,b⟩,⟨p,q⟩,r⟩:=x;simp [dP,zq,aR,an]
theorem aj4(cc:RC)(x:bB)(vs:List Value)(e:aR cc (dP x) vs):vs=zq x:=by obtain⟨⟨a,b⟩,⟨p,q⟩,r⟩:=x;simpa [dP,zq,aR,an]using e
theorem ZU(x:bB)(v:Value)(h:v∈zq x):eR v=true∧v.oneCell'=true:=by simp [zq]at h;rcases h with rfl|rfl|rfl|rfl|rfl<;>exact⟨rfl,rfl⟩
theorem aaX{α:Type}[Inhabited α]{cf:α→α→Int}(hS:SWO (λx y=>decide (cf x y<0))) (d:Array α):(pdq (λx y=>decide (cf x y<0)) d 0 d.size (Lib.bitLen d.size) true true).size=d.size:=
 (pdq_sorts (λx y=>decide (cf x y<0)) hS d 0 d.size (Lib.bitLen d.size) true true (kY _) (bD _) (Or.inl rfl)).1.1
theorem ahp(a b:bB)(W:World):Calls Tryz.prog 202 #[.agg (zq a).toArray,.agg (zq b).toArray] W λe w'=>e=.returned (.int .i64 (mO a.key b.key))∧∃q os',w'=grow (W.drewN q) os':=by
 have CL:=λW'=>ahy a.key b.key W'
 unfold zq;generalize mO a.key b.key=r at CL ⊢
 go_enter Tryz.func202,Tryz.ntmps202
 go_wp2_with (go_at_call 203;refine(CL _).mono ?_;rintro e w' ⟨rfl,q,os',rfl⟩)
 go_ret
 exact⟨rfl,akz⟩
theorem aeB:Sound Tryz.prog aL 201 Jm:=by
 intro args σ r σ' h;unfold Jm A.dI at h;split at h
 ·rename_i x f aK;simp only at h;split at h
  ·have eg:∀args w,(callFunc 202 args).run Tryz.prog w=.ok (.enter 202 args) w:=Tryz.call202;refine @aj0 Tryz.prog aL 201 202 bB ⟨⟨⟨0,⟨#[]⟩⟩,⟨0,0⟩,0⟩⟩ 5 dP zq (λa b=>mO a.key b.key) (by decide) (λx y e=>?_) (λ_=>rfl) (λcc x=>?_) (λcc x vs e=>?_) (λx v hv=>?_) Tryz.call201 (λw=>?_) (λblk off cap d w hH hb hd=>?_) (λd=>?_) _ _ _ _ h _ (λf hf=>OQ (by kernel_rfl) rfl hf)
   ·exact YM x y e
   ·exact ak4 cc x
   ·exact aj4 cc x vs e
   ·exact(ZU x v hv).1
   ·exact(AnyF.slices_SortFunc_none (P:=Tryz.prog) {Tryz.sort201 with} none 0 _ w).mono λe w'⟨h1,h2⟩=>⟨h1,h2▸Below.refl _ _⟩
   ·exact AnyQ.slices_SortFunc_eq Tryz.sort201 5 Tryz.isAgg221 Tryz.sizeOf221 zq (λ_=>rfl) (λx v hv=>(ZU x v hv).2) (λa b=>mO a.key b.key) (zx λe:bB=>e.key) 202 #[] blk off cap d w eg (λ_ _ _ _ x y=>ahp x y _) hH hb hd
   ·exact aaX (zx λe:bB=>e.key) d
  ·cases h
 ·cases h
end
section
def HP:=(Nat→Option aS)→Prop
namespace HP
def emp:HP:=λh=>∀i,h i=none
def blk(id:Nat)(b:aS):HP:=λh=>∀i,h i=if i=id then some b else none
def star(P Q:HP):HP:=λh=>∃f g,P f∧Q g∧(∀i,f i=none∨g i=none)∧∀i,h i=(f i).or (g i)
def pr(p:Prop):HP:=λh=>p∧∀i,h i=none
def ex{α:Type}(P:α→HP):HP:=λh=>∃x,P x h
instance : Mul HP := ⟨star⟩
theorem aae(P Q:HP):P*Q=Q*P:=by
 have key:∀P Q:HP,∀h,(P*Q) h→(Q*P) h:=by rintro P Q h ⟨f,g,hf,hg,hd,hh⟩;refine⟨g,f,hg,hf,λi=>(hd i).symm,λi=>?_⟩;rw[hh i];rcases hd i with e|e<;>rw[e]<;>simp
 funext h;exact propext ⟨key P Q h,key Q P h⟩
theorem wO(P Q R:HP):P*Q*R=P*(Q*R):=by
 funext h;apply propext;constructor
 ·rintro⟨f,g,⟨f1,f2,h1,h2,LQ,hf⟩,hg,hd,hh⟩;refine⟨f1,λi=>(f2 i).or (g i),h1,⟨f2,g,h2,hg,λi=>?_,λi=>rfl⟩,λi=>?_,λi=>?_⟩
  ·have:=hd i;rw[hf i]at this;rcases this with e|e
   ·cases h:f1 i<;>simp [h]at e<;>exact .inl e
   ·exact .inr e
  ·have a:=hd i;have b:=LQ i;rw[hf i]at a;rcases b with b|b
   ·exact .inl b
   ·rcases a with a|a
    ·cases h:f1 i<;>simp [h]at a;exact .inl rfl
    ·exact .inr (show(f2 i).or (g i)=none by rw[b,a];rfl)
  ·rw[hh i,hf i];cases f1 i<;>simp
 ·rintro⟨f,g,hf,⟨g1,g2,h1,h2,LQ,hg⟩,hd,hh⟩;refine⟨λi=>(f i).or (g1 i),g2,⟨f,g1,hf,h1,λi=>?_,λi=>rfl⟩,h2,λi=>?_,λi=>?_⟩
  ·have:=hd i;rw[hg i]at this;rcases this with e|e
   ·exact .inl e
   ·cases h:g1 i<;>simp [h]at e;exact .inr rfl
  ·have a:=hd i;have b:=LQ i;rw[hg i]at a;rcases b with b|b
   ·rcases a with a|a
    ·exact .inl (show(f i).or (g1 i)=none by rw[a,b];rfl)
    ·rw[b]at a;exact .inr (by simpa using a)
   ·exact .inr b
  ·show h i=((f i).or (g1 i)).or (g2 i);rw[hh i,hg i];cases f i<;>simp
theorem BU(P:HP):emp*P=P:=by
 funext h;apply propext;constructor
 ·rintro⟨f,g,hf,hg,hd,hh⟩;have:h=g:=by funext i;rw[hh i,hf i];rfl
  rw[this];exact hg
 ·intro hp;exact⟨λ_=>none,h,λ_=>rfl,hp,λ_=>.inl rfl,λi=>by simp⟩
theorem amB(P:HP):P*emp=P:=by rw[aae,BU]
instance : Std.Associative (α := HP) (· * ·) := ⟨wO⟩
instance : Std.Commutative (α := HP) (· * ·) := ⟨aae⟩
end HP
open HP
structure Hs (B : aS → Prop) (aK σ : Heap) (P : HP) : Prop where
 pre:∃bs,σ=aK++bs∧∀b∈bs,B b
 own:∃h,P h∧∀i b,h i=some b→aK.length≤i∧σ[i]? =some b
def bY:aS→Prop:=λ_=>True
section
variable {B : aS → Prop} {aK σ : Heap} {P Q R : HP} {id : Nat} {b b' : aS}
theorem dw(e:P=Q)(H:Hs B aK σ P):Hs B aK σ Q:=e▸H
theorem abB(k:∀h,P h→Q h)(H:Hs B aK σ (P*R)):Hs B aK σ (Q*R):=by obtain⟨h1,h,⟨f,g,hf,hg,hd,hh⟩,h2⟩:=H;exact⟨h1,h,⟨f,g,k f hf,hg,hd,hh⟩,h2⟩
theorem ym(H:Hs B aK σ (P*R)):Hs B aK σ R:=by
 obtain⟨h1,h,⟨f,g,hf,hg,hd,hh⟩,h2⟩:=H;refine⟨h1,g,hg,λi b hb=>h2 i b ?_⟩;rw[hh i];rcases hd i with e|e
 ·rw[e,hb];rfl
 ·rw[e]at hb;cases hb
theorem oO{p:Prop}:Hs B aK σ (pr p*R)↔p∧Hs B aK σ R:=by
 constructor
 ·intro H;refine⟨?_,ym H⟩;obtain⟨h1,h,⟨f,g,hf,hg,hd,hh⟩,h2⟩:=H;exact hf.1
 ·rintro⟨hp,h1,h,hr,h2⟩;exact⟨h1,h,⟨λ_=>none,h,⟨hp,λ_=>rfl⟩,hr,λ_=>.inl rfl,λi=>by simp⟩,h2⟩
theorem O0{α:Type}{P:α→HP}:Hs B aK σ (ex P*R)↔∃x,Hs B aK σ (P x*R):=by
 constructor
 ·rintro⟨h1,h,⟨f,g,⟨x,hf⟩,hg,hd,hh⟩,h2⟩;exact⟨x,h1,h,⟨f,g,hf,hg,hd,hh⟩,h2⟩
 ·rintro⟨x,h1,h,⟨f,g,hf,hg,hd,hh⟩,h2⟩;exact⟨h1,h,⟨f,g,⟨x,hf⟩,hg,hd,hh⟩,h2⟩
theorem Ig(σ:Heap):Hs B σ σ emp:=⟨⟨[],by simp,by simp⟩,λ_=>none,λ_=>rfl,λ_ _ h=>by cases h⟩
theorem acE(H:Hs B aK σ P):aK.length≤σ.length:=by obtain⟨⟨bs,rfl,_⟩,_⟩:=H;simp
theorem jx(H:Hs B aK σ (blk id b*R)):aK.length≤id∧σ[id]? =some b:=by obtain⟨h1,h,⟨f,g,hf,hg,hd,hh⟩,h2⟩:=H;exact h2 id b (by rw[hh id,hf id];simp)
theorem arZ(H:Hs B aK σ (blk id b*R)):B b:=by obtain⟨h1,h2⟩:=jx H;obtain⟨⟨bs,rfl,hb⟩,_⟩:=H;rw[iZ h1]at h2;exact hb b (cS h2)
theorem Cb(H:Hs B aK σ (blk id b*R))(hb:B b'):Hs B aK (σ.set id b') (blk id b'*R):=by
 obtain⟨hid,j0⟩:=jx H;have hlt:=(bM.1 j0).1;obtain⟨⟨bs,rfl,hB⟩,h,⟨f,g,hf,hg,hd,hh⟩,h2⟩:=H;refine⟨⟨bs.set (id-aK.length) b',by rw[qu _ _ hid],λx hx=>?_⟩,λi=>if i=id then some b' else g i,⟨λi=>if i=id then some b' else none,g,λi=>rfl,hg,λi=>?_,λi=>?_⟩,λi x hx=>?_⟩
 ·rcases List.mem_or_eq_of_mem_set hx with hx|hx
  ·exact hB x hx
  ·subst hx;exact hb
 ·have:=hd i;rw[hf i]at this;by_cases e:i=id
  ·simp only[e,if_true]at this ⊢;rcases this with h|h
   ·cases h
   ·exact .inr h
  ·simp [e]
 ·by_cases e:i=id<;>simp [e]
 ·by_cases e:i=id
  ·subst e;simp only[if_true,Option.some.injEq]at hx;subst hx;exact⟨hid,by rw[pZ hlt]⟩
  ·simp only[e,if_false]at hx;rw[List.getElem?_set_ne (λe'=>e e'.symm)];have:=h2 i x (by rw[hh i,hf i];simp [e,hx]);exact this
theorem Fq(H:Hs B aK σ R)(hb:B b):Hs B aK (σ++[b]) (blk σ.length b*R):=by
 have hl:=acE H;obtain⟨⟨bs,rfl,hB⟩,h,hr,h2⟩:=H;have hn:∀i x,h i=some x→i<(aK++bs).length:=λi x hx=>(bM.1 (h2 i x hx).2).1
 refine⟨⟨bs++[b],by simp,λx hx=>?_⟩,λi=>if i=(aK++bs).length then some b else h i,⟨λi=>if i=(aK++bs).length then some b else none,h,λi=>rfl,hr,λi=>?_,λi=>?_⟩,λi x hx=>?_⟩
 ·rcases kM.1 hx with hx|hx
  ·exact hB x hx
  ·simp at hx;subst hx;exact hb
 ·by_cases e:i=(aK++bs).length
  ·right;cases hi:h i with
   |none=>rfl
   |some x=>have:=hn i x hi;omega
  ·simp only[e,if_false,true_or]
 ·by_cases e:i=(aK++bs).length<;>simp only[e,if_true,if_false,Option.or_some,Option.none_or,Option.some_or]
 ·by_cases e:i=(aK++bs).length
  ·subst e;simp only[if_true,Option.some.injEq]at hx;subst hx;exact⟨hl,by simp⟩
  ·simp only[e,if_false]at hx;obtain⟨k1,k2⟩:=h2 i x hx;exact⟨k1,by rw[jg (hn i x hx)];exact k2⟩
end
section
variable {α : Type} {E : au → α → HP} {B : aS → Prop} {aK σ : Heap} {R : HP}
def els(E:au→α→HP):List au→List α→HP
 |[],[]=>emp
 |e::es,x::l=>E e x*els E es l
 |_,_=>pr False
theorem Ov:∀{es:List au}{l:List α}{R:HP},Hs B aK σ (els E es l*R)→es.length=l.length
 |[],[],_,_=>rfl
 |[],_::_,_,H=>(oO.1 H).1.elim
 |_::_,[],_,H=>(oO.1 H).1.elim
 |e::es,x::l,R,H=>by have:=Ov (es:=es) (l:=l) (R:=E e x*R) (dw (by rw[els];ac_rfl) H);simp [this]
theorem abr:∀{An I4:List au}{l1 l2:List α},An.length=l1.length→els E (An++I4) (l1++l2)=els E An l1*els E I4 l2
 |[],I4,[],l2,_=>by rw[els,BU];rfl
 |e::An,I4,x::l1,l2,h=>by simp only[nI,els];rw[abr (by simpa using h)];ac_rfl
theorem ane(e:au)(x:α):els E [e] [x]=E e x:=by rw[els,els,amB]
def fl(c:α→au):au→α→HP:=λe x=>pr (e=c x)
theorem OM{c:α→au}:∀{es:List au}{l:List α}{R:HP},Hs B aK σ (els (fl c) es l*R)↔es=l.map c∧Hs B aK σ R
 |[],[],R=>by rw[els,BU];simp
 |[],x::l,R=>by show Hs B aK σ (pr False*R)↔_;rw[oO];simp
 |e::es,[],R=>by show Hs B aK σ (pr False*R)↔_;rw[oO];simp
 |e::es,x::l,R=>by rw[els,fl,wO,oO,OM,ef,List.cons.injEq,and_assoc]
def Sl(E:au→α→HP)(sz:Nat)(v:AV)(l:List α):HP:=λh=>(l=[]∧(v=.az∨v=.ez)∧emp h)∨∃id g seg,v=.os id g sz 0 l.length∧(blk id (.arr g sz seg)*els E seg l) h
variable {sz : Nat} {v : AV} {l : List α}
theorem BX(H:Hs B aK σ (Sl E sz v l*R)):(l=[]∧(v=.az∨v=.ez)∧Hs B aK σ R)∨∃id g seg,v=.os id g sz 0 l.length∧seg.length=l.length∧Hs B aK σ (blk id (.arr g sz seg)*(els E seg l*R)):=by
 have H2:=ym H;obtain⟨h1,h,⟨f,g,hf,hg,hd,hh⟩,h2⟩:=H;rcases hf with⟨k1,k2,k3⟩|⟨id,gg,seg,k1,k2⟩
 ·exact .inl ⟨k1,k2,H2⟩
 ·have K:Hs B aK σ (blk id (.arr gg sz seg)*(els E seg l*R)):=dw (wO _ _ _) ⟨h1,h,⟨f,g,k2,hg,hd,hh⟩,h2⟩;exact .inr ⟨id,gg,seg,k1,Ov (R:=blk id (.arr gg sz seg)*R) (dw (by ac_rfl) K),K⟩
theorem td(H:Hs B aK σ R)(hv:v=.az∨v=.ez):Hs B aK σ (Sl E sz v []*R):=
 abB (P:=emp) (λh k=>.inl ⟨rfl,hv,k⟩) (dw (BU R).symm H)
theorem O9{id g:Nat}{seg:List au}{n:Nat}(H:Hs B aK σ (blk id (.arr g sz seg)*(els E seg l*R)))(hn:n=l.length:=by rfl):Hs B aK σ (Sl E sz (.os id g sz 0 n) l*R):=
 abB (P:=blk id (.arr g sz seg)*els E seg l) (λh k=>.inr ⟨id,g,seg,by rw[hn],k⟩) (dw (wO _ _ _).symm H)
theorem acY(H:Hs B aK σ (Sl E sz v l*R)):A.bR v=some (.ah l.length):=by rcases BX H with⟨rfl,rfl|rfl,_⟩|⟨id,g,seg,rfl,_⟩<;>rfl
theorem Im{ys:List au}{xs:List α}{most:Nat}(H:Hs B aK σ (Sl E sz v l*(els E ys xs*R)))(hm:l.length+xs.length≤most)(hB:∀g g' seg,(seg=[]∨B (.arr g sz seg))→B (.arr g' sz (seg++ys))):
  ∃v' σ',A.append sz most v (.sl sz ys) σ=some (v',σ')∧Hs B aK σ' (Sl E sz v' (l++xs)*R):=by
 rcases BX H with⟨rfl,hv,H⟩|⟨id,g,seg,rfl,hl,H⟩
 ·have hxl:=Ov H;by_cases hy:ys=[]
  ·subst hy;have:xs=[]:=xh (by simpa using hxl.symm);subst this;refine⟨v,σ,?_,td (ym H) hv⟩;rcases hv with rfl|rfl<;>simp [A.append,A.elems,A.vO]
  ·refine⟨.os σ.length ys.length sz 0 ys.length,σ++[.arr ys.length sz ys],?_,?_⟩
   ·have:ys.length≤most:=by simp at hm;omega
    rcases hv with rfl|rfl<;>simp [A.append,A.elems,A.vO,hy,this]
   ·have H2:=Fq H (by simpa using hB 0 ys.length [] (.inl rfl):B (.arr ys.length sz ys));exact O9 H2 (by simpa using hxl)
 ·have hxl:=Ov (dw (show _=els E ys xs*(blk id (.arr g sz seg)*(els E seg l*R)) by ac_rfl) H);obtain⟨h1,h2⟩:=jx H;by_cases hy:ys=[]
  ·subst hy;have:xs=[]:=xh (by simpa using hxl.symm);subst this;refine⟨.os id g sz 0 l.length,σ,?_,?_⟩
   ·have:l.length≤most:=by simpa using hm
    simp [A.append,A.elems,A.vO,h2,hl,this]
   ·rw[List.append_nil];exact O9 (dw (by rw[els,BU]) H)
  ·have hp:0<ys.length:=List.length_pos_iff.2 hy;refine⟨.os id (g+ys.length) sz 0 (l.length+ys.length),σ.set id (.arr (g+ys.length) sz (seg++ys)),?_,?_⟩
   ·have e1:l.length+ys.length≤most:=by omega
    have e2:seg.take l.length=seg:=yF (by omega);simp [A.append,A.elems,A.vO,h2,hl,e1,hy,e2,hp]
   ·have H2:=Cb (b':=.arr (g+ys.length) sz (seg++ys)) H (hB g _ seg (.inr (arZ H)));exact O9 (id:=id) (g:=g+ys.length) (seg:=seg++ys) (dw (by rw[abr hl];ac_rfl) H2) (by simp;omega)
end
end
section
open HP
section
variable {σ : Heap} {id g sz off len : Nat} {es : List au}
theorem dr{α:Type}{X Y:Option α}:A.cond (.bool true) X Y=X:=rfl
theorem cR{α:Type}{X Y:Option α}:A.cond (.bool false) X Y=Y:=rfl
theorem aoG{R:Type}{p:Nat→Prop}{k:Nat→Option R}{r:R}(n:Nat)(hn:p n)(h:∀n,p n→k n=some r):A.all p k=some r:=by
 have hx:∃r,∀n,p n→k n=some r:=⟨r,h⟩
 unfold A.all;rw[dif_pos hx];have:=Classical.choose_spec hx n hn;rw[h n hn]at this;injection this with this
 rw[←this]
end
section
variable {α : Type} {E : au → α → HP} {aK σ : Heap} {R : HP} {sz most : Nat} {zs : au} {rot : au → Heap → aH} {v : AV} {l : List α} {y : α} {ye : au} {i : Nat}
end
end
def bf(n lo hi:Int):Bool:=decide (lo≤n∧n≤hi)
def uA(c:UInt8):Bool:=decide (97≤c.toNat∧c.toNat≤122)||decide (48≤c.toNat∧c.toNat≤57)||decide (c.toNat=45)
def IV(s:ByteArray):Bool:=s.data.toList.all uA&&decide (0<s.size)
def w8(s:ByteArray):Bool:=IV s&&decide (s.size≤20)&&decide (97≤(s.data.toList.getD 0 0).toNat)&&decide ((s.data.toList.getD 0 0).toNat≤122)
def pc(c:UInt8):Bool:=decide (32≤c.toNat∧c.toNat≤126)
def OV(s:ByteArray):Bool:=decide (0<s.size)&&decide (s.size≤60)&&(decide ((s.data.toList.getD 0 0).toNat≠32)&&decide ((s.data.toList.getD (s.size-1) 0).toNat≠32))
def Ku(s:ByteArray):Bool:=s.data.toList.all pc&&OV s
theorem aky(s:ByteArray)(i:Nat)(h:i<s.size):s.data.toList.getD i 0=s[i]:=by rw[List.getD_eq_getElem?_getD,bT (by simpa using h)];rfl
def Pd(pre:List rj):List rj→Int
 |[]=>0
 |r::rest=>
  if bf r.low 0 65535=false∨bf r.high 0 65535=false∨r.high<r.low then 1
  else if 0<pre.length∧r.low≤(pre.getLast?.map (·.high)).getD 0 then 7
  else if w8 r.name=false then 5
  else if lu r.name (pre.map (·.name))=true then 6
  else Pd (pre++[r]) rest
def B6(l:List rj):Int:=if 30<l.length then 2 else Pd [] l
def slotsOf(l:List fS):List Int:=l.flatMap λx=>if 0<x.oz then[x.p9,x.oz]else[x.p9]
theorem Ye(l:List fS)(x:fS):slotsOf (l++[x])=slotsOf l++(if 0<x.oz then[x.p9,x.oz]else[x.p9]):=by simp [slotsOf]
def Eg(size:Int)(pre:List fS):List fS→Int
 |[]=>0
 |x::rest=>
  if w8 x.name=false then 5
  else if lu x.name (pre.map (·.name))=true then 6
  else if bf x.group 1 4=false then 4
  else if bf x.p9 1 size=false∨bf x.oz 0 size=false∨bf x.default 0 65535=false then 1
  else if x.p9=x.oz∨lu x.p9 (slotsOf pre)=true∨(0<x.oz∧lu x.oz (slotsOf pre)=true)then 12
  else if B6 x.ranges=0 then Eg size (pre++[x]) rest else B6 x.ranges
def tI(p:dZ):Int:=
 if w8 p.name=false then 5 else if bf p.size 1 512=false then 1 else if p.params.length=0 then 8 else if 40<p.params.length then 2 else Eg p.size [] p.params
def KX(size:Int)(pre:List fS)(x:fS):Int:=
 if w8 x.name=false then 5
 else if lu x.name (pre.map (·.name))=true then 6
 else if bf x.group 1 4=false then 4
 else if bf x.p9 1 size=false∨bf x.oz 0 size=false∨bf x.default 0 65535=false then 1
 else if x.p9=x.oz∨lu x.p9 (slotsOf pre)=true∨(0<x.oz∧lu x.oz (slotsOf pre)=true)then 12
 else B6 x.ranges
theorem akl(size:Int)(pre:List fS)(x:fS)(rest:List fS):Eg size pre (x::rest)=if KX size pre x=0 then Eg size (pre++[x]) rest else KX size pre x:=by
 rw[Eg,KX];split<;>first|(simp;done)|skip
 split<;>first|(simp;done)|skip
 split<;>first|(simp;done)|skip
 split<;>first|(simp;done)|skip
 split<;>first|(simp;done)|skip
def Ef(pre:List dZ):List dZ→Int
 |[]=>0
 |p::rest=>if tI p=0 then(if lu p.name (pre.map (·.name))=true then 6 else Ef (pre++[p]) rest)else tI p
def zZ(l:List dZ):Int:=if 60<l.length then 2 else Ef [] l
def l6(nm:ByteArray):List dZ→dZ×Bool
 |[]=>(⟨⟨#[]⟩,0,[]⟩,false)
 |p::rest=>if p.name=nm then(p,true)else l6 nm rest
def yz(f:Nat→Bool):Nat→Nat→Bool
 |0,_=>true
 |n+1,a=>if 512<a∨f a=true then false else yz f n (a+1)
def qp(f:Int→Nat→Bool)(u:Int)(a s:Nat):Int→Nat→Bool:=λv k=>if v=u∧a≤k∧k<a+s then true else f v k
def F1(pre:List Int)(n:Int):Bool:=match pre.getLast? with|some m=>decide (n≤m)|none=>false
def rZ(jq:List dZ)(u:jH):Int:=u.address+(l6 u.kK jq).1.size-1
def Ib(jq:List dZ)(u:jH)(pre:List jH):Bool:=pre.any λx=>decide (x.univ=u.univ∧x.address≤rZ jq u∧u.address≤rZ jq x)
def IA(jq:List dZ)(pre:List jH):List jH→Int
 |[]=>0
 |u::rest=>
  if bf u.aC 1 9999=false then 1
  else if F1 (pre.map (·.aC)) u.aC=true then 7
  else if(l6 u.kK jq).2=false then 5
  else if bf u.univ 1 64=false∨bf u.address 1 512=false∨512<rZ jq u then 1
  else if Ib jq u pre=true then 12
  else IA jq (pre++[u]) rest
def mg(r:je):Int:=if zZ r.bw=0 then(if 400<r.dB.length then 2 else IA r.bw [] r.dB)else zZ r.bw
def Kb(jq:List dZ)(pre:List jH):Prop:=∀x∈pre,1≤x.address∧x.address≤rZ jq x∧rZ jq x≤512
def DR(jq:List dZ)(pre:List jH)(f:Int→Nat→Bool):Prop:=∀v k,f v k=true↔∃x∈pre,x.univ=v∧x.address≤(k:Int)∧(k:Int)≤rZ jq x
theorem DR.nil(jq:List dZ):DR jq [] (λ_ _=>false):=λv k=>by simp
theorem DR.snoc{jq:List dZ}{pre:List jH}{f:Int→Nat→Bool}(h:DR jq pre f)(u:jH)(a s:Nat)(ha:u.address=a)(hs:rZ jq u=(a:Int)+s-1):DR jq (pre++[u]) (qp f u.univ a s):=by
 intro v k;unfold qp;by_cases e:v=u.univ∧a≤k∧k<a+s
 ·rw[aQ e];refine⟨λ_=>⟨u,by simp,e.1.symm,by omega,by omega⟩,λ_=>rfl⟩
 ·rw[aP e,h v k];constructor
  ·rintro⟨x,hx,h1⟩;exact⟨x,by simp [hx],h1⟩
  ·rintro⟨x,hx,h1,h2,h3⟩;simp only[kM,List.mem_singleton]at hx;rcases hx with hx|rfl
   ·exact⟨x,hx,h1,h2,h3⟩
   ·exact absurd ⟨h1.symm,by omega,by omega⟩ e
theorem SB(f:Nat→Bool):∀(s a:Nat),yz f s a=true↔∀k,a≤k→k<a+s→k≤512∧f k=false
 |0,a=>by simp [yz];intro k h1 h2;omega
 |s+1,a=>by
  rw[yz];by_cases e:512<a∨f a=true
  ·rw[aQ e];simp only[Bool.false_eq_true,false_iff];intro h;have:=h a (bD _) (by omega);rcases e with e|e
   ·omega
   ·rw[e]at this;simp at this
  ·rw[aP e,SB f s (a+1)];constructor
   ·intro h k h1 h2;by_cases hk:k=a
    ·subst hk;refine⟨by omega,?_⟩;cases hf:f k
     ·rfl
     ·exact absurd (.inr hf) e
    ·exact h k (by omega) (by omega)
   ·intro h k h1 h2;exact h k (by omega) (by omega)
theorem aja{jq:List dZ}{pre:List jH}{f:Int→Nat→Bool}(h:DR jq pre f)(hok:Kb jq pre)(u:jH)(a s:Nat)(ha:u.address=a)(h1:1≤s)(hs:rZ jq u=(a:Int)+s-1)(h2:rZ jq u≤512):yz (f u.univ) s a=!Ib jq u pre:=by
 rw[p4,SB];simp only[Bool.not_eq_true',Ib,List.any_eq_false,decide_eq_true_eq,not_and];constructor
 ·intro hf x hx e1 e2 e3;have hx':=hok x hx;obtain⟨k,hk⟩:∃k:Nat,(k:Int)=max x.address a:=⟨(max x.address (a:Int)).toNat,by omega⟩
  have hf':=(hf k (by omega) (by omega)).2;have:f u.univ k=true:=(h u.univ k).2 ⟨x,hx,e1,by omega,by omega⟩;rw[this]at hf';simp at hf'
 ·intro hf k h3 h4;refine⟨by omega,?_⟩;cases hfk:f u.univ k
  ·rfl
  ·obtain⟨x,hx,e1,e2,e3⟩:=(h u.univ k).1 hfk;exact absurd (show u.address≤rZ jq x by omega) (hf x hx e1 (by omega))
theorem ahe{p:dZ}(h:tI p=0):1≤p.size∧p.size≤512:=by
 unfold tI at h;by_cases h1:w8 p.name=false
 ·rw[aQ h1]at h;simp at h
 ·rw[aP h1]at h;by_cases h2:bf p.size 1 512=false
  ·rw[aQ h2]at h;simp at h
  ·simpa [bf]using h2
theorem YO:∀(l pre:List dZ),Ef pre l=0→∀p∈l,1≤p.size∧p.size≤512
 |[],pre,h,p,hp=>by simp at hp
 |q::rest,pre,h,p,hp=>by
  rw[Ef]at h;by_cases e:tI q=0
  ·rw[aQ e]at h;by_cases e2:lu q.name (pre.map (·.name))=true
   ·rw[aQ e2]at h;simp at h
   ·rw[aP e2]at h;simp only[jY]at hp;rcases hp with rfl|hp
    ·exact ahe e
    ·exact YO rest _ h p hp
  ·rw[aP e]at h;exact absurd h e
theorem ajf{l:List dZ}(h:zZ l=0):∀p∈l,1≤p.size∧p.size≤512:=by
 unfold zZ at h;by_cases e:60<l.length
 ·rw[aQ e]at h;simp at h
 ·rw[aP e]at h;exact YO l [] h
theorem Se(nm:ByteArray):∀(l:List dZ),(l6 nm l).2=true→(l6 nm l).1∈l
 |[],h=>by simp [l6]at h
 |p::r,h=>by
  rw[l6]at h ⊢;by_cases e:p.name=nm
  ·rw[aQ e];simp
  ·rw[aP e]at h ⊢;exact rE _ (Se nm r h)
theorem Kb.snoc{jq:List dZ}{pre:List jH}(h:Kb jq pre){u:jH}(h1:1≤u.address∧u.address≤rZ jq u∧rZ jq u≤512):Kb jq (pre++[u]):=λx hx=>by
 simp only[kM,List.mem_singleton]at hx;rcases hx with hx|rfl
 ·exact h x hx
 ·exact h1
theorem lZ(n lo hi:Int)(σ:Heap):lI [.ah n,.ah lo,.ah hi] σ=some (.bool (bf n lo hi),σ):=by refine wrap_eq rfl ?_ rfl;show Rl _ _ _ σ=_;unfold Rl bf;by_cases h:lo≤n<;>simp only[aW,reduceCtorEq,h,true_and,false_and]
theorem wR(b:Bool)(n:Int)(σ:Heap):rP [.bool b,.ah n] σ=some (.ah (if b=true then n else 0),σ):=by refine wrap_eq rfl ?_ rfl;show RU _ _ σ=_;unfold RU;cases b<;>simp [aW,reduceCtorEq]
theorem TG(s:ByteArray){i:Nat}(h:i<s.size):A.wu (.str s) (.ah (i:Int))=some (.int .u8 (s.data.toList.getD i 0).toNat):=by
 have h1:s[i]? =some s[i]:=by simp [h]
 simp [A.wu,A.idx,h,aky s i h];rfl
theorem YW(s:ByteArray):(decide (¬s=⟨#[]⟩))=decide (0<s.size):=by
 rw[decide_eq_decide];constructor
 ·intro h;rcases Nat.eq_zero_or_pos s.size with e|e
  ·exact absurd (ByteArray.ext (Array.eq_empty_of_size_eq_zero e)) h
  ·exact e
 ·rintro h rfl;exact absurd h (by decide)
theorem aoB(s:ByteArray)(hs:kO s)(σ:Heap):Sa [.str s] σ=some (.bool (IV s),σ):=by
 refine wrap_eq rfl ?_ rfl;show Sj _ σ=_;unfold Sj;simp only[aW,reduceCtorEq];refine(aaj (p:=uA) s (some (.bool false,σ)) ?_ ?_ ?_).trans ?_
 ·intro i c hi hc;have h1:aV ((i:Int)+1):=by unfold kO bg at hs;unfold aV;omega
  have h2:(i:Int)<s.size:=by omega
  simp only[aW,reduceCtorEq,h2,hc,cL h1,uA];clear hc h1
  repeat' ((first|rw[Db]|rw[Da]|rw[C7]|rw[CH]|rw[C6]|rw[C5]);split<;>try simp only[aW,reduceCtorEq, *])
  all_goals first|rfl|(refine(aQ ?_).symm;simp;omega)|(refine(aP ?_).symm;simp;omega)|(refine congrArg some (congrArg (λb=>(AV.bool b,σ)) ?_);rw[p4];simp;omega)
 ·simp only[aW,reduceCtorEq,Int.lt_irrefl]
 ·intro i;simp only[aW,reduceCtorEq]
 ·simp only[aW,reduceCtorEq,YW,IV];cases s.data.toList.all uA<;>simp
theorem amo{s:ByteArray}(h:IV s=true):0<s.size:=by simp only[IV,jI,decide_eq_true_eq]at h;exact h.2
theorem Ol(s:ByteArray)(hs:kO s)(σ:Heap):Hz [.str s] σ=some (.bool (w8 s),σ):=by
 refine wrap_eq rfl ?_ rfl;show RT _ σ=_;unfold RT;simp only[aW,reduceCtorEq,aoB s hs];cases h:IV s
 ·simp [aW,reduceCtorEq,w8,h]
 ·have h0:=amo h;have:=TG s h0;simp only[Int.ofNat_zero]at this;simp only[aW,reduceCtorEq,this];simp only[w8,h,Bool.true_and];generalize s.data.toList.getD 0 0=c0 at *
  repeat' ((first|rw[Db]|rw[Da]|rw[C7]|rw[CH]|rw[C6]|rw[C5]);split<;>try simp only[aW,reduceCtorEq, *])
  all_goals first|rfl|(refine(aQ ?_).symm;simp;omega)|(refine(aP ?_).symm;simp;omega)|(refine congrArg some (congrArg (λb=>(AV.bool b,σ)) ?_);rw[p4];simp;omega)
theorem aai(s:ByteArray)(hs:kO s)(σ:Heap):Nd [.str s] σ=some (.bool (Ku s),σ):=by
 refine wrap_eq rfl ?_ rfl;show Rz _ σ=_;unfold Rz;simp only[aW,reduceCtorEq];refine(aaj (p:=pc) s (some (.bool false,σ)) ?_ ?_ ?_).trans ?_
 ·intro i c hi hc;have h1:aV ((i:Int)+1):=by unfold kO bg at hs;unfold aV;omega
  have h2:(i:Int)<s.size:=by omega
  simp only[aW,reduceCtorEq,h2,hc,cL h1,pc];clear h1
  repeat' ((first|rw[Db]|rw[Da]|rw[C7]|rw[CH]|rw[C6]|rw[C5]);split<;>try simp only[aW,reduceCtorEq, *])
  all_goals first|rfl|(refine(aQ ?_).symm;simp;omega)|(refine(aP ?_).symm;simp;omega)|(refine congrArg some (congrArg (λb=>(AV.bool b,σ)) ?_);rw[p4];simp;omega)
 ·simp only[aW,reduceCtorEq,Int.lt_irrefl]
 ·intro i;simp only[aW,reduceCtorEq]
 ·simp only[aW,reduceCtorEq,YW,Ku];cases s.data.toList.all pc
  ·simp
  ·simp only[if_true,Bool.true_and];by_cases h0:0<s.size
   ·by_cases I6:s.size≤60
    ·have e0:=TG s h0;have e1:=TG s (i:=s.size-1) (by omega);simp only[Int.ofNat_zero]at e0;rw[show((s.size-1:Nat):Int)=(s.size:Int) -1 by omega]at e1;have h1:aV ((s.size:Int) -1):=by unfold kO bg at hs;unfold aV;omega
     have Ej:(s.size:Int)≤60:=by omega
     have hw:=cL h1;simp only[OV,h0,I6];generalize s.data.toList.getD 0 0=c0 at *
     generalize s.data.toList.getD (s.size-1) 0=c1 at *
     simp only[aW,reduceCtorEq,h0,Ej,e0,e1,hw]
     repeat' ((first|rw[Db]|rw[Da]|rw[C7]|rw[CH]|rw[C6]|rw[C5]);split<;>try simp only[aW,reduceCtorEq, *])
     all_goals first|rfl|(refine(aQ ?_).symm;simp;omega)|(refine(aP ?_).symm;simp;omega)|(refine congrArg some (congrArg (λb=>(AV.bool b,σ)) ?_);rw[p4];simp;omega)
    ·have Ej:¬(s.size:Int)≤60:=by omega
     simp [aW,reduceCtorEq,h0,Ej,OV,I6]
   ·simp [aW,reduceCtorEq,h0,OV]
theorem aih(n:Int)(σ:Heap):QV [.ah n] σ=some (.bool (bf n 0 65535),σ):=by refine wrap_eq rfl ?_ rfl;show QY (.ah n) σ=_;unfold QY;simp only[aW,reduceCtorEq,lZ]
theorem akI{γ:Type}{f:au→Heap→Option (AX×au×Heap)}(a n:Nat)(p:Nat→Bool)(vs:Nat→au)(σ:Heap)(fin:AX×au×Heap)(ret:Nat→AX×au×Heap){k:AX×au×Heap→Option γ}(K1 K2:Option γ)
  (hstep:∀(i:Nat),a≤i→i<a+n→f (vs i) σ=if p i=true then some (ret i)else some (.normal,vs (i+1),σ)) (hend:f (vs (a+n)) σ=some fin) (hk1:k fin=K1) (hk2:∀i,k (ret i)=K2)
  (CM:fin.1≠.normal:=by simp) (Lh:∀i,(ret i).1≠.normal:=by intros;simp) {v:au} {σ':Heap} (hv:v=vs a:=by rfl) (iO:σ'=σ:=by rfl):
  (A.loop f v σ').bind k=if(List.range' a n).any p=true then K2 else K1:=by
 refine aaR (List.range' a n) p (λi=>vs (a+i)) σ fin (λi=>ret (a+i)) K1 K2 ?_ (by rw[List.length_range'];exact hend) hk1 (λi=>hk2 _) CM (λi=>Lh _) hv iO;intro i x hx;obtain⟨h1,h2⟩:=bM.1 hx;rw[List.length_range']at h1;obtain rfl:a+i=x:=by simpa [List.getElem_range']using h2
 exact hstep (a+i) (by omega) (by omega)
def fu:nF:=⟨0,0⟩
def FK(p:nF):Bool:=!(bf p.time 0 1000)||!(bf p.way 0 1000)
def F2(l:List nF)(i:Nat):Bool:=decide ((l.getD i fu).time≤(l.getD (i-1) fu).time∨(l.getD i fu).way<(l.getD (i-1) fu).way)
def Vi(l:List nF):Int:=
 if l.any FK=true then 1
 else if ¬((l.getD 0 fu).time=0∧(l.getD 0 fu).way=0)then 3
 else if ¬((l.getD (l.length-1) fu).time=1000∧(l.getD (l.length-1) fu).way=1000)then 3
 else if(List.range' 1 (l.length-1)).any (F2 l)=true then 7 else 0
def rq(c:rT):Int:=
 if bf c.kind 1 6=false then 4
 else if c.kind=6 then(if c.bL.length<2 then 8 else if 20<c.bL.length then 2 else Vi c.bL)
 else if 0<c.bL.length then 3 else 0
theorem S4(x:nF)(a b:Int):A.neq (.s [0,0]) (.agg (iJ x)) (.agg [.ah a,.ah b])=some (.bool (decide (¬(x.time=a∧x.way=b)))):=by simp only[A.neq,A.fM,iJ,A.iS,A.oG,A.pI,if_true,aX,bZ];congr 2;rw[p4];simp
theorem adN(a b c:AV):A.aq 0 [a] [b,c]=some [a,c]:=rfl
theorem adP(a b c:AV):A.aq 1 [a] [b,c]=some [b,a]:=rfl
theorem DL{l:List nF}{i:Nat}(h:i<l.length):l[i]? =some (l.getD i fu):=by simp [h]
theorem XT(c:rT)(σ:Heap):MO [.agg (nS c)] σ=some (.ah (rq c),σ):=by
 refine wrap_eq rfl ?_ rfl;show Qz (.agg (nS c)) σ=_;unfold Qz rq;simp only[aW,reduceCtorEq,zh,zi,zl,zk,zm,lZ];cases hk:bf c.kind 1 6
 ·simp only[aW,reduceCtorEq]
 by_cases h6:c.kind=6
 case neg=>
  by_cases h0:0<c.bL.length
  ·simp only[aW,reduceCtorEq,zh,zi,zl,zk,zm,h6,h0,wR,show(0:Int)<c.bL.length by omega]
  ·simp only[aW,reduceCtorEq,zh,zi,zl,zk,zm,h6,h0,wR,show ¬(0:Int)<c.bL.length by omega]
 by_cases h2:c.bL.length<2
 ·simp only[aW,reduceCtorEq,zh,zi,zl,zk,zm,h6,h2,show(c.bL.length:Int)<2 by omega]
 by_cases LC:20<c.bL.length
 ·simp only[aW,reduceCtorEq,zh,zi,zl,zk,zm,h6,h2,LC,show ¬(c.bL.length:Int)<2 by omega,show(20:Int)<c.bL.length by omega]
 simp only[aW,reduceCtorEq,zh,zi,zl,zk,zm,h6,h2,LC,show ¬(c.bL.length:Int)<2 by omega,show ¬(20:Int)<c.bL.length by omega];have LU:c.bL.length≤bg:=by unfold bg;omega
 refine(aaR c.bL FK (λi=>[.ah 0,.ah (i:Int)]) σ (.exit 0,[.ah 0,.ah (c.bL.length:Int)],σ) (λi=>(.ret,[.ah 1,.ah (i:Int)],σ))
  (some (.ah (if ¬((c.bL.getD 0 fu).time=0∧(c.bL.getD 0 fu).way=0)then 3
 else if ¬((c.bL.getD (c.bL.length-1) fu).time=1000∧(c.bL.getD (c.bL.length-1) fu).way=1000)then 3
 else if(List.range' 1 (c.bL.length-1)).any (F2 c.bL)=true then 7 else 0),σ)) (some (.ah 1,σ)) ?_ ?_ ?_ ?_).trans ?_
 ·intro i x hx;obtain⟨g1,g2,g3⟩:=aaK 2 iJ hx;have g3:=g3 LU;simp only[aW,reduceCtorEq,JK,JL,Fb,E7,Fe,g1,g2,g3,lZ,FK];rcases Bool.eq_false_or_eq_true (bf x.time 0 1000)with e|e
  ·rcases Bool.eq_false_or_eq_true (bf x.way 0 1000)with e'|e'<;>simp only[aW,reduceCtorEq,lZ,e,e',Bool.false_or,Bool.or_false]
  ·simp only[aW,reduceCtorEq,e,Bool.true_or]
 ·exact HQ _ _ _
 ·have g0:=nQ 2 iJ c.bL (DL (l:=c.bL) (i:=0) (by omega));have gl:=Nv 2 iJ c.bL (k:=c.bL.length) (by omega) (DL (by omega));have hw:IntKind.i64.wrap ((c.bL.length:Int) -1)=(c.bL.length:Int) -1:=cL (by unfold aV;omega);simp only[Int.ofNat_zero,Int.natCast_zero]at g0;simp only[aW,reduceCtorEq,zh,zi,zl,zk,zm,JK,JL,Fb,E7,Fe,g0,S4];by_cases e1:(c.bL.getD 0 fu).time=0∧(c.bL.getD 0 fu).way=0;case neg=>simp only[aW,reduceCtorEq,e1]
  simp only[aW,reduceCtorEq,zh,zi,zl,zk,zm,e1,hw,gl,JK,JL,Fb,E7,Fe];by_cases e2:(c.bL.getD (c.bL.length-1) fu).time=1000∧(c.bL.getD (c.bL.length-1) fu).way=1000
  case neg=>
   simp only[adN,adP,aW,reduceCtorEq,S4,e2]
  simp only[adN,adP,aW,reduceCtorEq,S4,e2];refine(akI 1 (c.bL.length-1) (F2 c.bL) (λi=>[.ah 0,.ah (i:Int)]) σ (.exit 2,[.ah 0,.ah (c.bL.length:Int)],σ) (λi=>(.ret,[.ah 7,.ah (i:Int)],σ)) (some (AV.ah 0,σ)) (some (AV.ah 7,σ)) ?_ ?_ ?_ ?_).trans ?_
  ·intro i hi1 hi2;have k1:=nQ 2 iJ c.bL (DL (l:=c.bL) (i:=i) (by omega));have k2:=Nv 2 iJ c.bL (k:=i) (by omega) (DL (by omega));have k3:IntKind.i64.wrap ((i:Int) -1)=(i:Int) -1:=cL (by unfold aV;omega);have k4:IntKind.i64.wrap ((i:Int)+1)=((i+1:Nat):Int):=by rw[cL (by unfold aV;omega)];omega
   have k5:(i:Int)<c.bL.length:=by omega
   simp only[aW,reduceCtorEq,zh,zi,zl,zk,zm,JK,JL,Fb,E7,Fe,k1,k2,k3,k5,F2];by_cases q1:(c.bL.getD i fu).time≤(c.bL.getD (i-1) fu).time
   ·simp only[aW,reduceCtorEq,q1]
   ·by_cases q2:(c.bL.getD i fu).way<(c.bL.getD (i-1) fu).way<;>simp only[aW,reduceCtorEq,zh,zi,zl,zk,zm,JK,JL,Fb,E7,Fe,k1,k2,k3,k4,q1,q2]
  ·rw[show 1+(c.bL.length-1)=c.bL.length by omega];simp only[aW,reduceCtorEq,zh,zi,zl,zk,zm,Int.lt_irrefl]
  ·simp only[aW,reduceCtorEq]
  ·intro i;simp only[aW,reduceCtorEq]
  ·cases(List.range' 1 (c.bL.length-1)).any (F2 c.bL)<;>rfl
 ·intro i;simp only[aW,reduceCtorEq]
 ·unfold Vi;cases c.bL.any FK<;>rfl
theorem DG(l:List Int)(hl:l.length≤bg)(σ:Heap):ya [sl 1 nV l] σ=some (.ah ((l.find? λn=>decide (¬n=0)).getD 0),σ):=by
 refine wrap_eq rfl ?_ rfl;show Rw (sl 1 nV l) σ=_;unfold Rw;simp only[aW,reduceCtorEq];refine(akJ l (λn=>decide (¬n=0)) (λi=>[.ah 0,.ah (i:Int)]) σ (.exit 0,[.ah 0,.ah (l.length:Int)],σ) (λi n=>(.ret,[.ah n,.ah (i:Int)],σ)) (some (AV.ah 0,σ)) (λn=>some (AV.ah n,σ)) ?_ ?_ ?_ ?_).trans ?_
 ·intro i x hx;obtain⟨g1,g2,g3⟩:=aaK 1 nV hx;have g3:=g3 hl;simp only[aW,reduceCtorEq,g1,g2,g3]
  repeat' ((first|rw[Db]|rw[Da]|rw[C7]|rw[CH]|rw[C6]|rw[C5]);split<;>try simp only[aW,reduceCtorEq, *])
  all_goals first|with_reducible rfl|(simp [*];done)|(simp_all;done)|(simp_all;omega)|rfl
 ·exact HQ _ _ _
 ·simp only[aW,reduceCtorEq]
 ·intro i n;simp only[aW,reduceCtorEq]
 ·cases l.find? (λn=>decide (¬n=0))<;>rfl
theorem Hx(n:Int)(σ:Heap):Js [.ah n] σ=some (.bool (bf n 0 65535),σ):=by refine wrap_eq rfl ?_ rfl;show QE _ σ=_;unfold QE;simp only[aW,reduceCtorEq,lZ]
theorem agL(l:List rj)(hok:gu TA l)(σ:Heap):Qq [sl 3 oM l] σ=some (.ah (B6 l),σ):=by
 refine wrap_eq rfl ?_ rfl;show Qr (sl 3 oM l) σ=_;unfold Qr B6;simp only[aW,reduceCtorEq];by_cases PA:30<l.length
 ·have Lb:(30:Int)<l.length:=by omega
  simp only[aW,reduceCtorEq,PA,Lb]
 ·have Lb:¬(30:Int)<l.length:=by omega
  simp only[aW,reduceCtorEq,PA,Lb]
  refine(rQ (S:=Unit) (R:=Int) l (λpre x _=>
    if bf x.low 0 65535=false∨bf x.high 0 65535=false∨x.high<x.low then .out 1
    else if 0<pre.length∧x.low≤(pre.getLast?.map (·.high)).getD 0 then .out 7
    else if w8 x.name=false then .out 5
    else if lu x.name (pre.map (·.name))=true then .out 6 else .go ())
   (λpre _=>[.ah 0,.ah (pre.length:Int)]) (λpre _=>σ++[aS.map (oB (·.name) pre)])
   (λ_=>(.exit 0,[.ah 0,.ah (l.length:Int)],σ++[aS.map (oB (·.name) l)])) (λpre _ r=>(.ret,[.ah r,.ah (pre.length:Int)],σ++[aS.map (oB (·.name) pre)]))
   (λ_ _=>True) () (λ_=>some (AV.ah 0,σ)) (λr=>some (AV.ah r,σ)) ?_ ?_ trivial (λ_ _ _ _ _ _ _ _=>trivial) ?_ ?_).trans ?_
  ·intro pre x rest u hl _;have hx:=rS hl;have hlt:=uR hl;have hi1:IntKind.i64.wrap ((pre.length:Int)+1)=(pre.length:Int)+1:=cL (by unfold aV;omega);have hi2:IntKind.i64.wrap ((pre.length:Int) -1)=(pre.length:Int) -1:=cL (by unfold aV;omega);have hlt':(pre.length:Int)<(l.length:Int):=by omega
   have hnm:=(hok.2 x (by rw[hl];simp)).2.2;have lP:=nQ 3 oM l hx;have hN:=Ol _ hnm;by_cases h0:0<pre.length
   ·obtain⟨y,hy,hy2⟩:=aa0 hl h0;have U0:=Nv 3 oM l h0 hy2;have ur:(0:Int)<pre.length:=by omega
    clear hl hx hlt hok PA Lb hy2 hnm;simp only[aW,reduceCtorEq,Nl,Nn,No,NQ,NI,NU,hlt',lP,Hx,hi1,hi2,hN,ur,hy,h0]
    repeat' ((first|rw[Db]|rw[Da]|rw[C7]|rw[CH]|rw[C6]|rw[C5]);split<;>try simp only[aW,reduceCtorEq,Nl,Nn,No,NQ,NI,NU,Hx, *])
    all_goals first|with_reducible rfl|(simp [*];done)|(simp_all;done)|(simp_all;omega)|rfl
   ·have ur:¬(0:Int)<pre.length:=by omega
    clear hl hx hlt hok PA Lb hnm;simp only[aW,reduceCtorEq,Nl,Nn,No,NQ,NI,NU,hlt',lP,Hx,hi1,hi2,hN,ur,h0]
    repeat' ((first|rw[Db]|rw[Da]|rw[C7]|rw[CH]|rw[C6]|rw[C5]);split<;>try simp only[aW,reduceCtorEq,Nl,Nn,No,NQ,NI,NU,Hx, *])
    all_goals first|with_reducible rfl|(simp [*];done)|(simp_all;done)|(simp_all;omega)|rfl
  ·intro u _;simp only[aW,reduceCtorEq,Int.lt_irrefl]
  ·intro u _;simp only[aW,reduceCtorEq]
  ·intros;simp only[aW,reduceCtorEq]
  ·refine(NC (xL:=Pd) ?_ ?_ (λn=>some (AV.ah n,σ)) l []).trans ?_
   ·intro pre;rfl
   ·intro pre x rest;rw[Pd];simp only[Ic,DT,D0]
   ·rfl
theorem agw(p:dZ)(hok:NO p)(σ:Heap):Ql [.agg (dm p)] σ=some (.ah (tI p),σ):=by
 refine wrap_eq rfl ?_ rfl;show Qn (.agg (dm p)) σ=_;obtain⟨pn,ps,l⟩:=p;obtain⟨hnm,hps,U6⟩:=hok;simp only at hnm hps U6;have hN:=Ol _ hnm;unfold Qn tI;simp only[aW,reduceCtorEq,tu,uG,tv,uJ,uI,uK,hN,lZ];cases hn:w8 pn
 ·simp only[aW,reduceCtorEq]
 cases hz:bf ps 1 512
 ·simp only[aW,reduceCtorEq]
 by_cases h0:l.length=0
 ·obtain rfl:l=[]:=xh h0;simp [aW,reduceCtorEq]
 have ur:¬(l.length:Int)=0:=by omega
 by_cases V0:40<l.length
 ·have Pf:(40:Int)<l.length:=by omega
  simp only[aW,reduceCtorEq,h0,ur,V0,Pf]
 have Pf:¬(40:Int)<l.length:=by omega
 simp only[aW,reduceCtorEq,h0,ur,V0,Pf]
 refine(rQ (S:=Unit) (R:=Int) l (λpre x _=>
   if w8 x.name=false then .out 5
   else if lu x.name (pre.map (·.name))=true then .out 6
   else if bf x.group 1 4=false then .out 4
   else if bf x.p9 1 ps=false∨bf x.oz 0 ps=false∨bf x.default 0 65535=false then .out 1
   else if x.p9=x.oz∨lu x.p9 (slotsOf pre)=true∨(0<x.oz∧lu x.oz (slotsOf pre)=true)then .out 12
   else if B6 x.ranges=0 then .go ()else .out (B6 x.ranges))
  (λpre _=>[.lbx (dm ⟨pn,ps,l⟩),.ah 0,.ah (pre.length:Int)]) (λpre _=>σ++[aS.map (oB (·.name) pre),aS.map (uj id (slotsOf pre))])
  (λ_=>(.exit 1,[.lbx (dm ⟨pn,ps,l⟩),.ah 0,.ah (l.length:Int)],σ++[aS.map (oB (·.name) l),aS.map (uj id (slotsOf l))]))
  (λpre _ r=>(.ret,[.lbx (dm ⟨pn,ps,l⟩),.ah r,.ah (pre.length:Int)],σ++[aS.map (oB (·.name) pre),aS.map (uj id (slotsOf pre))]))
  (λ_ _=>True) () (λ_=>some (AV.ah 0,σ)) (λr=>some (AV.ah r,σ)) ?_ ?_ trivial (λ_ _ _ _ _ _ _ _=>trivial) ?_ ?_).trans ?_
 ·intro pre x rest u hl _;have hx:=rS hl;have hlt:=uR hl;have hi1:IntKind.i64.wrap ((pre.length:Int)+1)=(pre.length:Int)+1:=cL (by unfold aV;omega);have hi2:IntKind.i64.wrap ((pre.length:Int) -1)=(pre.length:Int) -1:=cL (by unfold aV;omega);have hlt':(pre.length:Int)<(l.length:Int):=by omega
  obtain⟨k1,k2,k3,k4,k5,k6⟩:=U6.2 x (by rw[hl];simp);have hNx:=Ol _ k1;have hRx:=agL _ k6;have lP:=nQ 7 gA l hx;clear hl hx hlt U6 V0 Pf h0 ur k1 k2 k3 k4 k5 k6 hnm hps hN hn hz;simp only[aW,reduceCtorEq,Nk,RH,RJ,RL,RM,RN,RO,SK,Sy,NT,tu,uG,tv,uJ,uI,uK,hlt',lP,lZ,Hx,hi1,hi2,hNx,hRx,List.map_id]
  repeat' ((first|rw[Db]|rw[Da]|rw[C7]|rw[CH]|rw[C6]|rw[C5]);split<;>try simp only[aW,reduceCtorEq,Nk,RH,RJ,RL,RM,RN,RO,SK,Sy,NT,tu,uG,tv,uJ,uI,uK,lZ,Hx,List.map_id,Z5,akO,Bool.or_false, *])
  all_goals first|rfl|(simp_all;done)|(simp_all [Ye,Z5];done)|(simp only[Ye,ite_false,ite_true,if_false,if_true, *]<;>simp_all)
 ·intro u _;simp only[aW,reduceCtorEq,Int.lt_irrefl]
 ·intro u _;simp only[aW,reduceCtorEq]
 ·intros;simp only[aW,reduceCtorEq]
 ·refine(NC (xL:=Eg ps) ?_ ?_ (λn=>some (AV.ah n,σ)) l []).trans ?_
  ·intro pre;rfl
  ·intro pre x rest;rw[Eg];simp only[Ic,DT,D0]
  ·rfl
theorem agv(l:List dZ)(hok:gu NO l)(σ:Heap):Qk [sl 3 dm l] σ=some (.ah (zZ l),σ):=by
 refine wrap_eq rfl ?_ rfl;show Qm (sl 3 dm l) σ=_;unfold Qm zZ;simp only[aW,reduceCtorEq];by_cases I6:60<l.length
 ·have Ej:(60:Int)<l.length:=by omega
  simp only[aW,reduceCtorEq,I6,Ej]
 have Ej:¬(60:Int)<l.length:=by omega
 simp only[aW,reduceCtorEq,I6,Ej]
 refine(rQ (S:=Unit) (R:=Int) l (λpre x _=>if tI x=0 then(if lu x.name (pre.map (·.name))=true then .out 6 else .go ())else .out (tI x))
  (λpre _=>[.ah 0,.ah (pre.length:Int)]) (λpre _=>σ++[aS.map (oB (·.name) pre)])
  (λ_=>(.exit 0,[.ah 0,.ah (l.length:Int)],σ++[aS.map (oB (·.name) l)])) (λpre _ r=>(.ret,[.ah r,.ah (pre.length:Int)],σ++[aS.map (oB (·.name) pre)]))
  (λ_ _=>True) () (λ_=>some (AV.ah 0,σ)) (λr=>some (AV.ah r,σ)) ?_ ?_ trivial (λ_ _ _ _ _ _ _ _=>trivial) ?_ ?_).trans ?_
 ·intro pre x rest u hl _;have hx:=rS hl;have hlt:=uR hl;have hi1:IntKind.i64.wrap ((pre.length:Int)+1)=(pre.length:Int)+1:=cL (by unfold aV;omega);have hi2:IntKind.i64.wrap ((pre.length:Int) -1)=(pre.length:Int) -1:=cL (by unfold aV;omega);have hlt':(pre.length:Int)<(l.length:Int):=by omega
  have hP:=agw x (hok.2 x (by rw[hl];simp));have lP:=nQ 3 dm l hx;clear hl hx hlt hok I6 Ej;simp only[aW,reduceCtorEq,tu,uG,tv,uJ,uI,uK,hlt',lP,hi1,hP]
  repeat' ((first|rw[Db]|rw[Da]|rw[C7]|rw[CH]|rw[C6]|rw[C5]);split<;>try simp only[aW,reduceCtorEq,tu,uG,tv,uJ,uI,uK, *])
  all_goals first|with_reducible rfl|(simp [*];done)|(simp_all;done)|(simp_all;omega)|rfl
 ·intro u _;simp only[aW,reduceCtorEq,Int.lt_irrefl]
 ·intro u _;simp only[aW,reduceCtorEq]
 ·intros;simp only[aW,reduceCtorEq]
 ·refine(NC (xL:=Ef) ?_ ?_ (λn=>some (AV.ah n,σ)) l []).trans ?_
  ·intro pre;rfl
  ·intro pre x rest;rw[Ef];simp only[Ic,DT,D0]
  ·rfl
theorem alZ{α:Type}(p:α→Bool)(l:List α):decide (0≤lg p l)=l.any p:=by
 rcases zj p l with⟨h1,h2,_⟩|⟨k,x,h1,h2,h3,_⟩
 ·rw[h1,p4];simp only[decide_eq_true_eq,List.any_eq_true];exact⟨λh=>by omega,λ⟨x,hx,hp⟩=>by rw[h2 x hx]at hp;cases hp⟩
 ·rw[h3,p4];simp only[decide_eq_true_eq,List.any_eq_true];exact⟨λ_=>⟨x,cS h1,h2⟩,λ_=>by omega⟩
theorem aeK(dyn:Nat→au→Heap→aH)(l:List dZ)(hl:l.length≤bg)(n:Nat)(caps:au)(p:dZ→Bool)(σ:Heap)(hd:∀x∈l,dyn n ((.agg (dm x):AV)::caps) σ=some (.bool (p x),σ)):Mz dyn [sl 3 dm l,.fn n caps] σ=some (.ah (lg p l),σ):=by
 refine wrap_eq rfl ?_ rfl;show MA dyn (sl 3 dm l) (.fn n caps) σ=_;unfold MA;simp only[aW,reduceCtorEq]
 refine(rQ (S:=Unit) (R:=Int) l (λpre x _=>if p x=true then .out (pre.length:Int)else .go ())
  (λpre _=>[.ah 0,.ah (pre.length:Int)]) (λ_ _=>σ) (λ_=>(.exit 0,[.ah 0,.ah (l.length:Int)],σ)) (λpre _ r=>(.ret,[.ah (pre.length:Int),.ah (pre.length:Int)],σ))
  (λ_ _=>True) () (λ_=>some (AV.ah (-1),σ)) (λr=>some (AV.ah r,σ)) ?_ ?_ trivial (λ_ _ _ _ _ _ _ _=>trivial) ?_ ?_).trans ?_
 ·intro pre x rest u hl' _;have hx:=rS hl';have hlt:=uR hl';have hi1:IntKind.i64.wrap ((pre.length:Int)+1)=(pre.length:Int)+1:=cL (by unfold aV;unfold bg at hl;omega);have hlt':(pre.length:Int)<(l.length:Int):=by omega
  have lP:=nQ 3 dm l hx;have qP:=hd x (by rw[hl'];simp);simp only[aW,reduceCtorEq,tu,uG,tv,uJ,uI,uK,hlt',lP,A.lJ,nI,List.nil_append,qP,hi1];cases p x<;>simp [aW,reduceCtorEq]
 ·intro u _;simp only[aW,reduceCtorEq,Int.lt_irrefl]
 ·intro u _;simp only[aW,reduceCtorEq]
 ·intro pre x rest s q hl' _ hb
  have:q=(pre.length:Int):=by
   cases hpx:p x
   ·rw[hpx]at hb;cases hb
   ·rw[hpx]at hb;simp at hb;exact hb.symm
  simp only[aW,reduceCtorEq,this]
 ·rw[Fi p _ _ l [] (by simp)];simp only[List.nil_append];split
  ·rename_i h;rw[h]
  ·rfl
theorem aeP(dyn:Nat→au→Heap→aH)(l:List gQ)(hl:l.length≤bg)(n:Nat)(caps:au)(p:gQ→Bool)(σ:Heap)(hd:∀x∈l,dyn n ((.agg (gZ x):AV)::caps) σ=some (.bool (p x),σ)):Jj dyn [sl 8 gZ l,.fn n caps] σ=some (.ah (lg p l),σ):=by
 refine wrap_eq rfl ?_ rfl;show ME dyn (sl 8 gZ l) (.fn n caps) σ=_;unfold ME;simp only[aW,reduceCtorEq]
 refine(rQ (S:=Unit) (R:=Int) l (λpre x _=>if p x=true then .out (pre.length:Int)else .go ())
  (λpre _=>[.ah 0,.ah (pre.length:Int)]) (λ_ _=>σ) (λ_=>(.exit 0,[.ah 0,.ah (l.length:Int)],σ)) (λpre _ r=>(.ret,[.ah (pre.length:Int),.ah (pre.length:Int)],σ))
  (λ_ _=>True) () (λ_=>some (AV.ah (-1),σ)) (λr=>some (AV.ah r,σ)) ?_ ?_ trivial (λ_ _ _ _ _ _ _ _=>trivial) ?_ ?_).trans ?_
 ·intro pre x rest u hl' _;have hx:=rS hl';have hlt:=uR hl';have hi1:IntKind.i64.wrap ((pre.length:Int)+1)=(pre.length:Int)+1:=cL (by unfold aV;unfold bg at hl;omega);have hlt':(pre.length:Int)<(l.length:Int):=by omega
  have lP:=nQ 8 gZ l hx;have qP:=hd x (by rw[hl'];simp);simp only[aW,reduceCtorEq,ajp,ajq,ajr,ajs,ajt,aju,ajv,ajw,ahK,agR,amh,alw,Oh,hlt',lP,A.lJ,nI,List.nil_append,qP,hi1];cases p x<;>simp [aW,reduceCtorEq]
 ·intro u _;simp only[aW,reduceCtorEq,Int.lt_irrefl]
 ·intro u _;simp only[aW,reduceCtorEq]
 ·intro pre x rest s q hl' _ hb
  have:q=(pre.length:Int):=by
   cases hpx:p x
   ·rw[hpx]at hb;cases hb
   ·rw[hpx]at hb;simp at hb;exact hb.symm
  simp only[aW,reduceCtorEq,this]
 ·rw[Fi p _ _ l [] (by simp)];simp only[List.nil_append];split
  ·rename_i h;rw[h]
  ·rfl
theorem aeT(dyn:Nat→au→Heap→aH)(l:List bz)(hl:l.length≤bg)(n:Nat)(caps:au)(p:bz→Bool)(σ:Heap)(hd:∀x∈l,dyn n ((.agg (br x):AV)::caps) σ=some (.bool (p x),σ)):Jl dyn [sl 11 br l,.fn n caps] σ=some (.ah (lg p l),σ):=by
 refine wrap_eq rfl ?_ rfl;show MF dyn (sl 11 br l) (.fn n caps) σ=_;unfold MF;simp only[aW,reduceCtorEq]
 refine(rQ (S:=Unit) (R:=Int) l (λpre x _=>if p x=true then .out (pre.length:Int)else .go ())
  (λpre _=>[.ah 0,.ah (pre.length:Int)]) (λ_ _=>σ) (λ_=>(.exit 0,[.ah 0,.ah (l.length:Int)],σ)) (λpre _ r=>(.ret,[.ah (pre.length:Int),.ah (pre.length:Int)],σ))
  (λ_ _=>True) () (λ_=>some (AV.ah (-1),σ)) (λr=>some (AV.ah r,σ)) ?_ ?_ trivial (λ_ _ _ _ _ _ _ _=>trivial) ?_ ?_).trans ?_
 ·intro pre x rest u hl' _;have hx:=rS hl';have hlt:=uR hl';have hi1:IntKind.i64.wrap ((pre.length:Int)+1)=(pre.length:Int)+1:=cL (by unfold aV;unfold bg at hl;omega);have hlt':(pre.length:Int)<(l.length:Int):=by omega
  have lP:=nQ 11 br l hx;have qP:=hd x (by rw[hl'];simp);simp only[aW,reduceCtorEq,SG,akT,SH,ZY,SI,ZZ,akU,akV,akW,Z0,Y0,Rg,Kk,Oo,Km,hlt',lP,A.lJ,nI,List.nil_append,qP,hi1];cases p x<;>simp [aW,reduceCtorEq]
 ·intro u _;simp only[aW,reduceCtorEq,Int.lt_irrefl]
 ·intro u _;simp only[aW,reduceCtorEq]
 ·intro pre x rest s q hl' _ hb
  have:q=(pre.length:Int):=by
   cases hpx:p x
   ·rw[hpx]at hb;cases hb
   ·rw[hpx]at hb;simp at hb;exact hb.symm
  simp only[aW,reduceCtorEq,this]
 ·rw[Fi p _ _ l [] (by simp)];simp only[List.nil_append];split
  ·rename_i h;rw[h]
  ·rfl
theorem aeO(dyn:Nat→au→Heap→aH)(l:List kL)(hl:l.length≤bg)(n:Nat)(caps:au)(p:kL→Bool)(σ:Heap)(hd:∀x∈l,dyn n ((.agg (fA x):AV)::caps) σ=some (.bool (p x),σ)):MC dyn [sl 2 fA l,.fn n caps] σ=some (.ah (lg p l),σ):=by
 refine wrap_eq rfl ?_ rfl;show MD dyn (sl 2 fA l) (.fn n caps) σ=_;unfold MD;simp only[aW,reduceCtorEq]
 refine(rQ (S:=Unit) (R:=Int) l (λpre x _=>if p x=true then .out (pre.length:Int)else .go ())
  (λpre _=>[.ah 0,.ah (pre.length:Int)]) (λ_ _=>σ) (λ_=>(.exit 0,[.ah 0,.ah (l.length:Int)],σ)) (λpre _ r=>(.ret,[.ah (pre.length:Int),.ah (pre.length:Int)],σ))
  (λ_ _=>True) () (λ_=>some (AV.ah (-1),σ)) (λr=>some (AV.ah r,σ)) ?_ ?_ trivial (λ_ _ _ _ _ _ _ _=>trivial) ?_ ?_).trans ?_
 ·intro pre x rest u hl' _;have hx:=rS hl';have hlt:=uR hl';have hi1:IntKind.i64.wrap ((pre.length:Int)+1)=(pre.length:Int)+1:=cL (by unfold aV;unfold bg at hl;omega);have hlt':(pre.length:Int)<(l.length:Int):=by omega
  have lP:=nQ 2 fA l hx;have qP:=hd x (by rw[hl'];simp);simp only[aW,reduceCtorEq,ajo,Sd,amg,alv,Og,hlt',lP,A.lJ,nI,List.nil_append,qP,hi1];cases p x<;>simp [aW,reduceCtorEq]
 ·intro u _;simp only[aW,reduceCtorEq,Int.lt_irrefl]
 ·intro u _;simp only[aW,reduceCtorEq]
 ·intro pre x rest s q hl' _ hb
  have:q=(pre.length:Int):=by
   cases hpx:p x
   ·rw[hpx]at hb;cases hb
   ·rw[hpx]at hb;simp at hb;exact hb.symm
  simp only[aW,reduceCtorEq,this]
 ·rw[Fi p _ _ l [] (by simp)];simp only[List.nil_append];split
  ·rename_i h;rw[h]
  ·rfl
theorem aeG(dyn:Nat→au→Heap→aH)(l:List nO)(hl:l.length≤bg)(n:Nat)(caps:au)(p:nO→Bool)(σ:Heap)(hd:∀x∈l,dyn n ((.agg (dh x):AV)::caps) σ=some (.bool (p x),σ)):Mx dyn [sl 3 dh l,.fn n caps] σ=some (.ah (lg p l),σ):=by
 refine wrap_eq rfl ?_ rfl;show My dyn (sl 3 dh l) (.fn n caps) σ=_;unfold My;simp only[aW,reduceCtorEq]
 refine(rQ (S:=Unit) (R:=Int) l (λpre x _=>if p x=true then .out (pre.length:Int)else .go ())
  (λpre _=>[.ah 0,.ah (pre.length:Int)]) (λ_ _=>σ) (λ_=>(.exit 0,[.ah 0,.ah (l.length:Int)],σ)) (λpre _ r=>(.ret,[.ah (pre.length:Int),.ah (pre.length:Int)],σ))
  (λ_ _=>True) () (λ_=>some (AV.ah (-1),σ)) (λr=>some (AV.ah r,σ)) ?_ ?_ trivial (λ_ _ _ _ _ _ _ _=>trivial) ?_ ?_).trans ?_
 ·intro pre x rest u hl' _;have hx:=rS hl';have hlt:=uR hl';have hi1:IntKind.i64.wrap ((pre.length:Int)+1)=(pre.length:Int)+1:=cL (by unfold aV;unfold bg at hl;omega);have hlt':(pre.length:Int)<(l.length:Int):=by omega
  have lP:=nQ 3 dh l hx;have qP:=hd x (by rw[hl'];simp);simp only[aW,reduceCtorEq,agN,agO,agP,ahL,ahv,Yg,hlt',lP,A.lJ,nI,List.nil_append,qP,hi1];cases p x<;>simp [aW,reduceCtorEq]
 ·intro u _;simp only[aW,reduceCtorEq,Int.lt_irrefl]
 ·intro u _;simp only[aW,reduceCtorEq]
 ·intro pre x rest s q hl' _ hb
  have:q=(pre.length:Int):=by
   cases hpx:p x
   ·rw[hpx]at hb;cases hb
   ·rw[hpx]at hb;simp at hb;exact hb.symm
  simp only[aW,reduceCtorEq,this]
 ·rw[Fi p _ _ l [] (by simp)];simp only[List.nil_append];split
  ·rename_i h;rw[h]
  ·rfl
theorem aeC(dyn:Nat→au→Heap→aH)(l:List nO)(hl:l.length≤bg)(n:Nat)(caps:au)(p:nO→Bool)(σ:Heap)(hd:∀x∈l,dyn n ((.agg (dh x):AV)::caps) σ=some (.bool (p x),σ)):Mv dyn [sl 3 dh l,.fn n caps] σ=some (.bool (l.any p),σ):=by refine wrap_eq rfl ?_ rfl;show Mw dyn (sl 3 dh l) (.fn n caps) σ=_;unfold Mw;simp only[aW,reduceCtorEq,aeG dyn l hl n caps p σ hd];refine congrArg some (congrArg (λb=>(AV.bool b,σ)) ?_);exact alZ p l
theorem RQ(nm:ByteArray):∀(l:List dZ),l6 nm l=match l.find? (λx:dZ=>decide (x.name=nm))with|some p=>(p,true)|none=>(⟨⟨#[]⟩,0,[]⟩,false)
 |[]=>rfl
 |p::l=>by
  rw[l6];by_cases h:p.name=nm
  ·simp [h]
  ·simp [h,RQ nm l]
theorem agS(x:dZ)(nm:ByteArray)(σ:Heap):Jp [.agg (dm x),.rp [.str nm]] σ=some (.bool (decide (x.name=nm)),σ):=by refine wrap_eq rfl ?_ rfl;show Qs (.agg (dm x)) (.rp [.str nm]) σ=_;unfold Qs;simp only[aW,reduceCtorEq,tu,uG,tv,uJ,uI,uK];show(some (AV.str nm)).bind _=_;simp only[aW,reduceCtorEq]
theorem nnP(x:fS):A.cG [.k,.k,.k,.k,.k,.k,(.s 3)] (gA x)=gA x:=rfl
theorem apb(p:dZ)(b:Bool):A.nn (.t [(.a FG),.k]) (.aM [.agg (dm p),.bool b])=.aM [.agg (dm p),.bool b]:=by show AV.aM [.agg [.str p.name,.ah p.size,A.nn (.e 7 [.k,.k,.k,.k,.k,.k,(.s 3)]) (sl 7 gA p.params)],.bool b]=_;rw[xy nnP];rfl
theorem Y6(l:List dZ)(hl:l.length≤bg)(nm:ByteArray)(σ:Heap):MT [sl 3 dm l,.str nm] σ=some (.aM [.agg (dm (l6 nm l).1),.bool (l6 nm l).2],σ):=by
 have key:∃w,MX (sl 3 dm l) (.str nm) σ=some (w,σ)∧A.nn (.t [(.a FG),.k]) w=.aM [.agg (dm (l6 nm l).1),.bool (l6 nm l).2]:=by
  unfold MX;simp only[aW,reduceCtorEq];rw[aeK _ l hl 64 [.rp [.str nm]] (λx=>decide (x.name=nm)) σ (λx _=>agS x nm σ)];simp only[aW,reduceCtorEq];rw[RQ];rcases zj (λx:dZ=>decide (x.name=nm)) l with⟨h1,_,h3⟩|⟨k,x,h1,h2,h3,h4,_⟩
  ·refine⟨.aM [.agg [.str ⟨#[]⟩,.ah 0,.az],.bool false],?_,?_⟩
   ·rw[h1];simp only[aW,reduceCtorEq,show((-1:Int)<0)from by decide];rfl
   ·rw[h3];rfl
  ·refine⟨.aM [.agg (dm x),.bool true],?_,?_⟩
   ·rw[h3];simp only[aW,reduceCtorEq,tu,uG,tv,uJ,uI,uK,show ¬((k:Int)<0)from by omega,nQ 3 dm l h1]
   ·rw[h4];exact apb x true
 obtain⟨w,h1,h2⟩:=key;exact wrap_eq rfl h1 h2
def marks(f:Nat→Bool):au:=(List.range 513).map λk=>.bool (f k)
theorem HI(f:Nat→Bool){k:Nat}(h:k<513):(marks f)[k]? =some (.bool (f k)):=by simp [marks,h]
theorem Fa(f:Nat→Bool):(marks f).length=513:=by simp [marks]
theorem ZE(f:Nat→Bool){γ:Type}(K1 K2:γ):∀(s a:Nat)(pre:List Nat),(mA (λ_ k(_:Unit)=>if 512<k∨f k=true then(Rd.out ():Rd Unit Unit)else .go ()) pre (List.range' a s) ()).el (λ_=>K1) (λ_=>K2)=if yz f s a=true then K1 else K2
 |0,a,pre=>by simp [mA,yz,Rd.el]
 |s+1,a,pre=>by
  rw[List.range'_succ,mA,yz];by_cases h:512<a∨f a=true
  ·simp only[aQ h,Rd.el];simp
  ·simp only[aP h];exact ZE f K1 K2 s (a+1) _
theorem anl(a s:Int)(h:aV (a+s))(h':aV (a+s-1))(σ:Heap):G7 [.np,.ah a,.ah s] σ=some (.bool (decide (a+s-1≤512)),σ):=by refine wrap_eq rfl ?_ rfl;show Jq .np (.ah a) (.ah s) σ=_;unfold Jq;simp only[aW,reduceCtorEq,show A.eql .p AV.np AV.np=some (.bool true)from rfl,cL h,cL h']
theorem alm(cs:au){k:Nat}(h:k<513):A.Bg 513 1 (.rp cs) (.ah (k:Int))=some (.rp (cs.drop k)):=by
 have h1:A.idx 513 (.ah (k:Int))=some k:=by show(if(0:Int)≤(k:Int)∧(k:Int)<((513:Nat):Int)then some (k:Int).toNat else none)=some k;rw[aQ ⟨by omega,by omega⟩];rfl
 unfold A.Bg;rw[h1];simp only[aX,Nat.mul_one]
theorem ano(f:Nat→Bool)(a s:Nat)(hs:a≤1024∧s≤1024)(σ:Heap):G7 [.rp (marks f),.ah (a:Int),.ah (s:Int)] σ=some (.bool (yz f s a),σ):=by
 refine wrap_eq rfl ?_ rfl;show Jq (.rp (marks f)) (.ah (a:Int)) (.ah (s:Int)) σ=_;unfold Jq;have hw:IntKind.i64.wrap ((a:Int)+s)=(a:Int)+s:=cL (by unfold aV;omega);simp only[aW,reduceCtorEq,show A.eql .p (AV.rp (marks f)) AV.np=some (.bool false)from rfl,hw]
 refine(rQ (S:=Unit) (R:=Unit) (List.range' a s) (λ_ k(_:Unit)=>if 512<k∨f k=true then(Rd.out ():Rd Unit Unit)else .go ())
  (λpre _=>[.bool false,.ah ((a:Int)+(pre.length:Int))]) (λ_ _=>σ) (λ_=>(.exit 0,[.bool false,.ah ((a:Int)+s)],σ)) (λpre _ _=>(.ret,[.bool false,.ah ((a:Int)+(pre.length:Int))],σ))
  (λ_ _=>True) () (λ_=>some (AV.bool true,σ)) (λ_=>some (AV.bool false,σ)) ?_ ?_ trivial (λ_ _ _ _ _ _ _ _=>trivial) ?_ ?_ (hv:=by simp)).trans ?_
 ·intro pre k rest u hl _;have hx:=rS hl;have hlt:=uR hl;rw[List.length_range']at hlt
  obtain rfl:a+pre.length=k:=by have:=(bM.1 hx).2;simpa [List.getElem_range']using this
  have hlt':(a:Int)+(pre.length:Int)<(a:Int)+s:=by omega
  have hi1:IntKind.i64.wrap ((a:Int)+(pre.length:Int)+1)=(a:Int)+((pre.length:Int)+1):=by rw[cL (by unfold aV;omega)];omega
  have ecast:(a:Int)+(pre.length:Int)=((a+pre.length:Nat):Int):=by omega
  clear hl hx;by_cases h5:512<a+pre.length
  ·have V1:(512:Int)<(a:Int)+(pre.length:Int):=by omega
   simp only[aW,reduceCtorEq,hlt',h5,V1]
  have V1:¬(512:Int)<(a:Int)+(pre.length:Int):=by omega
  have hp:A.ak 0 ((marks f).drop (a+pre.length))=some (.bool (f (a+pre.length))):=by rw[WC];simp only[A.ak,Nat.add_zero,HI f (show a+pre.length<513 by omega)];rfl
  simp only[aW,reduceCtorEq,hlt',h5,V1,show A.aU (AV.rp (marks f))=some (.rp (marks f))from rfl];rw[ecast,alm _ (by omega)];simp only[aW,reduceCtorEq,hp];cases hf:f (a+pre.length)
  ·simp only[aW,reduceCtorEq,←ecast,hi1]
  ·simp only[aW,reduceCtorEq,←ecast]
 ·intro u _;rw[List.length_range'];exact HQ _ _ _
 ·intro u _;simp only[aW,reduceCtorEq]
 ·intros;simp only[aW,reduceCtorEq]
 ·rw[ZE];cases yz f s a<;>rfl
theorem anm(f:Nat→Bool)(a s:Nat)(hs:a≤1024∧s≤1024){σ:Heap}{id:Nat}(h:σ[id]? =some (.box (marks f))):G7 [.op id 0,.ah (a:Int),.ah (s:Int)] σ=some (.bool (yz f s a),σ):=by
 refine abi (args':=[.rp (marks f),.ah (a:Int),.ah (s:Int)]) rfl ?_ rfl (ano f a s hs []) rfl
 have e:A.wY σ 0 7 (marks f)=some (marks f):=by
  have key:∀(l:List Nat),A.wY σ 0 7 (l.map λk=>AV.bool (f k))=some (l.map λk=>AV.bool (f k)):=by
   intro l;induction l with
   |nil=>simp [A.wY]
   |cons x l ih=>simp [A.wY,A.bG,ih]
  exact key _
 simp [A.ga,A.bG,h,e]
def wK(b:Nat):List Int→List (AV×AV)
 |[]=>[]
 |v::r=>(.int .i64 v,.op b 0)::wK (b+1) r
def jT(σ:Heap)(vs:List Int)(f:Int→Nat→Bool):Heap:=σ++(aS.map (wK (σ.length+1) vs)::vs.map λv=>aS.box (marks (f v)))
theorem abg(v:Int):∀(vs:List Int)(b:Nat),wK b (vs++[v])=wK b vs++[(.ah v,.op (b+vs.length) 0)]
 |[],b=>rfl
 |w::r,b=>by simp only[nI,wK,abg v r (b+1),List.length_cons];rw[show b+1+r.length=b+(r.length+1) by omega]
theorem Oj(v:Int):∀(vs:List Int)(b:Nat),A.find .i (.ah v) (wK b vs)=some (if v∈vs then some (.op (b+vs.idxOf v) 0)else none)
 |[],b=>rfl
 |w::r,b=>by
  simp only[wK,A.find,A.fM,A.pI,if_true,aX];by_cases h:v=w
  ·subst h;simp
  ·have h1:(v==w)=false:=by simpa using h
   have h2:(w==v)=false:=by simpa using λe:w=v=>h e.symm
   simp only[h1,bE,Oj v r (b+1),jY,h,false_or,List.idxOf_cons,h2];rw[show b+1+r.idxOf v=b+(r.idxOf v+1) by omega]
theorem ab1(v:Int)(w:AV):∀(vs:List Int)(b:Nat),v∉vs→A.upd .i (.ah v) w (wK b vs)=some (wK b vs++[(.ah v,w)])
 |[],b,_=>rfl
 |x::r,b,h=>by
  simp only[jY,not_or]at h;have h1:(v==x)=false:=by simpa using h.1
  simp only[wK,A.upd,A.fM,A.pI,if_true,aX,h1,bE,ab1 v w r (b+1) h.2,bZ,nI]
theorem ab3(σ:Heap)(vs:List Int)(f:Int→Nat→Bool):(jT σ vs f).length=σ.length+1+vs.length:=by simp [jT];omega
theorem OH(σ:Heap)(vs:List Int)(f:Int→Nat→Bool):(jT σ vs f)[σ.length]? =some (.map (wK (σ.length+1) vs)):=by simp [jT]
theorem ab2(σ:Heap){vs:List Int}(f:Int→Nat→Bool){v:Int}(h:v∈vs):(jT σ vs f)[σ.length+1+vs.idxOf v]? =some (.box (marks (f v))):=by
 unfold jT;rw[iZ (by omega),show σ.length+1+vs.idxOf v-σ.length=vs.idxOf v+1 by omega,List.getElem?_cons_succ,sy]
 have:vs[vs.idxOf v]? =some v:=by have hl:=List.idxOf_lt_length_of_mem h;rw[bT hl,List.getElem_idxOf hl]
 rw[this];rfl
theorem aov(σ:Heap){vs:List Int}(hn:vs.Nodup){f f':Int→Nat→Bool}{v:Int}(h:v∈vs)(ho:∀w,w≠v→f' w=f w):(jT σ vs f).set (σ.length+1+vs.idxOf v) (.box (marks (f' v)))=jT σ vs f':=by
 unfold jT;rw[qu _ _ (by omega),show σ.length+1+vs.idxOf v-σ.length=vs.idxOf v+1 by omega,List.set_cons_succ];refine congrArg (λz=>σ++(aS.map (wK (σ.length+1) vs)::z)) ?_;clear σ;induction vs with
 |nil=>cases h
 |cons w r ih=>
  rw[sx]at hn;rw[List.idxOf_cons];by_cases e:w=v
  ·subst e;simp only[beq_self_eq_true,ck,ef,List.set_cons_zero];exact congrArg (aS.box (marks (f' w))::·) (List.map_congr_left λx hx=>by rw[ho x (λe=>hn.1 (e▸hx))])
  ·have e2:(w==v)=false:=by simpa using e
   simp only[e2,bE,ef,List.set_cons_succ];rw[ih hn.2 ((jY.1 h).resolve_left λq=>e q.symm),ho w e]
theorem aou(σ:Heap)(vs:List Int){f:Int→Nat→Bool}{v:Int}(h:∀k,f v k=false):((jT σ vs f)++[aS.box (List.replicate 513 aO)]).set σ.length (.map (wK (σ.length+1) (vs++[v])))=jT σ (vs++[v]) f:=by
 have e:marks (f v)=List.replicate 513 aO:=by rw[show f v=λ_=>false from funext h];refine List.eq_replicate_iff.2 ⟨Fa _,λb hb=>?_⟩;obtain⟨k,_,rfl⟩:=gB.1 hb;rfl
 unfold jT;simp only[lU,nI];rw[qu _ _ (bD _),Nat.sub_self,List.set_cons_zero,List.map_append,ef,e];rfl
theorem akN(g g':Nat→Bool){k:Nat}(hk:k<513)(h1:g' k=true)(h2:∀j,j≠k→g' j=g j):A.aq k [AV.bool true] (marks g)=some (marks g'):=by
 unfold A.aq;rw[aQ (by rw[Fa];simp;omega)];refine congrArg some (List.ext_getElem? λj=>?_);simp only[lU,nI,List.nil_append,List.length_cons,List.length_nil];by_cases hj:j<k
 ·rw[jg (by rw[qv,Fa];omega),List.getElem?_take_of_lt hj,HI _ (by omega),HI _ (by omega),h2 j (by omega)]
 ·rw[iZ (by rw[qv,Fa];omega),qv,Fa,Nat.min_eq_left (by omega)];by_cases e:j=k
  ·subst e;rw[Nat.sub_self,List.getElem?_cons_zero,HI _ hk,h1]
  ·rw[show j-k=(j-k-1)+1 by omega,List.getElem?_cons_succ,List.getElem?_drop,show k+(0+1)+(j-k-1)=j by omega];by_cases hj2:j<513
   ·rw[HI _ hj2,HI _ hj2,h2 j e]
   ·rw[qt (by rw[Fa];omega),qt (by rw[Fa];omega)]
theorem OS{α γ:Type}(K1:Unit→γ)(K2:Unit→γ):∀(l pre:List α),(mA (λ_(x:α)(_:Unit)=>(Rd.go ():Rd Unit Unit)) pre l ()).el K1 K2=K1 ()
 |[],pre=>rfl
 |x::l,pre=>by rw[mA];exact OS K1 K2 l _
theorem Zc{α S:Type}{body:List α→α→S→Rd S Int}{xL:List α→List α→Int}(h0:∀pre,xL pre []=0)(h:∀pre x rest s,xL pre (x::rest)=(body pre x s).el (λ_=>xL (pre++[x]) rest) (λr=>r)) {γ:Type} (K:Int→γ):
  ∀(l pre:List α)(s:S),(mA body pre l s).el (λ_=>K 0) K=K (xL pre l)
 |[],pre,s=>by rw[mA,h0];rfl
 |x::l,pre,s=>by
  rw[mA,h pre x l s];cases body pre x s with
  |go s'=>exact Zc h0 h K l (pre++[x]) s'
  |out r=>rfl
theorem aji(f:Int→Nat→Bool)(v:Int)(a:Nat):qp f v a 0=f:=by funext w k;unfold qp;rw[aP (by omega)]
theorem aaf{γ:Type}(σ:Heap){vs:List Int}(hn:vs.Nodup)(f:Int→Nat→Bool)(u:jH)(a s:Nat)(ha:u.address=a)(hs:a+s≤513)(hm:u.univ∈vs)(K:au→Heap→Option γ):
  (A.loop (λv11 mK=>
   ((A.lb (aj v11 0)).bind λ_=>some (3)).bind λp13=>
   ((A.lb (aj v11 0)).bind λlz=>A.ak p13 lz).bind λdK=>
   (A.add dK (.ah (s:Int))).bind λdg=>
   (A.lss (aj v11 1) dg).bind λdD=>
   A.cond dD (
    ((A.lb (aj v11 0)).bind λ_=>some (2)).bind λp18=>
    ((A.lb (aj v11 0)).bind λiM=>A.ak p18 iM).bind λep=>
    (A.look .i (.om σ.length) ep AV.np mK).bind λcN=>
    (A.aU cN).bind λeu=>
    (A.Bg 513 1 eu (aj v11 1)).bind λfC=>
    (A.storeAt fC [AV.bool true] mK).bind λgE=>
    (A.add (aj v11 1) (AV.ah 1)).bind λgh=>
    some (AX.normal,[(aj v11 0),gh],gE)) (
    some (AX.exit 0,[(aj v11 0),(aj v11 1)],mK))) [.lbx (cO u),.ah (a:Int)] (jT σ vs f)).bind (λAy=>
 bif decide (Ay.1=AX.exit 0)then K Ay.2.1 Ay.2.2 else none)=K [.lbx (cO u),.ah ((a:Int)+s)] (jT σ vs (qp f u.univ a s)):=by
 have hw:IntKind.i64.wrap ((a:Int)+s)=(a:Int)+s:=cL (by unfold aV;omega)
 refine(rQ (S:=Unit) (R:=Unit) (List.range' a s) (λ_ k(_:Unit)=>(Rd.go ():Rd Unit Unit))
  (λpre _=>[.lbx (cO u),.ah ((a:Int)+(pre.length:Int))]) (λpre _=>jT σ vs (qp f u.univ a pre.length)) (λ_=>(.exit 0,[.lbx (cO u),.ah ((a:Int)+s)],jT σ vs (qp f u.univ a s))) (λpre _ _=>(.ret,[],σ))
  (λ_ _=>True) () (λ_=>K [.lbx (cO u),.ah ((a:Int)+s)] (jT σ vs (qp f u.univ a s))) (λ_=>none) ?_ ?_ trivial (λ_ _ _ _ _ _ _ _=>trivial) ?_ ?_ (hv:=by simp) (iO:=by rw[List.length_nil,aji])).trans (OS _ _ _ _)
 ·intro pre k rest t hl _;have hx:=rS hl;have hlt:=uR hl;rw[List.length_range']at hlt
  obtain rfl:a+pre.length=k:=by have:=(bM.1 hx).2;simpa [List.getElem_range']using this
  have hlt':(a:Int)+(pre.length:Int)<(a:Int)+s:=by omega
  have hi1:IntKind.i64.wrap ((a:Int)+(pre.length:Int)+1)=(a:Int)+((pre.length:Int)+1):=by rw[cL (by unfold aV;omega)];omega
  have ecast:(a:Int)+(pre.length:Int)=((a+pre.length:Nat):Int):=by omega
  clear hl hx
  have Ua:A.look .i (.om σ.length) (.ah u.univ) AV.np (jT σ vs (qp f u.univ a pre.length))=some (.op (σ.length+1+vs.idxOf u.univ) 0):=by rw[DM .i rfl (OH σ vs _),Oj,aQ hm];rfl
  have arx:A.Bg 513 1 (.op (σ.length+1+vs.idxOf u.univ) 0) (.ah ((a+pre.length:Nat):Int))=some (.op (σ.length+1+vs.idxOf u.univ) (a+pre.length)):=by
   have h1:A.idx 513 (.ah ((a+pre.length:Nat):Int))=some (a+pre.length):=by show(if(0:Int)≤((a+pre.length:Nat):Int)∧((a+pre.length:Nat):Int)<((513:Nat):Int)then some ((a+pre.length:Nat):Int).toNat else none)=_;rw[aQ ⟨by omega,by omega⟩];rfl
   unfold A.Bg;rw[h1];simp only[aX,Nat.mul_one,Nat.zero_add]
  have hst:A.storeAt (.op (σ.length+1+vs.idxOf u.univ) (a+pre.length)) [.bool true] (jT σ vs (qp f u.univ a pre.length))=some (jT σ vs (qp f u.univ a (pre.length+1))):=by
   simp only[A.storeAt,ab2 σ _ hm]
   rw[akN _ (qp f u.univ a (pre.length+1) u.univ) (by omega) (by unfold qp;rw[aQ ⟨rfl,by omega,by omega⟩]) (λj hj=>by
    unfold qp;by_cases q:a≤j∧j<a+pre.length
    ·rw[aQ ⟨rfl,by omega,by omega⟩,aQ ⟨rfl,q.1,q.2⟩]
    ·rw[aP (by omega),aP (by omega)])]
   simp only[bZ];rw[aov σ hn hm (λw hw=>by funext j;unfold qp;rw[aP (λq=>hw q.1),aP (λq=>hw q.1)])]
  simp only[aW,reduceCtorEq,tC,tD,tE,tF,tH,tG,tJ,ha,hw,hlt',Ua,show A.aU (.op (σ.length+1+vs.idxOf u.univ) 0)=some (.op (σ.length+1+vs.idxOf u.univ) 0)from rfl];rw[ecast,arx];simp only[aW,reduceCtorEq,hst,←ecast,hi1]
 ·intro t _;rw[List.length_range'];simp only[aW,reduceCtorEq,tC,tD,tE,tF,tH,tG,tJ,ha,hw,Int.lt_irrefl]
 ·intro t _;simp only[aW,reduceCtorEq]
 ·intro pre x rest t r _ _ hb;cases hb
theorem aor(σ:Heap){vs:List Int}(hn:vs.Nodup)(f:Int→Nat→Bool)(u:jH)(a s:Nat)(ha:u.address=a)(hs:a+s≤513)(hf:u.univ∉vs→∀k,f u.univ k=false):
  M1 [.om σ.length,.agg (cO u),.ah (s:Int)] (jT σ vs f)=some (.aM [],jT σ (if u.univ∈vs then vs else vs++[u.univ]) (qp f u.univ a s)):=by
 have e:JC (.om σ.length) (.agg (cO u)) (.ah (s:Int)) (jT σ vs f)=some (.aM [],jT σ (if u.univ∈vs then vs else vs++[u.univ]) (qp f u.univ a s)):=by
  unfold JC
  have Ua:A.look .i (.om σ.length) (.ah u.univ) AV.np (jT σ vs f)=some (if u.univ∈vs then .op (σ.length+1+vs.idxOf u.univ) 0 else .np):=by rw[DM .i rfl (OH σ vs _),Oj];by_cases hm:u.univ∈vs<;>simp [hm]
  simp only[aW,reduceCtorEq,tC,tD,tE,tF,tH,tG,tJ,Ua];by_cases hm:u.univ∈vs
  ·simp only[aQ hm,show A.eql .p (.op (σ.length+1+vs.idxOf u.univ) 0) AV.np=some (.bool false)from rfl,aW,reduceCtorEq,tC,tD,tE,tF,tH,tG,tJ,ha];exact aaf σ hn f u a s ha hs hm λ_ h=>some (AV.aM [],h)
  ·have hup:A.fV .i (.om σ.length) (.ah u.univ) (.op (jT σ vs f).length 0) (jT σ vs f++[aS.box (List.replicate 513 aO)])=some (jT σ (vs++[u.univ]) f):=by rw[B3 .i rfl (es:=wK (σ.length+1) vs) (by rw[jg (by rw[ab3];omega)];exact OH σ vs f),ab1 _ _ _ _ hm];rw[bZ,ab3,←abg,aou σ vs (hf hm)]
   simp only[aP hm,show A.eql .p AV.np AV.np=some (.bool true)from rfl,aW,reduceCtorEq,tC,tD,tE,tF,tH,tG,tJ,hup,ha];exact aaf σ (by rw[List.nodup_append];exact⟨hn,by simp,λx hx y hy e=>hm (by simp at hy;rw[←hy,←e];exact hx)⟩) f u a s ha hs (by simp) λ_ h=>some (AV.aM [],h)
 unfold M1 A.wrap;rw[Bool.false_and,bE];show(JC (.om σ.length) (.agg (cO u)) (.ah (s:Int)) (jT σ vs f)).map _=_;rw[e];rfl
theorem ajl{α:Type}(f:α→Int){l pre rest:List α}{x:α}(h:l=pre++x::rest)(n:Int):(∃y,0<pre.length∧l[pre.length-1]? =some y∧F1 (pre.map f) n=decide (n≤f y))∨(¬0<pre.length∧F1 (pre.map f) n=false):=by
 by_cases h0:0<pre.length
 ·obtain⟨y,hy,hy2⟩:=aa0 h h0;exact .inl ⟨y,h0,hy2,by simp [F1,List.getLast?_map,hy]⟩
 ·obtain rfl:pre=[]:=xh (by omega);exact .inr ⟨h0,rfl⟩
theorem amF(σ:Heap)(vs:List Int)(f:Int→Nat→Bool)(v:Int):A.look .i (.om σ.length) (.ah v) AV.np (jT σ vs f)=some (if v∈vs then .op (σ.length+1+vs.idxOf v) 0 else .np):=by rw[DM .i rfl (OH σ vs _),Oj];by_cases hm:v∈vs<;>simp [hm]
theorem abx(σ:Heap)(vs:List Int)(f:Int→Nat→Bool)(n:Int):A.fin σ (.ah n) (jT σ vs f)=some (.ah n,σ):=Tr _ _ _ _
theorem RE(r:je)(hok:D9 r)(σ:Heap):MN [.agg (lV r)] σ=some (.ah (mg r),σ):=by
 refine wrap_eq rfl ?_ rfl;show Qy (.agg (lV r)) σ=_;obtain⟨U5,Ws⟩:=hok;have LU:=U5.1;unfold Qy mg;simp only[aW,reduceCtorEq,AU,AW,A9,A5,Ba,agv _ U5];by_cases hf:zZ r.bw=0;case neg=>simp only[aW,reduceCtorEq,hf]
 by_cases h4:400<r.dB.length
 ·have h4':(400:Int)<r.dB.length:=by omega
  simp only[aW,reduceCtorEq,AU,AW,A9,A5,Ba,hf,h4,h4']
 have h4':¬(400:Int)<r.dB.length:=by omega
 simp only[aW,reduceCtorEq,AU,AW,A9,A5,Ba,hf,h4,h4'];have acF:=ajf hf;generalize PM:r.dB=l at *
 refine(rQ (S:=List Int×(Int→Nat→Bool)) (R:=Int) l (λpre u s=>if bf u.aC 1 9999=false then .out 1
    else if F1 (pre.map (·.aC)) u.aC=true then .out 7
    else if(l6 u.kK r.bw).2=false then .out 5
    else if bf u.univ 1 64=false∨bf u.address 1 512=false∨512<rZ r.bw u then .out 1
    else if Ib r.bw u pre=true then .out 12 else .go (if u.univ∈s.1 then s.1 else s.1++[u.univ],qp s.2 u.univ u.address.toNat (l6 u.kK r.bw).1.size.toNat))
  (λpre _=>[.lbx (lV r),.ah 0,.ah (pre.length:Int)]) (λpre s=>jT σ s.1 s.2)
  (λs=>(.exit 0,[.lbx (lV r),.ah 0,.ah (l.length:Int)],jT σ s.1 s.2)) (λpre s n=>(.ret,[.lbx (lV r),.ah n,.ah (pre.length:Int)],jT σ s.1 s.2))
  (λpre s=>Kb r.bw pre∧DR r.bw pre s.2∧s.1.Nodup∧∀v,v∉s.1→∀k,s.2 v k=false) ([],λ_ _=>false) (λ_=>some (AV.ah 0,σ)) (λn=>some (AV.ah n,σ)) ?_ ?_ ⟨(by intro x hx;simp at hx),DR.nil _,List.nodup_nil,λ_ _ _=>rfl⟩ ?_ ?_ ?_).trans ?_
 ·intro pre u rest s hl hP;have hx:=rS hl;have hlt:=uR hl;have hi1:IntKind.i64.wrap ((pre.length:Int)+1)=(pre.length:Int)+1:=cL (by unfold aV;omega);have hi2:IntKind.i64.wrap ((pre.length:Int) -1)=(pre.length:Int) -1:=cL (by unfold aV;omega);have hlt':(pre.length:Int)<(l.length:Int):=by omega
  have hmp:pre.length≤bg:=by unfold bg;omega
  have lP:=nQ 4 cO l hx;have PG:=Y6 r.bw LU u.kK;have ho:=ajl (·.aC) hl u.aC;obtain⟨vs,f⟩:=s;obtain⟨LK,LL,I7,I8⟩:=hP;dsimp only at LK LL I7 I8 ⊢;clear Ws h4 h4' hl hx;simp only[aW,reduceCtorEq,tC,tD,tE,tF,tH,tG,tJ,AU,AW,A9,A5,Ba,PM,hlt',lP,PG,tu,uG,tv,uJ,uI,uK,lZ];cases h1:bf u.aC 1 9999
  ·simp only[aW,reduceCtorEq]
  simp only[aW,reduceCtorEq];rcases ho with⟨y,h0,hy,ho⟩|⟨h0,ho⟩
  case' inl=>
   have ur:(0:Int)<pre.length:=by omega
   have U0:=Nv 4 cO l h0 hy;by_cases hq:u.aC≤y.aC
   ·simp only[aW,reduceCtorEq,tC,tD,tE,tF,tH,tG,tJ,AU,AW,A9,A5,Ba,PM,ur,hi2,U0,ho,hq]
   simp only[aW,reduceCtorEq,tC,tD,tE,tF,tH,tG,tJ,AU,AW,A9,A5,Ba,PM,ur,hi2,U0,ho,hq]
  case' inr=>
   have ur:¬(0:Int)<pre.length:=by omega
   simp only[aW,reduceCtorEq,ur,ho]
  all_goals
   try simp only[aW,reduceCtorEq,tC,tD,tE,tF,tH,tG,tJ,AU,AW,A9,A5,Ba,PM,PG]
   cases hp:(l6 u.kK r.bw).2
   ·simp only[aW,reduceCtorEq,tu,uG,tv,uJ,uI,uK]
   have hsz:=acF _ (Se _ _ hp);try simp only[aW,reduceCtorEq,tC,tD,tE,tF,tH,tG,tJ,tu,uG,tv,uJ,uI,uK,lZ]
   cases hu:bf u.univ 1 64
   ·simp only[aW,reduceCtorEq]
   cases ha:bf u.address 1 512
   ·simp only[aW,reduceCtorEq,tC,tD,tE,tF,tH,tG,tJ,lZ,ha]
   have ha':1≤u.address∧u.address≤512:=by simpa [bf]using ha
   have hw1:IntKind.i64.wrap (u.address+(l6 u.kK r.bw).1.size)=u.address+(l6 u.kK r.bw).1.size:=cL (by unfold aV;omega);have hw2:IntKind.i64.wrap (u.address+(l6 u.kK r.bw).1.size-1)=rZ r.bw u:=cL (by unfold aV;omega);have hlu:rZ r.bw u=u.address+(l6 u.kK r.bw).1.size-1:=rfl;by_cases h5:512<rZ r.bw u
   ·simp only[aW,reduceCtorEq,tC,tD,tE,tF,tH,tG,tJ,tu,uG,tv,uJ,uI,uK,lZ,ha,hw1,hw2,h5]
   obtain⟨a,V8⟩:∃a:Nat,u.address=a:=⟨u.address.toNat,by omega⟩
   obtain⟨n,hne⟩:∃n:Nat,(l6 u.kK r.bw).1.size=n:=⟨(l6 u.kK r.bw).1.size.toNat,by omega⟩
   have PL:=aja LL LK u a n V8 (by omega) (by omega) (by omega)
   have hfree:G7 [if u.univ∈vs then .op (σ.length+1+vs.idxOf u.univ) 0 else .np,.ah (a:Int),.ah (n:Int)] (jT σ vs f)=some (.bool (!Ib r.bw u pre),jT σ vs f):=by
    by_cases hm:u.univ∈vs
    ·rw[aQ hm,anm (f u.univ) a n (by omega) (ab2 σ f hm),PL]
    ·rw[aP hm,anl a n (by unfold aV;omega) (by unfold aV;omega),←PL];have e:yz (f u.univ) n a=true:=(SB _ _ _).2 λk h1 h2=>⟨by omega,I8 _ hm k⟩
     rw[e,show decide ((a:Int)+n-1≤512)=true from cz (by omega)]
   have uy:=aor σ I7 f u a n V8 (by omega) (I8 u.univ);simp only[aW,reduceCtorEq,tC,tD,tE,tF,tH,tG,tJ,tu,uG,tv,uJ,uI,uK,lZ,ha,hw1,hw2,h5,amF];rw[V8,hne];simp only[aW,reduceCtorEq,hfree];cases hc:Ib r.bw u pre
   ·simp only[aW,reduceCtorEq,tC,tD,tE,tF,tH,tG,tJ,tu,uG,tv,uJ,uI,uK,hne,uy,hi1,Int.toNat_natCast]
   ·simp only[aW,reduceCtorEq]
 ·intro s _;exact HQ _ _ _
 ·intro pre u rest s s' hl hP hb;obtain⟨vs,f⟩:=s;obtain⟨LK,LL,I7,I8⟩:=hP;dsimp only at LK LL I7 I8 hb;split at hb
  ·cases hb
  split at hb
  ·cases hb
  split at hb
  ·cases hb
  rename_i hp;split at hb
  ·cases hb
  rename_i hw;split at hb
  ·cases hb
  injection hb with hb
  subst hb;simp only[not_or,Bool.not_eq_false,bf,jI,decide_eq_true_eq]at hw hp;have hsz:=acF _ (Se _ _ (by simpa using hp));have hlu:rZ r.bw u=u.address+(l6 u.kK r.bw).1.size-1:=rfl;refine⟨LK.snoc ⟨hw.2.1.1,by omega,by omega⟩,LL.snoc u u.address.toNat _ (by omega) (by omega),?_,?_⟩
  ·dsimp only;split
   ·exact I7
   ·rename_i hm;rw[List.nodup_append];exact⟨I7,by simp,λx hx y hy e=>hm (by simp at hy;rw[←hy,←e];exact hx)⟩
  ·intro v hv k;dsimp only at hv ⊢
   have h1:v≠u.univ∧v∉vs:=by
    split at hv
    ·rename_i hm;exact⟨λe=>hv (e▸hm),hv⟩
    ·simp only[kM,List.mem_singleton,not_or]at hv;exact⟨hv.2,hv.1⟩
   unfold qp;rw[aP (λq=>h1.1 q.1)];exact I8 v h1.2 k
 ·intro s _;simp only[aW,reduceCtorEq,abx]
 ·intros;simp only[aW,reduceCtorEq,abx]
 ·refine(Zc (xL:=IA r.bw) ?_ ?_ (λn=>some (AV.ah n,σ)) l [] _).trans ?_
  ·intro pre;rfl
  ·intro pre x rest s;rw[IA];simp only[Ic,DT,D0]
  ·rfl
def uN(jq:List dZ)(u:jH):List aG:=(l6 u.kK jq).1.params.map λx=>⟨u.aC,x.name⟩
def pX(r:je):List aG:=r.dB.flatMap (uN r.bw)
theorem XH{p:dZ}(h:tI p=0):p.params.length≤40:=by
 unfold tI at h
 repeat' split at h
 all_goals first|(simp at h;done)|omega
theorem YN:∀(l pre:List dZ),Ef pre l=0→∀p∈l,tI p=0
 |[],pre,h,p,hp=>by simp at hp
 |q::rest,pre,h,p,hp=>by
  rw[Ef]at h;by_cases e:tI q=0
  ·rw[aQ e]at h;by_cases e2:lu q.name (pre.map (·.name))=true
   ·rw[aQ e2]at h;simp at h
   ·rw[aP e2]at h;simp only[jY]at hp;rcases hp with rfl|hp
    ·exact e
    ·exact YN rest _ h p hp
  ·rw[aP e]at h;exact absurd h e
theorem S7{r:je}(h:mg r=0):zZ r.bw=0:=by
 unfold mg at h;split at h
 ·assumption
 ·rename_i h2;exact absurd h h2
theorem R6{l:List dZ}(h:zZ l=0):∀p∈l,tI p=0:=by
 unfold zZ at h;by_cases e:60<l.length
 ·rw[aQ e]at h;simp at h
 ·rw[aP e]at h;exact YN l [] h
theorem Y5{r:je}(h:mg r=0)(nm:ByteArray):(l6 nm r.bw).1.params.length≤40:=by
 rw[RQ];cases hf:r.bw.find? (λx:dZ=>decide (x.name=nm))with
 |none=>exact kY _
 |some p=>exact XH (R6 (S7 h) p (Cq hf))
theorem RD{r:je}(h:mg r=0):∀(l:List jH),(l.flatMap (uN r.bw)).length≤l.length*40
 |[]=>by simp
 |u::l=>by
  have h1:=Y5 h u.kK;have h2:=RD h l;rw[List.flatMap_cons,List.length_append,List.length_cons,Nat.succ_mul];have h3:(uN r.bw u).length=(l6 u.kK r.bw).1.params.length:=by simp [uN]
  omega
theorem apa(l:List aG)(n:Int):A.nn (.t [(.s 2),.k]) (.aM [if l=[]then .az else sl 2 aT l,.ah n])=.aM [sl 2 aT l,.ah n]:=by show AV.aM [A.nn (.s 2) (if l=[]then .az else sl 2 aT l),.ah n]=_;rw[apd]
theorem Zb{r:je}(h:mg r=0):r.dB.length≤400:=by
 unfold mg at h;split at h
 ·split at h
  ·cases h
  ·omega
 ·rename_i h2;exact absurd h h2
theorem Tg(r:je)(hok:D9 r)(σ:Heap):Hj [.agg (lV r)] σ=some (.aM [sl 2 aT (if mg r=0 then pX r else[]),.ah (mg r)],σ):=by
 by_cases hf:mg r=0
 ·refine wrap_eq rfl (v:=.aM [if pX r=[]then .az else sl 2 aT (pX r),.ah 0]) ?_ (by rw[aQ hf,hf];exact apa _ _);show JB (.agg (lV r)) σ=_;unfold JB;have hu:=Zb hf;have U5:=hok.1.2;simp only[aW,reduceCtorEq,AU,AW,A9,A5,Ba,RE r hok,hf]
  refine(rQ (S:=Unit) (R:=Unit) r.dB (λpre u _=>(Rd.go ():Rd Unit Unit))
   (λpre _=>[.lbx (lV r),yK σ.length 2 (pre.flatMap (uN r.bw)),.ah (pre.length:Int)]) (λpre _=>σ++uY 2 aT (pre.flatMap (uN r.bw)))
   (λ_=>(.exit 0,[.lbx (lV r),yK σ.length 2 (pX r),.ah (r.dB.length:Int)],σ++uY 2 aT (pX r))) (λpre _ _=>(.ret,[],σ))
   (λ_ _=>True) () (λ_=>some (AV.aM [if pX r=[]then .az else sl 2 aT (pX r),.ah 0],σ)) (λ_=>none) ?_ ?_ trivial (λ_ _ _ _ _ _ _ _=>trivial) ?_ ?_ (iO:=by simp [amf])).trans (OS _ _ _ _)
  ·intro pre u rest s hl _;have hx:=rS hl;have hlt:=uR hl;have hi1:IntKind.i64.wrap ((pre.length:Int)+1)=(pre.length:Int)+1:=cL (by unfold aV;omega);have hlt':(pre.length:Int)<(r.dB.length:Int):=by omega
   have lP:=nQ 4 cO r.dB hx;have PG:=Y6 r.bw hok.1.1 u.kK;have hps:=Y5 hf u.kK;have Ar:=RD hf pre;have Dh:(pre++[u]).flatMap (uN r.bw)=pre.flatMap (uN r.bw)++uN r.bw u:=by simp
   have atN:pre.length≤399:=by omega
   generalize hK:pre.flatMap (uN r.bw)=K at *
   generalize hq:(l6 u.kK r.bw).1=p at *
   simp only[aW,reduceCtorEq,tC,tD,tE,tF,tH,tG,tJ,AU,AW,A9,A5,Ba,hlt',lP,PG,hq,tu,uG,tv,uJ,uI,uK]
   refine(rQ (S:=Unit) (R:=Unit) p.params (λpre u _=>(Rd.go ():Rd Unit Unit))
    (λAx _=>[.lbx (lV r),yK σ.length 2 (K++Ax.map λx=>(⟨u.aC,x.name⟩:aG)),.lbx (cO u),.ah (Ax.length:Int)]) (λAx _=>σ++uY 2 aT (K++Ax.map λx=>(⟨u.aC,x.name⟩:aG)))
    (λ_=>(.exit 2,[.lbx (lV r),yK σ.length 2 (K++uN r.bw u),.lbx (cO u),.ah (p.params.length:Int)],σ++uY 2 aT (K++uN r.bw u))) (λpre _ _=>(.ret,[],σ))
    (λ_ _=>True) () (λ_=>some (.normal,[.lbx (lV r),yK σ.length 2 (K++uN r.bw u),.ah ((pre.length:Int)+1)],σ++uY 2 aT (K++uN r.bw u))) (λ_=>none) ?_ ?_ trivial (λ_ _ _ _ _ _ _ _=>trivial) ?_ ?_ (hv:=by simp) (iO:=by simp)).trans ((OS _ _ _ _).trans ?_)
   ·intro Ax x rest' s hl' _;have gx:=rS hl';have glt:=uR hl';have gi1:IntKind.i64.wrap ((Ax.length:Int)+1)=(Ax.length:Int)+1:=cL (by unfold aV;omega);have aru:(Ax.length:Int)<(p.params.length:Int):=by omega
    have gia:=nQ 7 gA p.params gx
    have hap:=ajn (most:=140737488355328 / 24) (sz:=2) aT (K++Ax.map λx=>(⟨u.aC,x.name⟩:aG)) ⟨u.aC,x.name⟩ σ (by
     rw[List.length_append,List.length_map]
     omega)
    have ar8:(K++(Ax++[x]).map λx=>(⟨u.aC,x.name⟩:aG))=(K++Ax.map λx=>(⟨u.aC,x.name⟩:aG))++[⟨u.aC,x.name⟩]:=by simp
    clear hl gx glt hx hlt Ar hl';rw[ar8];have hch:AV.sl 2 (fI 2 1 [AV.ah u.aC,AV.str x.name])=.sl 2 [aT ⟨u.aC,x.name⟩]:=rfl;simp only[aW,reduceCtorEq,Nk,RH,RJ,RL,RM,RN,RO,SK,Sy,NT,tC,tD,tE,tF,tH,tG,tJ,aru,gia,gi1];show(A.append 2 _ _ (AV.sl 2 [aT ⟨u.aC,x.name⟩]) _).bind _=_;rw[hap];simp only[aW,reduceCtorEq,gi1]
   ·intro s _;refine(HQ _ _ _).trans ?_;subst hq;rfl
   ·intro s _;simp only[aW,reduceCtorEq,hi1]
   ·intros;rename_i hb;cases hb
   ·rw[Dh]
  ·intro s _;exact HQ _ _ _
  ·intro s _;simp only[aW,reduceCtorEq,alQ BZ]
  ·intros;rename_i hb;cases hb
 ·refine wrap_eq rfl (v:=.aM [.az,.ah (mg r)]) ?_ (by rw[aP hf];rfl);show JB (.agg (lV r)) σ=_;unfold JB;simp only[aW,reduceCtorEq,AU,AW,A9,A5,Ba,RE r hok,hf]
theorem Yv(n:Int)(σ:Heap):M4 [.ah n] σ=some (.bool (bf n 0 65535),σ):=by refine wrap_eq rfl ?_ rfl;show Q8 (.ah n) σ=_;unfold Q8;simp only[aW,reduceCtorEq,lZ]
def Fm(s:ByteArray):Bool:=if s=⟨#[]⟩then true else Ku s
theorem aln(s:ByteArray)(hs:kO s)(σ:Heap):Rn [.str s] σ=some (.bool (Fm s),σ):=by
 refine wrap_eq rfl ?_ rfl;show Rv (.str s) σ=_;unfold Rv Fm;by_cases h:s=⟨#[]⟩
 ·simp only[aW,reduceCtorEq,h]
 ·simp only[aW,reduceCtorEq,h,aai s hs]
def ac5:fS:=⟨⟨#[]⟩,0,0,0,0,false,[]⟩
def TW(p:dZ)(nm:ByteArray):fS×Bool:=(p.params.find? λx=>decide (x.name=nm)).elim (ac5,false) λx=>(x,true)
def abR(r:je)(k:aG):fS×Bool:=(r.dB.find? λu=>decide (u.aC=k.unit)).elim (ac5,false) λu=>TW (l6 u.kK r.bw).1 k.param
end Go.Proofs.YtooknfkholjpbaaGreat
