/- Parts of the proof of CueMarksAreNotSeen, in order. -/
import Derived.Orders
import Derived.Below
import Derived.WalkKit
import Derived.Laws.StructEq
import Derived.Laws.Append
import Derived.Laws.AppendOwn
import Derived.Test.YtphgchakmkankaaRows
import Derived.KernelRfl
import Derived.Lib.Bytealg
import Derived.Sort.Defs
import Derived.Lib.BitFns
import Derived.Test.YtphgchakmkankaaShelf
import Derived.Lib.Overlaps
import Derived.IntWalk
import Derived.Lib.Strings
import Derived.Test.YtphgchakmkankaaKCueMarksAreNotSeen2
namespace Go.Proofs.Ytphgchakmkankaa
set_option linter.unusedVariables false
set_option linter.unusedSimpArgs false
set_option linter.unusedSectionVars false
section
set_option maxRecDepth 100000
noncomputable def Ig (a0:U) (σ:Heap):Option (U×Heap):=
 (jF [a0,aj,(U.int .i64 36000000)] σ).bind fun r1=>
 A.fin σ r1.1 r1.2
noncomputable def vD:List U→Heap→Option (U×Heap):=A.wrap true [] .k (A.fD Ig)
noncomputable def HU (a0 a1:U) (σ:Heap):Option (U×Heap):=
 (A.cells 2 a0).bind fun c1=>
 (A.cells 2 a1).bind fun c2=>
 (A.aq 0 c1).bind fun x3=>
 (A.aq 0 c2).bind fun x4=>
 (A.neq .i x3 x4).bind fun x5=>
 A.cond x5 (
  (A.aq 0 c1).bind fun x6=>
  (A.aq 0 c2).bind fun x7=>
  (A.lss x6 x7).bind fun x8=>
  A.cond x8 (
   A.fin σ (U.int .i64 (-1)) σ) (
   A.fin σ aR σ)) (
  (A.aq 1 c1).bind fun x9=>
  (A.aq 1 c2).bind fun bu=>
  (Ei [x9,bu] σ).bind fun cg=>
  A.fin σ cg.1 cg.2)
noncomputable def Eu:List U→Heap→Option (U×Heap):=A.wrap true [] .k (A.ep HU)
noncomputable def HH (a0:U) (σ:Heap):Option (U×Heap):=
 (A.bf a0).bind fun x1=>
 (A.loop (fun v2 s3=>
   (A.lss (v2.getD 1 U.undef) x1).bind fun x5=>
   A.cond x5 (
    (A.aU 8 a0 (v2.getD 1 U.undef)).bind fun x6=>
    ((A.deref x6 s3).bind fun c7=>A.aD 0 8 c7).bind fun x8=>
    (A.cells 8 x8).bind fun c9=>
    (A.splice 0 c9 [aj,bw,aj,aj,aP,aP,aj,aj]).bind fun fU=>
    (A.aq 0 fU).bind fun dc=>
    (jF [dc,aR,(U.int .i64 9999)] s3).bind fun su=>
    (A.not su.1).bind fun cm=>
    A.cond cm (
     some (AX.ret,[aR,(v2.getD 1 U.undef)],su.2)) (
     (A.aq 1 fU).bind fun cA=>
     (zP [cA] su.2).bind fun fR=>
     (A.not fR.1).bind fun bM=>
     A.cond bM (
      some (AX.ret,[(U.int .i64 5),(v2.getD 1 U.undef)],fR.2)) (
      (A.aq 4 fU).bind fun dI=>
      (A.guard dI true (A.aD 2 2 fU) ay).bind fun eL=>
      (A.guard dI true (some (U.agg [aj,aj])) ay).bind fun dw=>
      (A.guard dI true (A.neq (.s [0,0]) eL dw) ay).bind fun dJ=>
      (A.pick dI dJ aP).bind fun bC=>
      (A.guard bC false (A.aq 2 fU) ay).bind fun bT=>
      (A.guard bC false (A.neq .i bT aj) ay).bind fun eE=>
      (A.guard bC false (some eE) ay).bind fun x24=>
      (A.guard x24 true (A.aq 3 fU) ay).bind fun x25=>
      (A.guard x24 true (A.neq .i x25 aj) ay).bind fun dY=>
      (A.guard bC false (A.pick x24 dY aP) ay).bind fun dK=>
      (A.pick bC cq dK).bind fun x28=>
      A.cond x28 (
       some (AX.ret,[(U.int .i64 3),(v2.getD 1 U.undef)],fR.2)) (
       (A.aq 2 fU).bind fun x29=>
       (jF [x29,aj,(U.int .i64 65535)] fR.2).bind fun Bh=>
       (A.not Bh.1).bind fun x31=>
       (A.guard x31 false (A.aq 3 fU) ay).bind fun x32=>
       (A.guard x31 false (A.quiet (jF [x32,aj,(U.int .i64 999)] Bh.2) Bh.2) ay).bind fun mE=>
       (A.guard x31 false (A.not mE) ay).bind fun x34=>
       (A.pick x31 cq x34).bind fun gR=>
       A.cond gR (
        some (AX.ret,[aR,(v2.getD 1 U.undef)],Bh.2)) (
        (A.aq 5 fU).bind fun p7=>
        (A.not p7).bind fun dA=>
        (A.guard dA true (A.aq 6 fU) ay).bind fun x38=>
        (A.guard dA true (A.neq .i x38 aj) ay).bind fun iC=>
        (A.guard dA true (some iC) ay).bind fun eZ=>
        (A.guard eZ false (A.aq 7 fU) ay).bind fun mF=>
        (A.guard eZ false (A.neq .i mF aj) ay).bind fun gZ=>
        (A.guard dA true (A.pick eZ cq gZ) ay).bind fun iD=>
        (A.pick dA iD aP).bind fun jR=>
        A.cond jR (
         some (AX.ret,[(U.int .i64 3),(v2.getD 1 U.undef)],Bh.2)) (
         (A.aq 6 fU).bind fun gU=>
         (vD [gU] Bh.2).bind fun nA=>
         (A.not nA.1).bind fun fI=>
         (A.guard fI false (A.aq 7 fU) ay).bind fun iE=>
         (A.guard fI false (A.quiet (vD [iE] nA.2) nA.2) ay).bind fun i7=>
         (A.guard fI false (A.not i7) ay).bind fun fL=>
         (A.pick fI cq fL).bind fun eW=>
         A.cond eW (
          some (AX.ret,[aR,(v2.getD 1 U.undef)],nA.2)) (
          (A.gtr (v2.getD 1 U.undef) aj).bind fun fM=>
          (A.guard fM true (some a0) ay).bind fun nW=>
          (A.guard fM true (some (v2.getD 1 U.undef)) ay).bind fun gC=>
          (A.guard fM true (A.sub gC aR) ay).bind fun jj=>
          (A.guard fM true (A.aU 8 nW jj) ay).bind fun gD=>
          (A.guard fM true (A.bD 0 gD) ay).bind fun lg=>
          (A.guard fM true ((A.deref lg nA.2).bind fun C1=>A.aD 0 2 C1) ay).bind fun iO=>
          (A.guard fM true (A.aD 0 2 fU) ay).bind fun jk=>
          (A.guard fM true (A.quiet (Eu [iO,jk] nA.2) nA.2) ay).bind fun gE=>
          (A.guard fM true (A.geq gE aj) ay).bind fun gG=>
          (A.pick fM gG aP).bind fun ff=>
          A.cond ff (
           some (AX.ret,[(U.int .i64 7),(v2.getD 1 U.undef)],nA.2)) (
           (A.add (v2.getD 1 U.undef) aR).bind fun iP=>
           some (AX.normal,[(v2.getD 0 U.undef),iP],nA.2))))))))) (
    some (AX.exit 0,[(v2.getD 0 U.undef),(v2.getD 1 U.undef)],s3))) [aj,aj] σ).bind fun qN=>
 bif qN.1==AX.exit 0 then(
  A.fin σ aj qN.2.2)else
 bif qN.1==AX.ret then(
  A.fin σ (qN.2.1.getD 0 U.undef) qN.2.2)else
 none
noncomputable def HG:List U→Heap→Option (U×Heap):=A.wrap true [(.s 8)] .k (A.fD HH)
noncomputable def IQ (a0:U) (σ:Heap):Option (U×Heap):=
 (A.bf a0).bind fun x1=>
 (A.gtr x1 (U.int .i64 300)).bind fun x2=>
 A.cond x2 (
  A.fin σ (U.int .i64 2) σ) (
  (A.bf a0).bind fun x3=>
  (A.loop (fun v4 s5=>
    (A.lss (v4.getD 2 U.undef) x3).bind fun x7=>
    A.cond x7 (
     (A.aU 11 a0 (v4.getD 2 U.undef)).bind fun x8=>
     ((A.deref x8 s5).bind fun c9=>A.aD 0 11 c9).bind fun bu=>
     (A.cells 11 bu).bind fun gz=>
     (A.splice 0 gz [aj,bw,aj,aj,aj,aj,aj,U.aB,aP,aj,U.aB]).bind fun cU=>
     (A.aq 0 cU).bind fun cm=>
     (jF [cm,aR,(U.int .i64 9999999)] s5).bind fun gB=>
     (A.not gB.1).bind fun dR=>
     A.cond dR (
      some (AX.ret,[aR,(v4.getD 1 U.undef),(v4.getD 2 U.undef)],gB.2)) (
      (A.gtr (v4.getD 2 U.undef) aj).bind fun bM=>
      (A.guard bM true (A.aq 0 cU) ay).bind fun dI=>
      (A.guard bM true (some a0) ay).bind fun eL=>
      (A.guard bM true (some (v4.getD 2 U.undef)) ay).bind fun dw=>
      (A.guard bM true (A.sub dw aR) ay).bind fun dJ=>
      (A.guard bM true (A.aU 11 eL dJ) ay).bind fun bC=>
      (A.guard bM true (A.bD 0 bC) ay).bind fun bT=>
      (A.guard bM true ((A.deref bT gB.2).bind fun iY=>A.aq 0 iY) ay).bind fun x24=>
      (A.guard bM true (A.leq dI x24) ay).bind fun x25=>
      (A.pick bM x25 aP).bind fun dY=>
      A.cond dY (
       some (AX.ret,[(U.int .i64 7),(v4.getD 1 U.undef),(v4.getD 2 U.undef)],gB.2)) (
       (A.aq 1 cU).bind fun dK=>
       (A.neq .z dK bw).bind fun x28=>
       (A.guard x28 true (A.aq 1 cU) ay).bind fun x29=>
       (A.guard x28 true (A.quiet (EC [x29] gB.2) gB.2) ay).bind fun eM=>
       (A.guard x28 true (A.not eM) ay).bind fun x31=>
       (A.pick x28 x31 aP).bind fun x32=>
       A.cond x32 (
        some (AX.ret,[(U.int .i64 3),(v4.getD 1 U.undef),(v4.getD 2 U.undef)],gB.2)) (
        (A.aq 2 cU).bind fun mE=>
        (vD [mE] gB.2).bind fun kF=>
        (A.not kF.1).bind fun gR=>
        (A.guard gR false (A.aq 3 cU) ay).bind fun p7=>
        (A.guard gR false (A.quiet (vD [p7] kF.2) kF.2) ay).bind fun dA=>
        (A.guard gR false (A.not dA) ay).bind fun x38=>
        (A.pick gR cq x38).bind fun iC=>
        (A.guard iC false (A.aq 4 cU) ay).bind fun eZ=>
        (A.guard iC false (A.quiet (vD [eZ] kF.2) kF.2) ay).bind fun mF=>
        (A.guard iC false (A.not mF) ay).bind fun gZ=>
        (A.pick iC cq gZ).bind fun iD=>
        (A.guard iD false (A.aq 5 cU) ay).bind fun jR=>
        (A.guard iD false (A.quiet (vD [jR] kF.2) kF.2) ay).bind fun gU=>
        (A.guard iD false (A.not gU) ay).bind fun lU=>
        (A.pick iD cq lU).bind fun fI=>
        (A.guard fI false (A.aq 9 cU) ay).bind fun iE=>
        (A.guard fI false (A.quiet (jF [iE,(U.int .i64 (-1)),(U.int .i64 36000000)] kF.2) kF.2) ay).bind fun i7=>
        (A.guard fI false (A.not i7) ay).bind fun fL=>
        (A.pick fI cq fL).bind fun eW=>
        A.cond eW (
         some (AX.ret,[aR,(v4.getD 1 U.undef),(v4.getD 2 U.undef)],kF.2)) (
         (A.aD 6 2 cU).bind fun fM=>
         (HC [fM] kF.2).bind fun kX=>
         (A.neq .i kX.1 aj).bind fun gC=>
         A.cond gC (
          some (AX.ret,[kX.1,(v4.getD 1 U.undef),(v4.getD 2 U.undef)],kX.2)) (
          (A.aq 10 cU).bind fun jj=>
          (A.bf jj).bind fun gD=>
          (A.gtr gD (U.int .i64 2000)).bind fun lg=>
          A.cond lg (
           some (AX.ret,[(U.int .i64 2),(v4.getD 1 U.undef),(v4.getD 2 U.undef)],kX.2)) (
           (A.aq 10 cU).bind fun eF=>
           (HG [eF] kX.2).bind fun G6=>
           (A.neq .i G6.1 aj).bind fun jk=>
           A.cond jk (
            some (AX.ret,[G6.1,(v4.getD 1 U.undef),(v4.getD 2 U.undef)],G6.2)) (
            (A.aq 10 cU).bind fun gE=>
            (A.bf gE).bind fun gG=>
            (A.add (v4.getD 1 U.undef) gG).bind fun ff=>
            (A.add (v4.getD 2 U.undef) aR).bind fun iP=>
            some (AX.normal,[(v4.getD 0 U.undef),ff,iP],G6.2))))))))) (
     some (AX.exit 0,[(v4.getD 0 U.undef),(v4.getD 1 U.undef),(v4.getD 2 U.undef)],s5))) [aj,aj,aj] σ).bind fun qN=>
  bif qN.1==AX.exit 0 then(
   (A.gtr (qN.2.1.getD 1 U.undef) (U.int .i64 10000)).bind fun iQ=>
   (BC [iQ,(U.int .i64 2)] qN.2.2).bind fun T4=>
   A.fin σ T4.1 T4.2)else
  bif qN.1==AX.ret then(
   A.fin σ (qN.2.1.getD 0 U.undef) qN.2.2)else
  none)
noncomputable def zS:List U→Heap→Option (U×Heap):=A.wrap true [(.e 11 iy)] .k (A.fD IQ)
noncomputable def HL (a0 a1 a2:U) (σ:Heap):Option (U×Heap):=
 (A.cells 2 a0).bind fun c1=>
 (A.aD 0 2 c1).bind fun x2=>
 (HA [x2,a1] σ).bind fun r3=>
 (zS [a2] r3.2).bind fun r4=>
 ((((A.cell r3.1).bind fun v=>some [v]).bind fun c5=>(A.splice 0 c5 [aj,aj]).bind fun c6=>((A.cell r4.1).bind fun v=>some [v]).bind fun c7=>(A.splice 1 c7 c6).bind fun c8=>some c8).bind fun cs=>some (U.sl 1 (chunks 1 2 cs))).bind fun x9=>
 (EB [x9] r4.2).bind fun fF=>
 (A.neq .i fF.1 aj).bind fun dc=>
 A.cond dc (
  A.fin σ fF.1 fF.2) (
  (A.aD 0 2 c1).bind fun cE=>
  (Ep [cE] fF.2).bind fun gQ=>
  (A.ext 0 gQ.1).bind fun cA=>
  (A.ext 1 gQ.1).bind fun dR=>
  (A.bf cA).bind fun bM=>
  (A.loop (fun v17 qO=>
    (A.lss (v17.getD 0 U.undef) bM).bind fun dJ=>
    A.cond dJ (
     (A.aU 2 cA (v17.getD 0 U.undef)).bind fun bC=>
     ((A.deref bC qO).bind fun nO=>A.aD 0 2 nO).bind fun eE=>
     (A.cells 2 eE).bind fun eB=>
     (A.splice 0 eB [aj,bw]).bind fun jD=>
     (A.aD 0 2 jD).bind fun dY=>
     (A.eU (.s [0,2]) (U.om gQ.2.length) dY cq qO).bind fun h27=>
     (A.add (v17.getD 0 U.undef) aR).bind fun x28=>
     some (AX.normal,[x28],h27)) (
     some (AX.exit 0,[(v17.getD 0 U.undef)],qO))) [aj] (gQ.2++[aO.map []])).bind fun mC=>
  bif mC.1==AX.exit 0 then(
   (A.bf a2).bind fun eM=>
   (A.loop (fun v31 jQ=>
     (A.lss (v31.getD 1 U.undef) eM).bind fun x34=>
     A.cond x34 (
      (A.aU 11 a2 (v31.getD 1 U.undef)).bind fun gR=>
      ((A.deref gR jQ).bind fun kU=>A.aD 0 11 kU).bind fun dA=>
      (A.cells 11 dA).bind fun uU=>
      (A.splice 0 uU [aj,bw,aj,aj,aj,aj,aj,U.aB,aP,aj,U.aB]).bind fun kV=>
      (A.aq 10 kV).bind fun eZ=>
      (A.bf eZ).bind fun mF=>
      (A.loop (fun xw DG=>
        (A.lss (xw.getD 1 U.undef) mF).bind fun gU=>
        A.cond gU (
         (A.aU 8 eZ (xw.getD 1 U.undef)).bind fun lU=>
         ((A.deref lU DG).bind fun rW=>A.aD 0 8 rW).bind fun iE=>
         (A.cells 8 iE).bind fun yS=>
         (A.splice 0 yS [aj,bw,aj,aj,aP,aP,aj,aj]).bind fun ng=>
         (A.aD 0 2 ng).bind fun eW=>
         (A.look (.s [0,2]) (U.om gQ.2.length) eW aP DG).bind fun fM=>
         (A.not fM).bind fun nW=>
         A.cond nW (
          some (AX.ret,[(U.int .i64 8),(xw.getD 1 U.undef)],DG)) (
          (A.aD 0 2 ng).bind fun gC=>
          (A.aD 2 2 ng).bind fun jj=>
          (BA [a1,gC,jj] DG).bind fun G5=>
          (A.ext 0 G5.1).bind fun lg=>
          (A.ext 1 G5.1).bind fun eF=>
          (A.neq .i eF aj).bind fun iO=>
          A.cond iO (
           some (AX.ret,[eF,(xw.getD 1 U.undef)],G5.2)) (
           (A.add (xw.getD 1 U.undef) aR).bind fun jk=>
           some (AX.normal,[(xw.getD 0 U.undef),jk],G5.2)))) (
         some (AX.exit 4,[(xw.getD 0 U.undef),(xw.getD 1 U.undef)],DG))) [(v31.getD 0 U.undef),aj] jQ).bind fun oK=>
      bif oK.1==AX.exit 4 then(
       (A.add (v31.getD 1 U.undef) aR).bind fun gG=>
       some (AX.normal,[(oK.2.1.getD 0 U.undef),gG],oK.2.2))else
      bif oK.1==AX.ret then(
       some (AX.ret,[(oK.2.1.getD 0 U.undef),(v31.getD 1 U.undef)],oK.2.2))else
      none) (
      some (AX.exit 2,[(v31.getD 0 U.undef),(v31.getD 1 U.undef)],jQ))) [aj,aj] mC.2.2).bind fun DF=>
   bif DF.1==AX.exit 2 then(
    A.fin σ aj DF.2.2)else
   bif DF.1==AX.ret then(
    A.fin σ (DF.2.1.getD 0 U.undef) DF.2.2)else
   none)else
  none)
noncomputable def Bv:List U→Heap→Option (U×Heap):=A.wrap true [(.a [(.e 3 jL),(.s 4)]),tj,(.e 11 iy)] .k (A.fE HL)
noncomputable def HV (a0 a1:U) (σ:Heap):Option (U×Heap):=
 (A.cells 3 a0).bind fun c1=>
 (A.aq 0 c1).bind fun x2=>
 (A.bD 1 a1).bind fun x3=>
 ((A.deref x3 σ).bind fun c4=>A.aq 0 c4).bind fun x5=>
 (A.eql .z x2 x5).bind fun x6=>
 A.fin σ x6 σ
noncomputable def qh:List U→Heap→Option (U×Heap):=A.wrap true [(.a jL)] .k (A.ep HV)
noncomputable def Is (a0:U) (σ:Heap):Option (U×Heap):=
 (A.bf a0).bind fun x1=>
 (A.loop (fun v2 s3=>
   (A.lss (v2.getD 0 U.undef) x1).bind fun x5=>
   A.cond x5 (
    (A.aU 11 a0 (v2.getD 0 U.undef)).bind fun x6=>
    ((A.deref x6 s3).bind fun c7=>A.aD 0 11 c7).bind fun x8=>
    (A.cells 11 x8).bind fun c9=>
    (A.splice 0 c9 [aj,bw,aj,aj,aj,aj,aj,U.aB,aP,aj,U.aB]).bind fun fU=>
    (A.aq 10 fU).bind fun dc=>
    (A.bf dc).bind fun cE=>
    (A.loop (fun fH p5=>
      (A.lss (fH.getD 1 U.undef) cE).bind fun bM=>
      A.cond bM (
       (A.aU 8 dc (fH.getD 1 U.undef)).bind fun dI=>
       ((A.deref dI p5).bind fun eP=>A.aD 0 8 eP).bind fun dw=>
       (A.cells 8 dw).bind fun iN=>
       (A.splice 0 iN [aj,bw,aj,aj,aP,aP,aj,aj]).bind fun gO=>
       (A.aq 4 gO).bind fun bT=>
       (A.cond bT (
        (A.aD 0 2 gO).bind fun x24=>
        (A.yG (.s [0,2]) (U.om σ.length) x24 p5).bind fun h25=>
        some ([(fH.getD 0 U.undef)],h25)) (
        (A.aD 0 2 gO).bind fun dY=>
        (A.aD 0 2 gO).bind fun dK=>
        (A.aD 2 2 gO).bind fun x28=>
        ((A.lb (fH.getD 0 U.undef)).bind fun _=>some (0)).bind fun p29=>
        ((A.lb (fH.getD 0 U.undef)).bind fun CY=>A.aq p29 CY).bind fun x31=>
        (((A.cells 2 dK).bind fun C0=>(A.splice 0 C0 [aj,bw,aj,aj,aj]).bind fun wW=>(A.cells 2 x28).bind fun Lz=>(A.splice 2 Lz wW).bind fun rU=>((A.cell x31).bind fun v=>some [v]).bind fun kU=>(A.splice 4 kU rU).bind fun yR=>some yR).bind fun cs=>some (U.agg cs)).bind fun x38=>
        (A.eU (.s [0,2]) (U.om σ.length) dY x38 p5).bind fun h39=>
        some ([(fH.getD 0 U.undef)],h39))).bind fun jh=>
       (A.add (fH.getD 1 U.undef) aR).bind fun eZ=>
       some (AX.normal,[(jh.1.getD 0 U.undef),eZ],jh.2)) (
       some (AX.exit 2,[(fH.getD 0 U.undef),(fH.getD 1 U.undef)],p5))) [(U.lbx fU),aj] s3).bind fun zj=>
    bif zj.1==AX.exit 2 then(
     (A.add (v2.getD 0 U.undef) aR).bind fun gZ=>
     some (AX.normal,[gZ],zj.2.2))else
    none) (
    some (AX.exit 0,[(v2.getD 0 U.undef)],s3))) [aj] (σ++[aO.map []])).bind fun xq=>
 bif xq.1==AX.exit 0 then(
  A.fin σ (U.om σ.length) xq.2.2)else
 none
noncomputable def vH:List U→Heap→Option (U×Heap):=A.wrap true [(.e 11 iy)] .k (A.fD Is)
noncomputable def HI (a0 a1:U) (σ:Heap):Option (U×Heap):=
 (A.cells 3 a0).bind fun c1=>
 (A.aq 0 c1).bind fun x2=>
 (A.bD 1 a1).bind fun x3=>
 ((A.deref x3 σ).bind fun c4=>A.aq 0 c4).bind fun x5=>
 (A.eql .z x2 x5).bind fun x6=>
 A.fin σ x6 σ
noncomputable def vC:List U→Heap→Option (U×Heap):=A.wrap true [(.a jL)] .k (A.ep HI)
noncomputable def EF (a0 a1 a2:U) (σ:Heap):Option (U×Heap):=
 (A.cells 2 a0).bind fun c1=>
 (A.aq 1 c1).bind fun x2=>
 (A.bf x2).bind fun x3=>
 (A.loop (fun v4 s5=>
   (A.lss (v4.getD 2 U.undef) x3).bind fun x7=>
   A.cond x7 (
    (A.aU 4 x2 (v4.getD 2 U.undef)).bind fun x8=>
    ((A.deref x8 s5).bind fun c9=>A.aD 0 4 c9).bind fun bu=>
    (A.cells 4 bu).bind fun gz=>
    (A.storeAt (U.op s5.length 0) gz (s5++[aO.box [aj,bw,aj,aj]])).bind fun cU=>
    ((A.lb (v4.getD 0 U.undef)).bind fun _=>some (0)).bind fun Mh=>
    ((A.lb (v4.getD 0 U.undef)).bind fun jC=>A.aq Mh jC).bind fun dR=>
    (tY (A.tab (fun _ _=>none) [(226,vC),(226,vC)]) [dR,(U.fn 226 [(U.op s5.length 0)])] cU).bind fun qI=>
    ((A.lb (v4.getD 0 U.undef)).bind fun _=>some (0)).bind fun p17=>
    ((A.lb (v4.getD 0 U.undef)).bind fun eP=>A.aq p17 eP).bind fun dw=>
    (A.aU 3 dw qI.1).bind fun dJ=>
    (A.bD 2 dJ).bind fun bC=>
    ((A.deref bC qI.2).bind fun nO=>A.aq 0 nO).bind fun eE=>
    (A.bf eE).bind fun x24=>
    (A.loop (fun v25 sy=>
      (A.lss (v25.getD 2 U.undef) x24).bind fun x28=>
      A.cond x28 (
       (A.aU 7 eE (v25.getD 2 U.undef)).bind fun x29=>
       ((A.deref x29 sy).bind fun CY=>A.aD 0 7 CY).bind fun x31=>
       (A.cells 7 x31).bind fun C0=>
       (A.splice 0 C0 [bw,aj,aj,aj,aj,aP,U.aB]).bind fun wW=>
       (A.bD 0 (U.op s5.length 0)).bind fun x34=>
       ((A.deref x34 sy).bind fun rU=>A.aq 0 rU).bind fun p7=>
       (A.aq 0 wW).bind fun dA=>
       ((((A.cell p7).bind fun v=>some [v]).bind fun uU=>(A.splice 0 uU [aj,bw]).bind fun kV=>((A.cell dA).bind fun v=>some [v]).bind fun A3=>(A.splice 1 A3 kV).bind fun mu=>some mu).bind fun cs=>some (U.agg cs)).bind fun gZ=>
       (A.cells 2 gZ).bind fun pP=>
       (A.splice 0 pP [aj,bw]).bind fun oC=>
       (A.aq 4 wW).bind fun gU=>
       (A.aD 0 2 oC).bind fun lU=>
       (A.Az (.s [0,2]) a2 lU (U.agg [aj,bw,aj,aj,aj]) sy).bind fun fI=>
       (A.ext 0 fI).bind fun iE=>
       (A.ext 1 fI).bind fun i7=>
       (A.cells 5 iE).bind fun ng=>
       (A.splice 0 ng [aj,bw,aj,aj,aj]).bind fun c51=>
       (A.cond i7 (
        (A.aD 0 2 oC).bind fun nW=>
        (A.aD 2 2 c51).bind fun gC=>
        (BA [a1,nW,gC] sy).bind fun Bi=>
        (A.ext 0 Bi.1).bind fun gD=>
        (A.ext 1 Bi.1).bind fun lg=>
        some ([(v25.getD 0 U.undef),(U.lbx oC),gD],Bi.2)) (
        some ([(v25.getD 0 U.undef),(U.lbx oC),gU],sy))).bind fun xu=>
       ((A.lb (xu.1.getD 1 U.undef)).bind fun C1=>A.aD 0 2 C1).bind fun iO=>
       (((A.cells 2 iO).bind fun C2=>(A.splice 0 C2 [aj,bw,aj]).bind fun C3=>((A.cell (xu.1.getD 2 U.undef)).bind fun v=>some [v]).bind fun LB=>(A.splice 2 LB C3).bind fun uV=>some uV).bind fun cs=>some (U.agg cs)).bind fun iP=>
       (((A.cells 3 iP).bind fun C5=>(A.splice 0 C5 [aj,bw,aj]).bind fun mw=>some mw).bind fun cs=>some (U.sl 3 (chunks 3 1 cs))).bind fun gH=>
       (A.append 3 (140737488355328 / 32) (v25.getD 1 U.undef) gH xu.2).bind fun tV=>
       (A.add (v25.getD 2 U.undef) aR).bind fun fV=>
       some (AX.normal,[(xu.1.getD 0 U.undef),tV.1,fV],tV.2)) (
       some (AX.exit 2,[(v25.getD 0 U.undef),(v25.getD 1 U.undef),(v25.getD 2 U.undef)],sy))) [(v4.getD 0 U.undef),(v4.getD 1 U.undef),aj] qI.2).bind fun zm=>
    bif zm.1==AX.exit 2 then(
     (A.add (v4.getD 2 U.undef) aR).bind fun sD=>
     some (AX.normal,[(zm.2.1.getD 0 U.undef),(zm.2.1.getD 1 U.undef),sD],zm.2.2))else
    none) (
    some (AX.exit 0,[(v4.getD 0 U.undef),(v4.getD 1 U.undef),(v4.getD 2 U.undef)],s5))) [(U.lbx c1),U.aB,aj] σ).bind fun Bk=>
 bif Bk.1==AX.exit 0 then(
  A.fin σ (Bk.2.1.getD 1 U.undef) Bk.2.2)else
 none
noncomputable def vE:List U→Heap→Option (U×Heap):=A.wrap true [(.a [(.e 3 jL),(.s 4)]),tj] (.s 3) (A.fE EF)
noncomputable def Fa (a0 a1 a2:U) (σ:Heap):Option (U×Heap):=
 (A.cells 2 a0).bind fun c1=>
 ((((A.cell (U.om σ.length)).bind fun v=>some [v]).bind fun c2=>(A.splice 0 c2 [U.nm,U.aB,U.nm]).bind fun c3=>((A.cell (U.om (σ++[aO.map []]).length)).bind fun v=>some [v]).bind fun c4=>(A.splice 2 c4 c3).bind fun c5=>some c5).bind fun cs=>some (U.agg cs)).bind fun x6=>
 (A.cells 3 x6).bind fun c7=>
 (A.aq 1 c1).bind fun x8=>
 (A.bf x8).bind fun x9=>
 (A.loop (fun v10 fS=>
   (A.lss (v10.getD 1 U.undef) x9).bind fun cm=>
   A.cond cm (
    (A.aU 4 x8 (v10.getD 1 U.undef)).bind fun cA=>
    ((A.deref cA fS).bind fun iz=>A.aD 0 4 iz).bind fun bM=>
    (A.cells 4 bM).bind fun kS=>
    (A.storeAt (U.op fS.length 0) kS (fS++[aO.box [aj,bw,aj,aj]])).bind fun eP=>
    ((A.lb (v10.getD 0 U.undef)).bind fun _=>some (0)).bind fun DA=>
    ((A.lb (v10.getD 0 U.undef)).bind fun iN=>A.aq DA iN).bind fun bC=>
    (tY (A.tab (fun _ _=>none) [(225,qh),(225,qh)]) [bC,(U.fn 225 [(U.op fS.length 0)])] eP).bind fun nT=>
    ((A.lb (v10.getD 0 U.undef)).bind fun _=>some (0)).bind fun Mj=>
    ((A.lb (v10.getD 0 U.undef)).bind fun eB=>A.aq Mj eB).bind fun x25=>
    (A.aU 3 x25 nT.1).bind fun dY=>
    (A.bD 2 dY).bind fun dK=>
    ((A.deref dK nT.2).bind fun nP=>A.aq 0 nP).bind fun x29=>
    (A.bf x29).bind fun eM=>
    (A.loop (fun v31 jQ=>
      (A.lss (v31.getD 1 U.undef) eM).bind fun x34=>
      A.cond x34 (
       (A.aU 7 x29 (v31.getD 1 U.undef)).bind fun gR=>
       ((A.deref gR jQ).bind fun kU=>A.aD 0 7 kU).bind fun dA=>
       (A.cells 7 dA).bind fun uU=>
       (A.splice 0 uU [bw,aj,aj,aj,aj,aP,U.aB]).bind fun kV=>
       (A.bD 0 (U.op fS.length 0)).bind fun eZ=>
       ((A.deref eZ jQ).bind fun mu=>A.aq 0 mu).bind fun gZ=>
       (A.aq 0 kV).bind fun iD=>
       ((((A.cell gZ).bind fun v=>some [v]).bind fun oC=>(A.splice 0 oC [aj,bw]).bind fun rV=>((A.cell iD).bind fun v=>some [v]).bind fun nQ=>(A.splice 1 nQ rV).bind fun rW=>some rW).bind fun cs=>some (U.agg cs)).bind fun iE=>
       (A.cells 2 iE).bind fun yS=>
       (A.splice 0 yS [aj,bw]).bind fun ng=>
       (A.eT (U.op ((σ++[aO.map []])++[aO.map []]).length 0)).bind fun eW=>
       (A.bD 0 eW).bind fun fM=>
       ((A.deref fM jQ).bind fun rX=>A.aq 0 rX).bind fun gC=>
       (A.aD 0 2 ng).bind fun jj=>
       (A.aq 1 kV).bind fun gD=>
       (A.eU (.s [0,2]) gC jj gD jQ).bind fun jg=>
       (A.aq 1 kV).bind fun eF=>
       (A.eql .i eF aR).bind fun iO=>
       (A.cond iO (
        (A.eT (U.op ((σ++[aO.map []])++[aO.map []]).length 0)).bind fun gE=>
        (A.bD 2 gE).bind fun gG=>
        ((A.deref gG jg).bind fun uV=>A.aq 0 uV).bind fun iP=>
        (A.bD 0 (U.op fS.length 0)).bind fun dS=>
        ((A.deref dS jg).bind fun mw=>A.aq 0 mw).bind fun gH=>
        (A.eT (U.op ((σ++[aO.map []])++[aO.map []]).length 0)).bind fun jl=>
        (A.bD 2 jl).bind fun fV=>
        ((A.deref fV jg).bind fun yU=>A.aq 0 yU).bind fun sD=>
        (A.bD 0 (U.op fS.length 0)).bind fun jm=>
        ((A.deref jm jg).bind fun C6=>A.aq 0 C6).bind fun jo=>
        (A.look .i sD jo U.aB jg).bind fun iR=>
        (A.aD 0 2 ng).bind fun jS=>
        (((A.cells 2 jS).bind fun C7=>(A.splice 0 C7 [aj,bw]).bind fun yV=>some yV).bind fun cs=>some (U.sl 2 (chunks 2 1 cs))).bind fun sE=>
        (A.append 2 (140737488355328 / 24) iR sE jg).bind fun kG=>
        (A.eU .i iP gH kG.1 kG.2).bind fun Db=>
        some ([(v31.getD 0 U.undef)],Db)) (
        some ([(v31.getD 0 U.undef)],jg))).bind fun qM=>
       (A.add (v31.getD 1 U.undef) aR).bind fun zA=>
       some (AX.normal,[(qM.1.getD 0 U.undef),zA],qM.2)) (
       some (AX.exit 2,[(v31.getD 0 U.undef),(v31.getD 1 U.undef)],jQ))) [(v10.getD 0 U.undef),aj] nT.2).bind fun pZ=>
    bif pZ.1==AX.exit 2 then(
     (A.add (v10.getD 1 U.undef) aR).bind fun My=>
     some (AX.normal,[(pZ.2.1.getD 0 U.undef),My],pZ.2.2))else
    none) (
    some (AX.exit 0,[(v10.getD 0 U.undef),(v10.getD 1 U.undef)],fS))) [(U.lbx c1),aj] (((σ++[aO.map []])++[aO.map []])++[aO.box c7])).bind fun Mo=>
 bif Mo.1==AX.exit 0 then(
  (A.bf a2).bind fun DU=>
  (A.loop (fun v87 kY=>
    (A.lss (v87.getD 1 U.undef) DU).bind fun x90=>
    A.cond x90 (
     ((A.lb (v87.getD 0 U.undef)).bind fun uW=>A.aD 0 2 uW).bind fun MC=>
     (A.add (v87.getD 1 U.undef) aR).bind fun x93=>
     (A.bN 11 a2 none (some x93) (kY++[aO.map []])).bind fun MD=>
     (A.quiet (vH [MD] (kY++[aO.map []])) (kY++[aO.map []])).bind fun x95=>
     (A.quiet (vE [MC,a1,x95] (kY++[aO.map []])) (kY++[aO.map []])).bind fun x96=>
     (A.bf x96).bind fun ME=>
     (A.loop (fun kI sB=>
       (A.lss (kI.getD 1 U.undef) ME).bind fun x101=>
       A.cond x101 (
        (A.aU 3 x96 (kI.getD 1 U.undef)).bind fun x102=>
        ((A.deref x102 sB).bind fun yy=>A.aD 0 3 yy).bind fun x104=>
        (A.cells 3 x104).bind fun yz=>
        (A.splice 0 yz [aj,bw,aj]).bind fun rO=>
        (A.aD 0 2 rO).bind fun CT=>
        (A.aq 2 rO).bind fun yJ=>
        (A.eU (.s [0,2]) (U.om kY.length) CT yJ sB).bind fun CE=>
        (A.add (kI.getD 1 U.undef) aR).bind fun CU=>
        some (AX.normal,[(kI.getD 0 U.undef),CU],CE)) (
        some (AX.exit 6,[(kI.getD 0 U.undef),(kI.getD 1 U.undef)],sB))) [(v87.getD 0 U.undef),aj] (kY++[aO.map []])).bind fun uM=>
     bif uM.1==AX.exit 6 then(
      (A.eT (U.op ((σ++[aO.map []])++[aO.map []]).length 0)).bind fun x112=>
      (A.bD 1 x112).bind fun x113=>
      ((A.deref x113 uM.2.2).bind fun KQ=>A.aq 0 KQ).bind fun x115=>
      ((((A.cell (U.om kY.length)).bind fun v=>some [v]).bind fun Cy=>(A.splice 0 Cy [U.nm]).bind fun Cz=>some Cz).bind fun cs=>some (U.sl 1 (chunks 1 1 cs))).bind fun Lq=>
      (A.append 1 (140737488355328 / 8) x115 Lq uM.2.2).bind fun CS=>
      (A.eT (U.op ((σ++[aO.map []])++[aO.map []]).length 0)).bind fun Ls=>
      (A.bD 1 Ls).bind fun Lu=>
      ((A.cell CS.1).bind fun v=>some [v]).bind fun KR=>
      (A.storeAt Lu KR CS.2).bind fun KT=>
      (A.add (v87.getD 1 U.undef) aR).bind fun Lv=>
      some (AX.normal,[(uM.2.1.getD 0 U.undef),Lv],KT))else
     none) (
     some (AX.exit 4,[(v87.getD 0 U.undef),(v87.getD 1 U.undef)],kY))) [(Mo.2.1.getD 0 U.undef),aj] Mo.2.2).bind fun S7=>
  bif S7.1==AX.exit 4 then(
   A.fin σ (U.op ((σ++[aO.map []])++[aO.map []]).length 0) S7.2.2)else
  none)else
 none
noncomputable def E5:List U→Heap→Option (U×Heap):=A.wrap true [(.a [(.e 3 jL),(.s 4)]),tj,(.e 11 iy)] .k (A.fE Fa)
noncomputable def Hz (a0 a1 a2:U) (σ:Heap):Option (U×Heap):=
 (A.cells 2 a0).bind fun c1=>
 ((A.deref a1 σ).bind fun c2=>A.aq 0 c2).bind fun x3=>
 (A.eT x3).bind fun x4=>
 (A.bD 1 x4).bind fun x5=>
 ((A.deref x5 σ).bind fun c6=>A.aq 0 c6).bind fun x7=>
 ((A.deref a2 σ).bind fun c8=>A.aq 0 c8).bind fun x9=>
 (A.aU 1 x7 x9).bind fun bu=>
 ((A.deref bu σ).bind fun gz=>A.aq 0 gz).bind fun cE=>
 (A.aD 0 2 c1).bind fun cm=>
 (A.look (.s [0,2]) cE cm aj σ).bind fun cA=>
 (A.gtr cA aj).bind fun dR=>
 A.fin σ dR σ
noncomputable def qg:List U→Heap→Option (U×Heap):=A.wrap true [] .k (A.fE Hz)
noncomputable def Em (a0 a1 a2:U) (σ:Heap):Option (U×Heap):=
 (((A.cell a0).bind fun v=>some [v]).bind fun cs=>some (U.rp cs)).bind fun x1=>
 (((A.cell a2).bind fun v=>some [v]).bind fun cs=>some (U.rp cs)).bind fun x2=>
 ((A.deref x1 σ).bind fun c3=>A.aq 0 c3).bind fun x4=>
 (A.eT x4).bind fun x5=>
 (A.bD 2 x5).bind fun x6=>
 ((A.deref x6 σ).bind fun c7=>A.aq 0 c7).bind fun x8=>
 (A.look .i x8 a1 U.aB σ).bind fun x9=>
 (A.bf x9).bind fun bu=>
 (A.gtr bu aj).bind fun dc=>
 (A.guard dc true (some x9) ay).bind fun cE=>
 (A.guard dc true (some (U.fn 229 [x1,x2])) ay).bind fun cm=>
 (A.guard dc true (A.quiet (D2 (A.tab (fun _ _=>none) [(229,qg),(229,qg)]) [cE,cm] σ) σ) ay).bind fun cA=>
 (A.guard dc true (A.not cA) ay).bind fun dR=>
 (A.pick dc dR aP).bind fun bM=>
 A.fin σ bM σ
noncomputable def oN:List U→Heap→Option (U×Heap):=A.wrap true [] .k (A.fE Em)
noncomputable def Ek (a0 a1 a2:U) (σ:Heap):Option (U×Heap):=
 (A.cells 11 a1).bind fun c1=>
 (A.aq 10 c1).bind fun x2=>
 (A.bf x2).bind fun x3=>
 (A.loop (fun v4 s5=>
   (A.lss (v4.getD 1 U.undef) x3).bind fun x7=>
   A.cond x7 (
    (A.aU 8 x2 (v4.getD 1 U.undef)).bind fun x8=>
    ((A.deref x8 s5).bind fun c9=>A.aD 0 8 c9).bind fun bu=>
    (A.cells 8 bu).bind fun gz=>
    (A.splice 0 gz [aj,bw,aj,aj,aP,aP,aj,aj]).bind fun cU=>
    (A.aq 0 cU).bind fun cm=>
    (A.eql .i cm a2).bind fun cA=>
    (A.guard cA true (some a0) ay).bind fun dR=>
    (A.guard cA true (A.eT dR) ay).bind fun bM=>
    (A.guard cA true (A.bD 0 bM) ay).bind fun dI=>
    (A.guard cA true ((A.deref dI s5).bind fun eP=>A.aq 0 eP) ay).bind fun dw=>
    (A.guard cA true (A.aD 0 2 cU) ay).bind fun dJ=>
    (A.guard cA true (A.look (.s [0,2]) dw dJ aj s5) ay).bind fun bC=>
    (A.guard cA true (A.neq .i bC aR) ay).bind fun bT=>
    (A.pick cA bT aP).bind fun eE=>
    (A.cond eE (
     (A.aD 0 8 cU).bind fun x25=>
     (((A.cells 8 x25).bind fun jO=>(A.splice 0 jO [aj,bw,aj,aj,aP,aP,aj,aj]).bind fun CW=>some CW).bind fun cs=>some (U.sl 8 (chunks 8 1 cs))).bind fun x28=>
     (A.append 8 (140737488355328 / 64) (v4.getD 0 U.undef) x28 s5).bind fun mC=>
     some ([mC.1],mC.2)) (
     some ([(v4.getD 0 U.undef)],s5))).bind fun nw=>
    (A.add (v4.getD 1 U.undef) aR).bind fun eM=>
    some (AX.normal,[(nw.1.getD 0 U.undef),eM],nw.2)) (
    some (AX.exit 0,[(v4.getD 0 U.undef),(v4.getD 1 U.undef)],s5))) [U.aB,aj] σ).bind fun cZ=>
 bif cZ.1==AX.exit 0 then(
  some ((cZ.2.1.getD 0 U.undef),cZ.2.2))else
 none
noncomputable def nD:List U→Heap→Option (U×Heap):=A.wrap true [.k,(.a iy)] .k (A.fE Ek)
noncomputable def Hw (a0 a1 a2:U) (σ:Heap):Option (U×Heap):=
 (A.cells 8 a0).bind fun c1=>
 ((A.deref a1 σ).bind fun c2=>A.aq 0 c2).bind fun x3=>
 (A.eT x3).bind fun x4=>
 (A.bD 1 x4).bind fun x5=>
 ((A.deref x5 σ).bind fun c6=>A.aq 0 c6).bind fun x7=>
 ((A.deref a2 σ).bind fun c8=>A.aq 0 c8).bind fun x9=>
 (A.aU 1 x7 x9).bind fun bu=>
 ((A.deref bu σ).bind fun gz=>A.aq 0 gz).bind fun cE=>
 (A.aD 0 2 c1).bind fun cm=>
 (A.look (.s [0,2]) cE cm aj σ).bind fun cA=>
 ((A.deref a1 σ).bind fun iz=>A.aq 0 iz).bind fun bM=>
 (A.eT bM).bind fun dI=>
 (A.bD 1 dI).bind fun eL=>
 ((A.deref eL σ).bind fun kT=>A.aq 0 kT).bind fun dJ=>
 ((A.deref a2 σ).bind fun gO=>A.aq 0 gO).bind fun bT=>
 (A.sub bT aR).bind fun eE=>
 (A.aU 1 dJ eE).bind fun x24=>
 ((A.deref x24 σ).bind fun jD=>A.aq 0 jD).bind fun dY=>
 (A.aD 0 2 c1).bind fun dK=>
 (A.look (.s [0,2]) dY dK aj σ).bind fun x28=>
 (A.neq .i cA x28).bind fun x29=>
 A.fin σ x29 σ
noncomputable def qd:List U→Heap→Option (U×Heap):=A.wrap true [] .k (A.fE Hw)
noncomputable def Ej (a0 a1 a2:U) (σ:Heap):Option (U×Heap):=
 (((A.cell a0).bind fun v=>some [v]).bind fun cs=>some (U.rp cs)).bind fun x1=>
 (A.cells 2 a1).bind fun c2=>
 ((A.cell aR).bind fun v=>some [v]).bind fun c3=>
 (A.storeAt (U.op σ.length 0) c3 (σ++[aO.box [aj]])).bind fun c4=>
 (A.loop (fun v5 s6=>
   ((A.deref (v5.getD 2 U.undef) s6).bind fun c8=>A.aq 0 c8).bind fun x9=>
   (A.bf a2).bind fun bu=>
   (A.lss x9 bu).bind fun dc=>
   A.cond dc (
    ((A.lb (v5.getD 0 U.undef)).bind fun _=>some (1)).bind fun p12=>
    ((A.lb (v5.getD 0 U.undef)).bind fun uT=>A.aq p12 uT).bind fun cA=>
    (A.bf cA).bind fun dR=>
    (A.loop (fun bZ fG=>
      (A.lss (bZ.getD 2 U.undef) dR).bind fun dw=>
      A.cond dw (
       (A.aU 4 cA (bZ.getD 2 U.undef)).bind fun dJ=>
       ((A.deref dJ fG).bind fun gO=>A.aD 0 4 gO).bind fun bT=>
       (A.cells 4 bT).bind fun iY=>
       (A.splice 0 iY [aj,bw,aj,aj]).bind fun eB=>
       (A.aq 0 eB).bind fun x25=>
       ((A.deref x1 fG).bind fun jO=>A.aq 0 jO).bind fun dK=>
       ((A.deref (v5.getD 2 U.undef) fG).bind fun nP=>A.aq 0 nP).bind fun x29=>
       (A.sub x29 aR).bind fun eM=>
       (oN [dK,x25,eM] fG).bind fun cZ=>
       (A.not cZ.1).bind fun x32=>
       (A.guard x32 false ((A.deref x1 cZ.2).bind fun wW=>A.aq 0 wW) ay).bind fun x34=>
       (A.guard x32 false (some x25) ay).bind fun gR=>
       (A.guard x32 false ((A.deref (v5.getD 2 U.undef) cZ.2).bind fun kU=>A.aq 0 kU) ay).bind fun dA=>
       (A.guard x32 false (A.quiet (oN [x34,gR,dA] cZ.2) cZ.2) ay).bind fun x38=>
       (A.pick x32 cq x38).bind fun iC=>
       A.cond iC (
        (A.add (bZ.getD 2 U.undef) aR).bind fun eZ=>
        some (AX.normal,[(bZ.getD 0 U.undef),(bZ.getD 1 U.undef),eZ],cZ.2)) (
        ((A.deref x1 cZ.2).bind fun mu=>A.aq 0 mu).bind fun gZ=>
        ((A.deref (v5.getD 2 U.undef) cZ.2).bind fun pP=>A.aq 0 pP).bind fun jR=>
        (A.aU 11 a2 jR).bind fun gU=>
        ((A.deref gU cZ.2).bind fun nQ=>A.aD 0 11 nQ).bind fun fI=>
        (A.quiet ((A.ku (.s 8) nD) [gZ,fI,x25] cZ.2) cZ.2).bind fun iE=>
        (A.quiet (Bm (A.tab (fun _ _=>none) [(234,qd),(234,qd)]) [iE,(U.fn 234 [x1,(v5.getD 2 U.undef)])] cZ.2) cZ.2).bind fun i7=>
        (A.not i7).bind fun fL=>
        A.cond fL (
         (A.add (bZ.getD 2 U.undef) aR).bind fun eW=>
         some (AX.normal,[(bZ.getD 0 U.undef),(bZ.getD 1 U.undef),eW],cZ.2)) (
         ((A.deref (v5.getD 2 U.undef) cZ.2).bind fun yT=>A.aq 0 yT).bind fun nW=>
         (A.sub nW aR).bind fun gC=>
         (A.loop (fun v55 dz=>
           (A.gtr (v55.getD 1 U.undef) aj).bind fun eF=>
           (A.guard eF true ((A.deref x1 dz).bind fun pQ=>A.aq 0 pQ) ay).bind fun jk=>
           (A.guard eF true (some x25) ay).bind fun gE=>
           (A.guard eF true (some (v55.getD 1 U.undef)) ay).bind fun gG=>
           (A.guard eF true (A.sub gG aR) ay).bind fun ff=>
           (A.guard eF true (A.quiet (oN [jk,gE,ff] dz) dz) ay).bind fun iP=>
           (A.pick eF iP aP).bind fun dS=>
           (A.guard dS true ((A.deref x1 dz).bind fun mw=>A.aq 0 mw) ay).bind fun gH=>
           (A.guard dS true (some a2) ay).bind fun jl=>
           (A.guard dS true (some (v55.getD 1 U.undef)) ay).bind fun fV=>
           (A.guard dS true (A.aU 11 jl fV) ay).bind fun p9=>
           (A.guard dS true ((A.deref p9 dz).bind fun pR=>A.aD 0 11 pR) ay).bind fun jm=>
           (A.guard dS true (some x25) ay).bind fun mG=>
           (A.guard dS true (A.quiet ((A.ku (.s 8) nD) [gH,jm,mG] dz) dz) ay).bind fun jo=>
           (A.guard dS true (A.bf jo) ay).bind fun iR=>
           (A.guard dS true (A.eql .i iR aj) ay).bind fun jS=>
           (A.pick dS jS aP).bind fun qc=>
           A.cond qc (
            (A.sub (v55.getD 1 U.undef) aR).bind fun DR=>
            some (AX.normal,[(v55.getD 0 U.undef),DR],dz)) (
            some (AX.exit 4,[(v55.getD 0 U.undef),(v55.getD 1 U.undef)],dz))) [(bZ.getD 0 U.undef),gC] cZ.2).bind fun nV=>
         bif nV.1==AX.exit 4 then(
          (A.aU 11 a2 (nV.2.1.getD 1 U.undef)).bind fun DS=>
          (A.bD 0 DS).bind fun DT=>
          ((A.deref DT nV.2.2).bind fun LC=>A.aq 0 LC).bind fun Mx=>
          ((A.deref (v5.getD 2 U.undef) nV.2.2).bind fun LD=>A.aq 0 LD).bind fun Mz=>
          (A.aU 11 a2 Mz).bind fun DU=>
          (A.bD 0 DU).bind fun MA=>
          ((A.deref MA nV.2.2).bind fun LF=>A.aq 0 LF).bind fun MB=>
          ((((A.cell x25).bind fun v=>some [v]).bind fun LG=>(A.splice 0 LG [aj,aj,aj]).bind fun uW=>((A.cell Mx).bind fun v=>some [v]).bind fun LH=>(A.splice 1 LH uW).bind fun LI=>((A.cell MB).bind fun v=>some [v]).bind fun LJ=>(A.splice 2 LJ LI).bind fun LK=>some LK).bind fun cs=>some (U.agg cs)).bind fun x96=>
          (((A.cells 3 x96).bind fun LL=>(A.splice 0 LL [aj,aj,aj]).bind fun LM=>some LM).bind fun cs=>some (U.sl 3 (chunks 3 1 cs))).bind fun x99=>
          (A.append 3 (140737488355328 / 24) (bZ.getD 1 U.undef) x99 nV.2.2).bind fun CR=>
          (A.add (bZ.getD 2 U.undef) aR).bind fun x101=>
          some (AX.normal,[(nV.2.1.getD 0 U.undef),CR.1,x101],CR.2))else
         none))) (
       some (AX.exit 2,[(bZ.getD 0 U.undef),(bZ.getD 1 U.undef),(bZ.getD 2 U.undef)],fG))) [(v5.getD 0 U.undef),(v5.getD 1 U.undef),aj] s6).bind fun uL=>
    bif uL.1==AX.exit 2 then(
     ((A.deref (v5.getD 2 U.undef) uL.2.2).bind fun yy=>A.aq 0 yy).bind fun x104=>
     ((A.cell x104).bind fun v=>some [v]).bind fun yz=>
     (A.storeAt (U.op uL.2.2.length 0) yz (uL.2.2++[aO.box [aj]])).bind fun rO=>
     ((A.deref (U.op uL.2.2.length 0) rO).bind fun acL=>A.aq 0 acL).bind fun yJ=>
     (A.add yJ aR).bind fun adI=>
     ((A.cell adI).bind fun v=>some [v]).bind fun acM=>
     (A.storeAt (U.op uL.2.2.length 0) acM rO).bind fun acN=>
     some (AX.normal,[(uL.2.1.getD 0 U.undef),(uL.2.1.getD 1 U.undef),(U.op uL.2.2.length 0)],acN))else
    none) (
    some (AX.exit 0,[(v5.getD 0 U.undef),(v5.getD 1 U.undef),(v5.getD 2 U.undef)],s6))) [(U.lbx c2),U.aB,(U.op σ.length 0)] c4).bind fun Lo=>
 bif Lo.1==AX.exit 0 then(
  A.fin σ (Lo.2.1.getD 1 U.undef) Lo.2.2)else
 none
noncomputable def Eg:List U→Heap→Option (U×Heap):=A.wrap true [.k,(.a [(.e 3 jL),(.s 4)]),(.e 11 iy)] (.s 3) (A.fE Ej)
noncomputable def EE (a0:U) (σ:Heap):Option (U×Heap):=
 (A.bf a0).bind fun x1=>
 (A.loop (fun v2 s3=>
   (A.lss (v2.getD 1 U.undef) x1).bind fun x5=>
   A.cond x5 (
    (A.aU 11 a0 (v2.getD 1 U.undef)).bind fun x6=>
    ((A.deref x6 s3).bind fun c7=>A.aD 0 11 c7).bind fun x8=>
    (A.cells 11 x8).bind fun c9=>
    (A.splice 0 c9 [aj,bw,aj,aj,aj,aj,aj,U.aB,aP,aj,U.aB]).bind fun fU=>
    (A.aq 7 fU).bind fun dc=>
    (D8 [dc] s3).bind fun su=>
    ((A.cell su.1).bind fun v=>some [v]).bind fun uT=>
    (A.splice 7 uT fU).bind fun jC=>
    (A.aq 10 jC).bind fun dR=>
    (Eb [dR] su.2).bind fun qI=>
    ((A.cell qI.1).bind fun v=>some [v]).bind fun kS=>
    (A.splice 10 kS jC).bind fun eP=>
    (A.aD 0 11 eP).bind fun dw=>
    (((A.cells 11 dw).bind fun iN=>(A.splice 0 iN [aj,bw,aj,aj,aj,aj,aj,U.aB,aP,aj,U.aB]).bind fun gO=>some gO).bind fun cs=>some (U.sl 11 (chunks 11 1 cs))).bind fun bT=>
    (A.append 11 (140737488355328 / 128) (v2.getD 0 U.undef) bT qI.2).bind fun jh=>
    (A.add (v2.getD 1 U.undef) aR).bind fun x24=>
    some (AX.normal,[jh.1,x24],jh.2)) (
    some (AX.exit 0,[(v2.getD 0 U.undef),(v2.getD 1 U.undef)],s3))) [U.aB,aj] σ).bind fun iB=>
 bif iB.1==AX.exit 0 then(
  some ((iB.2.1.getD 0 U.undef),iB.2.2))else
 none
noncomputable def EA:List U→Heap→Option (U×Heap):=A.wrap true [(.e 11 iy)] .k (A.fD EE)
noncomputable def HM (a0 a1:U) (σ:Heap):Option (U×Heap):=
 (A.cells 11 a0).bind fun c1=>
 (A.aq 0 c1).bind fun x2=>
 (A.sub x2 a1).bind fun x3=>
 A.fin σ x3 σ
noncomputable def xA:List U→Heap→Option (U×Heap):=A.wrap true [(.a iy)] .k (A.ep HM)
noncomputable def EM (a0 a1:U) (σ:Heap):Option (U×Heap):=
 (zC (A.tab (fun _ _=>none) [(177,xA)]) [a0,a1,(U.fn 177 [])] σ).bind fun r1=>
 (A.ext 0 r1.1).bind fun x2=>
 (A.ext 1 r1.1).bind fun x3=>
 A.fin σ (U.aA [x2,x3]) r1.2
noncomputable def ud:List U→Heap→Option (U×Heap):=A.wrap true [(.e 11 iy)] .k (A.ep EM)
noncomputable def HJ (a0 a1:U) (σ:Heap):Option (U×Heap):=
 (A.cells 8 a0).bind fun c1=>
 (A.cells 2 a1).bind fun c2=>
 (A.aD 0 2 c1).bind fun x3=>
 (A.aD 0 2 c2).bind fun x4=>
 (Eu [x3,x4] σ).bind fun r5=>
 A.fin σ r5.1 r5.2
noncomputable def Bu:List U→Heap→Option (U×Heap):=A.wrap true [] .k (A.ep HJ)
noncomputable def EG (a0 a1:U) (σ:Heap):Option (U×Heap):=
 (A.cells 11 a0).bind fun c1=>
 (A.cells 2 a1).bind fun c2=>
 (A.aq 10 c1).bind fun x3=>
 (A.aD 0 2 c2).bind fun x4=>
 (DY (A.tab (fun _ _=>none) [(185,Bu)]) [x3,x4,(U.fn 185 [])] σ).bind fun r5=>
 (A.ext 0 r5.1).bind fun x6=>
 (A.ext 1 r5.1).bind fun x7=>
 A.fin σ (U.aA [x6,x7]) r5.2
noncomputable def vF:List U→Heap→Option (U×Heap):=A.wrap true [(.a iy)] .k (A.ep EG)
noncomputable def BO (a0 a1:U) (σ:Heap):Option (U×Heap):=
 (A.cells 8 a1).bind fun c1=>
 (A.eT a0).bind fun x2=>
 ((A.deref x2 σ).bind fun c3=>A.aD 0 11 c3).bind fun x4=>
 (A.aD 0 2 c1).bind fun x5=>
 (A.quiet (vF [x4,x5] σ) σ).bind fun x6=>
 (A.ext 0 x6).bind fun x7=>
 (A.ext 1 x6).bind fun x8=>
 A.cond x8 (
  (A.eT a0).bind fun x9=>
  (A.bD 10 x9).bind fun bu=>
  ((A.deref bu σ).bind fun gz=>A.aq 0 gz).bind fun cE=>
  (A.aD 0 8 c1).bind fun cm=>
  (A.aU 8 cE x7).bind fun cA=>
  (A.cells 8 cm).bind fun iz=>
  (A.storeAt cA iz σ).bind fun rT=>
  some ((U.aA []),rT)) (
  (A.eT a0).bind fun dI=>
  (A.bD 10 dI).bind fun eL=>
  ((A.deref eL σ).bind fun kT=>A.aq 0 kT).bind fun dJ=>
  (A.aD 0 8 c1).bind fun bC=>
  (((A.cells 8 bC).bind fun nO=>(A.splice 0 nO [aj,bw,aj,aj,aP,aP,aj,aj]).bind fun iY=>some iY).bind fun cs=>some (U.sl 8 (chunks 8 1 cs))).bind fun x24=>
  (Bp [dJ,x7,x24] σ).bind fun iB=>
  (A.eT a0).bind fun dY=>
  (A.bD 10 dY).bind fun dK=>
  ((A.cell iB.1).bind fun v=>some [v]).bind fun nP=>
  (A.storeAt dK nP iB.2).bind fun CX=>
  some ((U.aA []),CX))
noncomputable def zY:List U→Heap→Option (U×Heap):=A.wrap false [] .k (A.ep BO)
noncomputable def EU (a0:U) (σ:Heap):Option (U×Heap):=
 (zS [a0] σ).bind fun r1=>
 (A.neq .i r1.1 aj).bind fun x2=>
 A.cond x2 (
  some ((U.aA [U.aB,r1.1]),r1.2)) (
  some ((U.aA [a0,aj]),r1.2))
noncomputable def BJ:List U→Heap→Option (U×Heap):=A.wrap false [] .k (A.fD EU)
noncomputable def ED (a0 a1 a2:U) (σ:Heap):Option (U×Heap):=
 (A.cells 2 a0).bind fun c1=>
 (A.aD 0 2 c1).bind fun x2=>
 (Bv [x2,a1,a2] σ).bind fun r3=>
 (A.neq .i r3.1 aj).bind fun x4=>
 A.cond x4 (
  A.fin σ (U.aA [U.aB,r3.1]) r3.2) (
  (A.aD 0 2 c1).bind fun x5=>
  (E5 [x5,a1,a2] r3.2).bind fun r6=>
  (EA [a2] r6.2).bind fun r7=>
  (A.aD 0 2 c1).bind fun x8=>
  (Eg [r6.1,x8,a2] r7.2).bind fun r9=>
  (A.bf r9.1).bind fun bu=>
  (A.loop (fun v11 nB=>
    (A.lss (v11.getD 0 U.undef) bu).bind fun cA=>
    A.cond cA (
     (A.aU 3 r9.1 (v11.getD 0 U.undef)).bind fun dR=>
     ((A.deref dR nB).bind fun rT=>A.aD 0 3 rT).bind fun dI=>
     (A.cells 3 dI).bind fun eP=>
     (A.splice 0 eP [aj,aj,aj]).bind fun kT=>
     (A.aq 1 kT).bind fun dJ=>
     (ud [r7.1,dJ] nB).bind fun qL=>
     (A.ext 0 qL.1).bind fun bT=>
     (A.ext 1 qL.1).bind fun eE=>
     (A.aq 2 kT).bind fun x24=>
     (ud [r7.1,x24] qL.2).bind fun iB=>
     (A.ext 0 iB.1).bind fun dY=>
     (A.ext 1 iB.1).bind fun dK=>
     (A.aU 11 r7.1 dY).bind fun x28=>
     ((A.deref x28 iB.2).bind fun CX=>A.aD 0 11 CX).bind fun eM=>
     (A.aq 0 kT).bind fun x31=>
     (A.quiet ((A.ku (.s 8) nD) [r6.1,eM,x31] iB.2) iB.2).bind fun x32=>
     (A.bf x32).bind fun mE=>
     (A.loop (fun Hg zn=>
       (A.lss (Hg.getD 0 U.undef) mE).bind fun dA=>
       A.cond dA (
        (A.aU 8 x32 (Hg.getD 0 U.undef)).bind fun x38=>
        ((A.deref x38 zn).bind fun kV=>A.aD 0 8 kV).bind fun eZ=>
        (A.cells 8 eZ).bind fun mu=>
        (A.splice 0 mu [aj,bw,aj,aj,aP,aP,aj,aj]).bind fun wX=>
        (A.aU 11 r7.1 dY).bind fun iD=>
        ((A.deref iD zn).bind fun oC=>A.aD 0 11 oC).bind fun gU=>
        (A.aD 0 2 wX).bind fun lU=>
        (A.quiet (vF [gU,lU] zn) zn).bind fun fI=>
        (A.ext 0 fI).bind fun iE=>
        (A.ext 1 fI).bind fun i7=>
        (A.aU 11 r7.1 dY).bind fun fL=>
        (A.bD 10 fL).bind fun eW=>
        ((A.deref eW zn).bind fun yT=>A.aq 0 yT).bind fun nW=>
        (A.add iE aR).bind fun gC=>
        (zF [nW,iE,gC] zn).bind fun Bi=>
        (A.aU 11 r7.1 dY).bind fun gD=>
        (A.bD 10 gD).bind fun lg=>
        ((A.cell Bi.1).bind fun v=>some [v]).bind fun C1=>
        (A.storeAt lg C1 Bi.2).bind fun pQ=>
        ((A.cell aP).bind fun v=>some [v]).bind fun C2=>
        (A.splice 5 C2 wX).bind fun C3=>
        ((A.cell aj).bind fun v=>some [v]).bind fun LB=>
        (A.splice 6 LB C3).bind fun uV=>
        ((A.cell aj).bind fun v=>some [v]).bind fun C4=>
        (A.splice 7 C4 uV).bind fun C5=>
        (A.aU 11 r7.1 bT).bind fun iQ=>
        (A.aD 0 8 C5).bind fun gH=>
        (zY [iQ,gH] pQ).bind fun tV=>
        (A.add (Hg.getD 0 U.undef) aR).bind fun fV=>
        some (AX.normal,[fV],tV.2)) (
        some (AX.exit 2,[(Hg.getD 0 U.undef)],zn))) [aj] iB.2).bind fun zm=>
     bif zm.1==AX.exit 2 then(
      (A.add (v11.getD 0 U.undef) aR).bind fun sD=>
      some (AX.normal,[sD],zm.2.2))else
     none) (
     some (AX.exit 0,[(v11.getD 0 U.undef)],nB))) [aj] r9.2).bind fun Bk=>
  bif Bk.1==AX.exit 0 then(
   (BJ [r7.1] Bk.2.2).bind fun Mn=>
   (A.ext 0 Mn.1).bind fun jo=>
   (A.ext 1 Mn.1).bind fun iR=>
   A.fin σ (U.aA [jo,iR]) Mn.2)else
  none)
noncomputable def H7:List U→Heap→Option (U×Heap):=A.wrap true [(.a [(.e 3 jL),(.s 4)]),tj,(.e 11 iy)] (.t [(.e 11 iy),.k]) (A.fE ED)
noncomputable def Ie (a0 a1 a2 a3:U) (σ:Heap):Option (U×Heap):=
 (A.cells 2 a0).bind fun c1=>
 (A.aD 0 2 c1).bind fun x2=>
 (Bv [x2,a1,a2] σ).bind fun r3=>
 (A.neq .i r3.1 aj).bind fun x4=>
 A.cond x4 (
  A.fin σ (U.aA [U.aB,r3.1]) r3.2) (
  (ud [a2,a3] r3.2).bind fun r5=>
  (A.ext 0 r5.1).bind fun x6=>
  (A.ext 1 r5.1).bind fun x7=>
  (A.not x7).bind fun x8=>
  A.cond x8 (
   A.fin σ (U.aA [U.aB,(U.int .i64 8)]) r5.2) (
   (A.aD 0 2 c1).bind fun x9=>
   (A.add x6 aR).bind fun bu=>
   (A.bN 11 a2 none (some bu) r5.2).bind fun dc=>
   (A.quiet (vH [dc] r5.2) r5.2).bind fun cE=>
   (A.quiet (vE [x9,a1,cE] r5.2) r5.2).bind fun cm=>
   A.fin σ (U.aA [cm,aj]) r5.2))
noncomputable def Ez:List U→Heap→Option (U×Heap):=A.wrap true [(.a [(.e 3 jL),(.s 4)]),tj,(.e 11 iy)] (.t [(.s 3),.k]) (A.GK Ie)
end
section
set_option maxRecDepth 100000
noncomputable def Ic (a0 a1:U) (σ:Heap):Option (U×Heap):=
 (A.bf a0).bind fun x1=>
 (A.loop (fun v2 s3=>
   (A.lss (v2.getD 2 U.undef) x1).bind fun x5=>
   A.cond x5 (
    (A.aU 3 a0 (v2.getD 2 U.undef)).bind fun x6=>
    ((A.deref x6 s3).bind fun c7=>A.aD 0 3 c7).bind fun x8=>
    (A.cells 3 x8).bind fun c9=>
    (A.splice 0 c9 [bw,aj,U.aB]).bind fun fU=>
    (A.aq 0 fU).bind fun dc=>
    (A.eql .z dc a1).bind fun cE=>
    A.cond cE (
     (A.aD 0 3 fU).bind fun cm=>
     (A.lb (v2.getD 0 U.undef)).bind fun rT=>
     (A.cells 3 cm).bind fun jC=>
     (A.splice 0 jC rT).bind fun iz=>
     some (AX.ret,[(U.lbx iz),cq,(v2.getD 2 U.undef)],s3)) (
     (A.add (v2.getD 2 U.undef) aR).bind fun dI=>
     some (AX.normal,[(v2.getD 0 U.undef),(v2.getD 1 U.undef),dI],s3))) (
    some (AX.exit 0,[(v2.getD 0 U.undef),(v2.getD 1 U.undef),(v2.getD 2 U.undef)],s3))) [(U.lbx [bw,aj,U.aB]),aP,aj] σ).bind fun qJ=>
 bif qJ.1==AX.exit 0 then(
  (A.lb (qJ.2.1.getD 0 U.undef)).bind fun gO=>
  (A.cells 3 (U.agg [bw,aj,U.aB])).bind fun kT=>
  (A.splice 0 kT gO).bind fun iN=>
  (A.aD 0 3 iN).bind fun bT=>
  A.fin σ (U.aA [bT,aP]) qJ.2.2)else
 bif qJ.1==AX.ret then(
  ((A.lb (qJ.2.1.getD 0 U.undef)).bind fun eB=>A.aD 0 3 eB).bind fun eE=>
  A.fin σ (U.aA [eE,(qJ.2.1.getD 1 U.undef)]) qJ.2.2)else
 none
noncomputable def H6:List U→Heap→Option (U×Heap):=A.wrap true [(.s 3)] (.t [(.a jL),.k]) (A.ep Ic)
noncomputable def I5 (a0 a1:U) (σ:Heap):Option (U×Heap):=
 (A.cells 2 a0).bind fun c1=>
 (A.aq 1 c1).bind fun x2=>
 (A.bf x2).bind fun x3=>
 (A.loop (fun v4 s5=>
   (A.lss (v4.getD 1 U.undef) x3).bind fun x7=>
   A.cond x7 (
    (A.aU 4 x2 (v4.getD 1 U.undef)).bind fun x8=>
    ((A.deref x8 s5).bind fun c9=>A.aD 0 4 c9).bind fun bu=>
    (A.cells 4 bu).bind fun gz=>
    (A.splice 0 gz [aj,bw,aj,aj]).bind fun cU=>
    (A.aq 0 cU).bind fun cm=>
    (A.eql .i cm a1).bind fun cA=>
    A.cond cA (
     some (AX.ret,[(v4.getD 1 U.undef),(v4.getD 1 U.undef)],s5)) (
     (A.add (v4.getD 1 U.undef) aR).bind fun dR=>
     some (AX.normal,[(v4.getD 0 U.undef),dR],s5))) (
    some (AX.exit 0,[(v4.getD 0 U.undef),(v4.getD 1 U.undef)],s5))) [aj,aj] σ).bind fun qI=>
 bif qI.1==AX.exit 0 then(
  A.fin σ (U.int .i64 (-1)) qI.2.2)else
 bif qI.1==AX.ret then(
  A.fin σ (qI.2.1.getD 0 U.undef) qI.2.2)else
 none
noncomputable def IZ:List U→Heap→Option (U×Heap):=A.wrap true [(.a [(.s 3),(.s 4)])] .k (A.ep I5)
noncomputable def IP (a0 a1:U) (σ:Heap):Option (U×Heap):=
 (A.cells 3 a0).bind fun c1=>
 (A.aq 2 c1).bind fun x2=>
 (A.bf x2).bind fun x3=>
 (A.loop (fun v4 s5=>
   (A.lss (v4.getD 2 U.undef) x3).bind fun x7=>
   A.cond x7 (
    (A.aU 7 x2 (v4.getD 2 U.undef)).bind fun x8=>
    ((A.deref x8 s5).bind fun c9=>A.aD 0 7 c9).bind fun bu=>
    (A.cells 7 bu).bind fun gz=>
    (A.splice 0 gz [bw,aj,aj,aj,aj,aP,U.aB]).bind fun cU=>
    (A.aq 0 cU).bind fun cm=>
    (A.eql .z cm a1).bind fun cA=>
    A.cond cA (
     (A.aD 0 7 cU).bind fun dR=>
     (A.lb (v4.getD 0 U.undef)).bind fun eP=>
     (A.cells 7 dR).bind fun rT=>
     (A.splice 0 rT eP).bind fun kS=>
     some (AX.ret,[(U.lbx kS),cq,(v4.getD 2 U.undef)],s5)) (
     (A.add (v4.getD 2 U.undef) aR).bind fun dw=>
     some (AX.normal,[(v4.getD 0 U.undef),(v4.getD 1 U.undef),dw],s5))) (
    some (AX.exit 0,[(v4.getD 0 U.undef),(v4.getD 1 U.undef),(v4.getD 2 U.undef)],s5))) [(U.lbx [bw,aj,aj,aj,aj,aP,U.aB]),aP,aj] σ).bind fun eH=>
 bif eH.1==AX.exit 0 then(
  (A.lb (eH.2.1.getD 0 U.undef)).bind fun iY=>
  (A.cells 7 (U.agg [bw,aj,aj,aj,aj,aP,U.aB])).bind fun gO=>
  (A.splice 0 gO iY).bind fun nO=>
  (A.aD 0 7 nO).bind fun x24=>
  A.fin σ (U.aA [x24,aP]) eH.2.2)else
 bif eH.1==AX.ret then(
  ((A.lb (eH.2.1.getD 0 U.undef)).bind fun jO=>A.aD 0 7 jO).bind fun x25=>
  A.fin σ (U.aA [x25,(eH.2.1.getD 1 U.undef)]) eH.2.2)else
 none
noncomputable def II:List U→Heap→Option (U×Heap):=A.wrap true [(.a [.k,.k,(.s 7)])] (.t [(.a yx),.k]) (A.ep IP)
noncomputable def Ib (a0 a1:U) (σ:Heap):Option (U×Heap):=
 (A.cells 2 a0).bind fun c1=>
 (A.cells 2 a1).bind fun c2=>
 (A.aD 0 2 c1).bind fun x3=>
 (A.aq 0 c2).bind fun x4=>
 (IZ [x3,x4] σ).bind fun r5=>
 (A.lss r5.1 aj).bind fun x6=>
 A.cond x6 (
  (A.cells 7 (U.agg [bw,aj,aj,aj,aj,aP,U.aB])).bind fun c7=>
  (A.splice 0 c7 [bw,aj,aj,aj,aj,aP,U.aB]).bind fun c8=>
  (A.aD 0 7 c8).bind fun x9=>
  A.fin σ (U.aA [x9,aP]) r5.2) (
  (A.aq 0 c1).bind fun bu=>
  (A.aq 1 c1).bind fun dc=>
  (A.aU 4 dc r5.1).bind fun cE=>
  (A.bD 1 cE).bind fun cm=>
  ((A.deref cm r5.2).bind fun jC=>A.aq 0 jC).bind fun dR=>
  (A.quiet (H6 [bu,dR] r5.2) r5.2).bind fun bM=>
  (A.ext 0 bM).bind fun dI=>
  (A.ext 1 bM).bind fun eL=>
  (A.cells 3 dI).bind fun kT=>
  (A.splice 0 kT [bw,aj,U.aB]).bind fun iN=>
  (A.aD 0 3 iN).bind fun bC=>
  (A.aq 1 c2).bind fun bT=>
  (II [bC,bT] r5.2).bind fun jh=>
  (A.ext 0 jh.1).bind fun x24=>
  (A.ext 1 jh.1).bind fun x25=>
  (A.cells 7 x24).bind fun jO=>
  (A.splice 0 jO [bw,aj,aj,aj,aj,aP,U.aB]).bind fun CW=>
  (A.aD 0 7 CW).bind fun x28=>
  A.fin σ (U.aA [x28,x25]) jh.2)
noncomputable def Ey:List U→Heap→Option (U×Heap):=A.wrap true [(.a [(.s 3),(.s 4)])] (.t [(.a yx),.k]) (A.ep Ib)
end
section
set_option maxRecDepth 100000
noncomputable def Jt (a0 a1 a2:U) (σ:Heap):Option (U×Heap):=
 (A.cells 2 a0).bind fun c1=>
 (A.bf a1).bind fun x2=>
 (A.loop (fun v3 s4=>
   (A.lss (v3.getD 2 U.undef) x2).bind fun x6=>
   A.cond x6 (
    (A.aU 3 a1 (v3.getD 2 U.undef)).bind fun x7=>
    ((A.deref x7 s4).bind fun c8=>A.aD 0 3 c8).bind fun x9=>
    (A.cells 3 x9).bind fun fU=>
    (A.splice 0 fU [aj,bw,aj]).bind fun gz=>
    ((A.lb (v3.getD 0 U.undef)).bind fun cU=>A.aD 0 2 cU).bind fun cm=>
    (A.aD 0 2 gz).bind fun cA=>
    (Ey [cm,cA] s4).bind fun fR=>
    (A.ext 0 fR.1).bind fun bM=>
    (A.ext 1 fR.1).bind fun dI=>
    (A.cells 7 bM).bind fun eP=>
    (A.splice 0 eP [bw,aj,aj,aj,aj,aP,U.aB]).bind fun kT=>
    (A.aq 0 gz).bind fun dJ=>
    (A.eql .i dJ a2).bind fun bC=>
    (A.guard bC true (A.aq 1 kT) ay).bind fun bT=>
    (A.guard bC true (A.eql .i bT aR) ay).bind fun eE=>
    (A.pick bC eE aP).bind fun x24=>
    (A.guard x24 true (A.aq 2 gz) ay).bind fun x25=>
    (A.guard x24 true (A.neq .i x25 aj) ay).bind fun dY=>
    (A.pick x24 dY aP).bind fun dK=>
    A.cond dK (
     some (AX.ret,[(v3.getD 0 U.undef),cq,(v3.getD 2 U.undef)],fR.2)) (
     (A.add (v3.getD 2 U.undef) aR).bind fun x28=>
     some (AX.normal,[(v3.getD 0 U.undef),(v3.getD 1 U.undef),x28],fR.2))) (
    some (AX.exit 0,[(v3.getD 0 U.undef),(v3.getD 1 U.undef),(v3.getD 2 U.undef)],s4))) [(U.lbx c1),aP,aj] σ).bind fun mC=>
 bif mC.1==AX.exit 0 then(
  A.fin σ aP mC.2.2)else
 bif mC.1==AX.ret then(
  A.fin σ (mC.2.1.getD 1 U.undef) mC.2.2)else
 none
noncomputable def Jo:List U→Heap→Option (U×Heap):=A.wrap true [(.a [(.e 3 jL),(.s 4)]),(.s 3)] .k (A.fE Jt)
noncomputable def Ho (a0 a1 a2:U) (σ:Heap):Option (U×Heap):=
 (A.cells 2 a0).bind fun c1=>
 (A.aD 0 2 c1).bind fun x2=>
 (H7 [x2,a1,a2] σ).bind fun r3=>
 (A.ext 0 r3.1).bind fun x4=>
 (A.ext 1 r3.1).bind fun x5=>
 (A.neq .i x5 aj).bind fun x6=>
 A.cond x6 (
  (A.bf x4).bind fun x7=>
  (A.eql .i x7 aj).bind fun x8=>
  A.fin σ x8 r3.2) (
  (A.bf x4).bind fun x9=>
  (A.bf a2).bind fun bu=>
  (A.neq .i x9 bu).bind fun dc=>
  A.cond dc (
   A.fin σ aP r3.2) (
   (A.bf a2).bind fun cE=>
   (A.loop (fun fH p5=>
     (A.lss (fH.getD 2 U.undef) cE).bind fun bM=>
     A.cond bM (
      (A.aU 11 a2 (fH.getD 2 U.undef)).bind fun dI=>
      ((A.deref dI p5).bind fun eP=>A.aD 0 11 eP).bind fun dw=>
      (A.cells 11 dw).bind fun iN=>
      (A.splice 0 iN [aj,bw,aj,aj,aj,aj,aj,U.aB,aP,aj,U.aB]).bind fun gO=>
      ((A.lb (fH.getD 0 U.undef)).bind fun nO=>A.aD 0 2 nO).bind fun eE=>
      (A.aq 0 gO).bind fun x24=>
      (Ez [eE,a1,a2,x24] p5).bind fun iB=>
      (A.ext 0 iB.1).bind fun dY=>
      (A.ext 1 iB.1).bind fun dK=>
      ((A.lb (fH.getD 0 U.undef)).bind fun nP=>A.aD 0 2 nP).bind fun x29=>
      (A.aq 0 gO).bind fun eM=>
      (Ez [x29,a1,x4,eM] iB.2).bind fun cZ=>
      (A.ext 0 cZ.1).bind fun x32=>
      (A.ext 1 cZ.1).bind fun mE=>
      (A.neq .i dK aj).bind fun x34=>
      (A.guard x34 false (some mE) ay).bind fun gR=>
      (A.guard x34 false (A.neq .i gR aj) ay).bind fun p7=>
      (A.pick x34 cq p7).bind fun dA=>
      (A.guard dA false (some dY) ay).bind fun x38=>
      (A.guard dA false (A.bf x38) ay).bind fun iC=>
      (A.guard dA false (some x32) ay).bind fun eZ=>
      (A.guard dA false (A.bf eZ) ay).bind fun mF=>
      (A.guard dA false (A.neq .i iC mF) ay).bind fun gZ=>
      (A.pick dA cq gZ).bind fun iD=>
      A.cond iD (
       some (AX.ret,[(fH.getD 0 U.undef),aP,(fH.getD 2 U.undef)],cZ.2)) (
       (A.bf dY).bind fun jR=>
       (A.loop (fun v45 Mr=>
         (A.lss (v45.getD 2 U.undef) jR).bind fun iE=>
         A.cond iE (
          (A.aU 3 dY (v45.getD 2 U.undef)).bind fun i7=>
          ((A.deref i7 Mr).bind fun ng=>A.aD 0 3 ng).bind fun eW=>
          (A.cells 3 eW).bind fun yT=>
          (A.splice 0 yT [aj,bw,aj]).bind fun rX=>
          ((A.lb (v45.getD 0 U.undef)).bind fun c54=>A.aD 0 2 c54).bind fun jj=>
          (A.aD 0 2 rX).bind fun gD=>
          (Ey [jj,gD] Mr).bind fun zl=>
          (A.ext 0 zl.1).bind fun eF=>
          (A.ext 1 zl.1).bind fun iO=>
          (A.cells 7 eF).bind fun C2=>
          (A.splice 0 C2 [bw,aj,aj,aj,aj,aP,U.aB]).bind fun C3=>
          (A.aD 0 3 rX).bind fun gG=>
          (A.aU 3 x32 (v45.getD 2 U.undef)).bind fun ff=>
          ((A.deref ff zl.2).bind fun C4=>A.aD 0 3 C4).bind fun dS=>
          (A.neq (.s [0,2,0]) gG dS).bind fun iQ=>
          (A.guard iQ true (A.aq 1 C3) ay).bind fun gH=>
          (A.guard iQ true (A.eql .i gH aR) ay).bind fun jl=>
          (A.guard iQ true (some jl) ay).bind fun fV=>
          (A.guard fV false ((A.lb (v45.getD 0 U.undef)).bind fun yU=>A.aD 0 2 yU) ay).bind fun sD=>
          (A.guard fV false (some dY) ay).bind fun jm=>
          (A.guard fV false (A.aq 0 rX) ay).bind fun mG=>
          (A.guard fV false (A.quiet (Jo [sD,jm,mG] zl.2) zl.2) ay).bind fun jo=>
          (A.guard iQ true (A.pick fV cq jo) ay).bind fun iR=>
          (A.pick iQ iR aP).bind fun jS=>
          A.cond jS (
           some (AX.ret,[(v45.getD 0 U.undef),aP,(v45.getD 2 U.undef)],zl.2)) (
           (A.add (v45.getD 2 U.undef) aR).bind fun qc=>
           some (AX.normal,[(v45.getD 0 U.undef),(v45.getD 1 U.undef),qc],zl.2))) (
          some (AX.exit 2,[(v45.getD 0 U.undef),(v45.getD 1 U.undef),(v45.getD 2 U.undef)],Mr))) [(fH.getD 0 U.undef),(fH.getD 1 U.undef),aj] cZ.2).bind fun jP=>
       bif jP.1==AX.exit 2 then(
        (A.add (fH.getD 2 U.undef) aR).bind fun sE=>
        some (AX.normal,[(jP.2.1.getD 0 U.undef),(jP.2.1.getD 1 U.undef),sE],jP.2.2))else
       bif jP.1==AX.ret then(
        some (AX.ret,[(jP.2.1.getD 0 U.undef),(jP.2.1.getD 1 U.undef),(fH.getD 2 U.undef)],jP.2.2))else
       none)) (
      some (AX.exit 0,[(fH.getD 0 U.undef),(fH.getD 1 U.undef),(fH.getD 2 U.undef)],p5))) [(U.lbx c1),aP,aj] r3.2).bind fun kG=>
   bif kG.1==AX.exit 0 then(
    A.fin σ cq kG.2.2)else
   bif kG.1==AX.ret then(
    A.fin σ (kG.2.1.getD 1 U.undef) kG.2.2)else
   none))
noncomputable def MK:List U→Heap→Option (U×Heap):=A.wrap true [(.a [(.e 3 jL),(.s 4)]),tj,(.e 11 iy)] .k (A.fE Ho)
end
section
open Go.RowKit
theorem lD.same {P:Program} {nm:List Nat} {f:FuncId} {args:List U} {σ:Heap} {r:U} (hc:∀us w,(callFunc f us).run P w=.ok (.enter f us) w)
  (h:∀(c:RC) (vs:Array Value) (w:World),aC c args vs.toList→Calls P f vs w fun e w'=>∃v,e=.returned v∧Below w.heap.size w w'∧∀c',ah c' r v):lD P nm f args σ r σ:=by
 refine .inl ⟨f,hc,fun z vs e1 e2 hh ha=>(h _ vs z.w ha).mono ?_⟩
 rintro e w' ⟨v,k1,k2,k3⟩
 have ho:Out z z.w z.E:=⟨rfl,rfl,rfl,Nat.le_refl _,fun _ _ _=>rfl,fun i p hp=>.inr ⟨p,hp,rfl⟩,fun i p hp=>⟨p,hp,.inl rfl⟩,e2,fun p hp=>hh.lt hp⟩
 exact⟨v,z.E,k1,ho.grow k2,hh.mono (sN k2) rfl (fun p hp=>k2.block _ (hh.lt hp)),k3 _⟩
theorem Gq {c:RC} {a:U} {vs:Array Value} (h:aC c [a] vs.toList):∃v,vs=#[v]∧ah c a v:=by
 simp only[aC]at h
 obtain⟨v,vs',e,h1,e2⟩:=h
 refine⟨v,?_,h1⟩
 subst e2
 cases vs;simp at e;simp [e]
theorem Su {c:RC} {a b:U} {vs:Array Value} (h:aC c [a,b] vs.toList):∃v u,vs=#[v,u]∧ah c a v∧ah c b u:=by
 simp only[aC]at h
 obtain⟨v,vs',e,h1,u,vs2,e2,h2,e3⟩:=h
 refine⟨v,u,?_,h1,h2⟩
 subst e3;subst e2
 cases vs;simp at e;simp [e]
theorem MQ:Sound Try.prog aJ 130 Ei:=by
 intro args σ r σ' h
 unfold Ei A.ep at h
 split at h
 ·simp only at h
  split at h
  ·simp only[Option.some.injEq,Prod.mk.injEq]at h
   obtain⟨rfl,rfl⟩:=h
   refine lD.same Try.call130 fun c vs w hr=>?_
   obtain⟨v,u,rfl,h1,h2⟩:=Su hr
   simp only[ah]at h1 h2
   subst h1 h2
   refine(Try.strings_Compare _ _ w).mono ?_
   rintro e w' ⟨rfl,rfl⟩
   exact⟨_,rfl,Below.refl _ _,fun c'=>by simp [ah]⟩
  ·cases h
 ·cases h
end
section
open Go.RowKit
set_option maxRecDepth 100000
theorem Nw {P:Program} {nm:List Nat} {f:FuncId} {m0:List U→Heap→Option (U×Heap)} (h0:Sound P nm f m0) (hc:∀us w,(callFunc f us).run P w=.ok (.enter f us) w)
  (hz:∀a cap w,Calls P f #[.slice a 0 cap] w fun e w'=>∃q,e=.returned (.slice q 0 0)∧Below w.heap.size w w'):Sound P nm f (A.Ch m0):=by
 intro args σ r σ' h
 unfold A.Ch at h
 split at h
 ·simp only[Option.some.injEq,Prod.mk.injEq]at h
  obtain⟨rfl,rfl⟩:=h
  refine lD.same hc fun c vs w hr=>?_
  obtain⟨v,rfl,h1⟩:=Gq hr
  simp only[ah]at h1
  obtain⟨a,cap,rfl,_⟩:=h1
  refine(hz _ _ w).mono ?_
  rintro e w' ⟨q,rfl,hb⟩
  exact⟨_,rfl,hb,fun c'=>by simp [ah]⟩
 ·simp only[Option.some.injEq,Prod.mk.injEq]at h
  obtain⟨rfl,rfl⟩:=h
  refine lD.same hc fun c vs w hr=>?_
  obtain⟨v,rfl,h1⟩:=Gq hr
  simp only[ah]at h1
  subst h1
  refine(hz _ _ w).mono ?_
  rintro e w' ⟨q,rfl,hb⟩
  exact⟨_,rfl,hb,fun c'=>by simp [ah]⟩
 ·simp only[Option.some.injEq,Prod.mk.injEq]at h
  obtain⟨rfl,rfl⟩:=h
  refine lD.same hc fun c vs w hr=>?_
  obtain⟨v,rfl,h1⟩:=Gq hr
  simp only[ah]at h1
  obtain⟨a,rfl⟩:=h1
  refine(hz _ _ w).mono ?_
  rintro e w' ⟨q,rfl,hb⟩
  exact⟨_,rfl,hb,fun c'=>by simp [ah]⟩
 ·simp only[Option.some.injEq,Prod.mk.injEq]at h
  obtain⟨rfl,rfl⟩:=h
  refine lD.same hc fun c vs w hr=>?_
  obtain⟨v,rfl,h1⟩:=Gq hr
  simp only[ah]at h1
  obtain⟨_,p,_,_,a,cap,rfl,_⟩:=h1
  refine(hz _ _ w).mono ?_
  rintro e w' ⟨q,rfl,hb⟩
  exact⟨_,rfl,hb,fun c'=>by simp [ah]⟩
 ·exact h0 _ _ _ _ h
theorem FT {P:Program} {t e:TypeId} (ht:P.underlying t=some (.slice e)) (a:Option Addr) (n m:Nat) (w:World):Sem.run P (binOp .eql t (.slice a n m) (.slice none 0 0)) w=.ok (.bool a.isNone) w:=by
 simp [binOp,show(Op.equal t (.slice a n m) (.slice none 0 0)).run P w=.ok a.isNone w from RO w 9999 t a n m ht]
theorem Z1 (a:Option Addr) (cap:Nat) (w:World):Calls Try.prog 99 #[.slice a 0 cap] w fun e w'=>∃q,e=.returned (.slice q 0 0)∧Below w.heap.size w w':=by
 go_enter Try.func99,Try.ntmps99
 cases a
 ·go_wp2_with (simp only[FT (Try.underlying31),Option.isNone_none,Result.andThen_ok])
  go_ret
  exact⟨_,rfl,Below.refl _ _⟩
 ·go_wp2_with (simp only[FT (Try.underlying31),Option.isNone_some,Result.andThen_ok])
  go_ret
  exact⟨_,rfl,(Below.refl _ _).alloc (Nat.le_refl _) _⟩
theorem Y1 (a:Option Addr) (cap:Nat) (w:World):Calls Try.prog 85 #[.slice a 0 cap] w fun e w'=>∃q,e=.returned (.slice q 0 0)∧Below w.heap.size w w':=by
 go_enter Try.func85,Try.ntmps85
 cases a
 ·go_wp2_with (simp only[FT (Try.underlying40),Option.isNone_none,Result.andThen_ok])
  go_ret
  exact⟨_,rfl,Below.refl _ _⟩
 ·go_wp2_with (simp only[FT (Try.underlying40),Option.isNone_some,Result.andThen_ok])
  go_ret
  exact⟨_,rfl,(Below.refl _ _).alloc (Nat.le_refl _) _⟩
end
section
set_option maxRecDepth 100000
open Go.RowKit
theorem V7 {P:Program} (w:World) (tS tR e:TypeId) (ht:P.underlying tS=some (.slice e)) (size:Nat) (hz:∀w,(Go.sizeOf e).run P w=.ok size w)
  (a b:Addr) (la ca lb cb:Nat) (hne:a.block≠b.block) (arr qv:Array Value) (tA tB:TypeId) (fz:Nat×Nat)
  (ha:w.heap[a.block]? =some (.cells arr tA fz)) (hs:0<arr.size) (hb:w.heap[b.block]? =some (.cells qv tB (0,0))):
  (Extern.SlicesOverlaps.overlaps #[tS,tS] #[tR] #[.slice (some a) la ca,.slice (some b) lb cb]).run P w=.ok (.bool false) w:=by
 have hnb:(a.block !=b.block)=true:=by simpa using hne
 have adk:(a.block==b.block)=false:=by simpa using hne
 have hsa:w.shape? a.block=some (tA,arr.size):=by simp [World.shape?,ha]
 have hsb:w.shape? b.block=some (tB,qv.size):=by simp [World.shape?,hb]
 have hfb:w.frozen? b=false:=by simp [World.frozen?,hb]
 have ade:w.frozen? {block:=b.block,off:=qv.size}=false:=by simp [World.frozen?,hb]
 delta Extern.SlicesOverlaps.overlaps Extern.SlicesOverlaps.overlaps.match_4 Extern.SlicesOverlaps.overlaps._sparseCasesOn_4
 dsimp [Array.getLit,Array.casesOn]
 obtain⟨k,hk⟩:∃k,arr.size=k+1:=⟨arr.size-1,by omega⟩
 rw[hk]at hsa
 by_cases h0:la=0∨lb=0∨size=0
 ·simp [run_underlying ht,hz,h0]
 ·cases hfa:w.frozen? a<;>cases hfe:w.frozen? {block:=a.block,off:=k+1}<;>simp [run_underlying ht,hz,h0,hnb,adk,frozen,noView,viewAt,mayBeOne,stringish,shape,Sem.run,hsa,hsb,hfa,hfe,hfb,ade]
theorem YY {w:World} {b off:Nat} {v:Value} (h:w.cell? ⟨b,off,none⟩=some v):∃arr t fz,w.heap[b]? =some (.cells arr t fz)∧0<arr.size:=by
 unfold World.cell? at h
 simp only at h
 split at h
 ·rename_i arr t fz hh
  refine⟨arr,t,fz,hh,?_⟩
  simp only[Option.isSome_none,Bool.false_eq_true,if_false]at h
  have:=(Array.getElem?_eq_some_iff.1 h).1
  omega
 ·cases h
theorem Vy {P : Program} {nm : List Nat} {f : FuncId} {fn : Func} {tS tR e : TypeId} {i : TypeInfo} (hf : P.funcs[f]? = some fn) (h1 : (fn.name == "runtime.NumGoroutine") = false) (h2 : fn.body.isNone = true) (h3 : Extern.findNext fn = none)
  (h4:Extern.find fn=some (Extern.SlicesOverlaps.overlaps #[tS,tS] #[tR])) (ht:P.underlying tS=some (.slice e)) (hi:P.info? e=some i):Sound P nm f sH:=by
 intro args σ r σ' h
 unfold sH A.ep at h
 split at h
 ·simp only at h
  split at h
  ·rename_i sz es id g sz' off len
   split at h
   ·rename_i hg0 ss es' hs
    split at h
    ·rename_i hc
     obtain⟨hne,rfl,pV,hl⟩:=hc
     simp only[Option.some.injEq,Prod.mk.injEq]at h
     obtain⟨rfl,rfl⟩:=h
     refine .inr fun z vs e1 e2 hh ha=>?_
     obtain⟨v,u,rfl,r1,r2⟩:=Su ha
     simp only[ah]at r1 r2
     obtain⟨a,cap,rfl,hcap,adw,r1⟩:=r1
     obtain⟨b,lN,rfl,hb,hX,r1⟩:=r1.resolve_left hne
     obtain⟨hg,p,k1,k2,a',cap',rfl,adV,rx⟩:=r2
     obtain⟨j1,j2,j3,j4,⟨arr,bt,j5,j6⟩,j7,j8,j9⟩:=hh.blk id p _ k1 hs
     obtain⟨q1,q2,q3⟩:=rx j1.symm
     have hsz:∀w,(Go.sizeOf e).run P w=.ok i.size w:=fun w=>by simp [sizeOf,qi w hi]
     have ha':a'=⟨p.b,p.base+off*p.sz,none⟩:=q2.resolve_left (by omega)
     have hpb:b≠p.b:=fun k=>hX (.inr (.inl ⟨p,List.mem_of_getElem? k1,k.symm⟩))
     have hw5:z.w.heap[p.b]? =some (.cells arr bt (0,0)):=j5
     have hcell:∃v,z.w.cell? ⟨b,lN,none⟩=some v:=by
      cases es with
      |nil=>exact absurd rfl hne
      |cons x xs=>
       simp only[bg]at r1
       obtain⟨l1,l2,_⟩:=r1
       cases x with
       |nil=>simp at l1;omega
       |cons y ys=>simp only[aX]at l2;obtain⟨⟨v,l3,_⟩,_⟩:=l2;exact⟨v,l3⟩
     obtain⟨v,hv⟩:=hcell
     obtain⟨acG,t0,fz0,m1,m2⟩:=YY hv
     have hrun:=V7 (P:=P) z.w tS tR e ht i.size hsz ⟨b,lN,none⟩ a' es.length cap len cap' (by rw[ha'];exact hpb) acG arr t0 bt fz0 m1 m2 (by rw[ha'];exact hw5)
     refine⟨.bool false,z.w,z.E,?_,⟨rfl,rfl,rfl,Nat.le_refl _,fun _ _ _=>rfl,fun i p hp=>.inr ⟨p,hp,rfl⟩,fun i p hp=>⟨p,hp,.inl rfl⟩,e2,fun p hp=>hh.lt hp⟩,hh,by simp [ah]⟩
     rw[run_callFunc_extern hf h1 h2 h3 h4,hrun];rfl
    ·cases h
   ·cases h
  ·cases h
 ·cases h
theorem UE:Sound Try.prog aJ 131 sH:=Vy Try.func131 (by kernel_rfl) (by kernel_rfl) (by kernel_rfl) (tS:=31) (tR:=4) (by kernel_rfl) (e:=66) (by kernel_rfl) rfl
end
section
set_option maxRecDepth 100000
theorem XF:Sound Try.prog aJ 134 IJ:=q1 [] 35 (.s .n (.s (.s .n (.b (.l [2,7] [.exit 0,.ret] (.s .n (.s cI (.s (.b (.s .n (.s .n bO))) .n)))))) bl)) aN.nil Try.func134 Try.call134 (fun a0 σ=>by kernel_rfl) rfl rfl
theorem Ix:Sound Try.prog aJ 109 zP:=q1 [] 20 (.s .n bl) (aN.cons XF aN.nil) Try.func109 Try.call109 (fun a0 σ=>by kernel_rfl) rfl rfl
theorem uc:Sound Try.prog aJ 89 jF:=q3 [] 15 (.s .n bl) aN.nil Try.func89 Try.call89 (fun a0 a1 a2 σ=>by kernel_rfl) rfl rfl
theorem MO:Sound Try.prog aJ 190 Bs:=q1 [] 5 (.s .n bl) (aN.cons uc aN.nil) Try.func190 Try.call190 (fun a0 σ=>by kernel_rfl) rfl rfl
theorem U5:Sound Try.prog aJ 191 Hv:=q1 [5] 63 (.s .n (.s bO (.s .n (.s (.s .n (.b (.l [2,12] [.exit 0,.ret] (.s .n (.s cI (.s (.b (.s .n (.s (.b (.s .n (.j bl (.s .n (.j bl (.s .n (.j bl bO))))))) .n))) .n)))))) bl)))) (aN.cons MO (aN.cons Ix aN.nil)) Try.func191 Try.call191 (fun a0 σ=>by kernel_rfl) rfl rfl
theorem U4:Sound Try.prog aJ 185 Hr:=q1 [1,6] 115 (.s .n (.s (.b (.s .n (.j bl (.s .n (.j bl (.s .n (.j bl bO))))))) (.s .n (.s (.s .n (.b (.l [1,2,33] [.exit 1,.ret] (.s .n (.s cI (.s (.b (.s .n (.s (.b (.s .n (.j bl (.s .n (.j bl (.s .n (.j bl (.s .n (.j bl bO))))))))) (.s (.s .n bO) (.s .n (.s .n (.c [1] .n .n))))))) .n)))))) bl)))) (aN.cons Ix (aN.cons uc (aN.cons MO (aN.cons U5 aN.nil)))) Try.func185 Try.call185 (fun a0 σ=>by kernel_rfl) rfl rfl
theorem U3:Sound Try.prog aJ 164 Hq:=q1 [5] 30 (.s .n (.s bO (.s .n (.s (.s .n (.b (.l [2,13] [.exit 0,.ret] (.s .n (.s cI (.s (.b (.s .n (.s (.s .n bO) (.s bO .n)))) .n)))))) bl)))) (aN.cons U4 aN.nil) Try.func164 Try.call164 (fun a0 σ=>by kernel_rfl) rfl rfl
noncomputable def Us (dyn:Nat→List U→Heap→Option (U×Heap)):Fx:=⟨Try.prog,aJ,A.tab (fun _ _=>none) [],dyn,[],[],19,[]⟩
theorem Uq (dyn:Nat→List U→Heap→Option (U×Heap)) (hd:∀f,Sound Try.prog aJ f (dyn (aJ.getD f 0))):Sound Try.prog aJ 120 (A.wrap true [(.s 3)] .k (A.ep (D1 dyn))):=
 Sound.wrap (Sound.qy (X:=Us dyn) (fn:=Try.f120) (bF:=(.s .n (.s (.s .n (.b (.l [4,8] [.exit 0,.ret] (.s .n (.s cI (.s (.b (.s .n bO)) .n)))))) bl))) .F trivial (cD.of rfl aN.nil (hd)) Try.func120 Try.call120 (fun a0 a1 σ=>by kernel_rfl)) _ _ _ rfl rfl
theorem Hj (dyn:Nat→List U→Heap→Option (U×Heap)) (hd:∀f,Sound Try.prog aJ f (dyn (aJ.getD f 0))):Sound Try.prog aJ 120 (tY dyn):=Uq dyn hd
theorem Ed:Sound Try.prog aJ 167 vB:=q2 [2] 8 (.s .n bl) aN.nil Try.func167 Try.call167 (fun a0 a1 σ=>by kernel_rfl) rfl rfl
noncomputable def Vh:Fx:=⟨Try.prog,aJ,A.tab (fun _ _=>none) [(120,tY (A.tab (fun _ _=>none) [(64,vB),(64,vB)]))],(A.tab (fun _ _=>none) [(64,vB),(64,vB)]),[4],[],17,[]⟩
theorem Ve:Sound Try.prog aJ 145 (A.wrap true [(.s 3)] (.t [(.a jL),.k]) (A.ep (El))):=
 Sound.wrap (Sound.qy (X:=Vh) (fn:=Try.f145) (bF:=(.s .n (.s .n (.s bO bl)))) .F trivial (cD.of rfl (aN.cons (Hj _ (n5 (eO.cons (iT Ed (by kernel_rfl) rfl) (eO.cons (iT Ed (by kernel_rfl) rfl) eO.nil)))) aN.nil) (n5 (eO.cons (iT Ed (by kernel_rfl) rfl) (eO.cons (iT Ed (by kernel_rfl) rfl) eO.nil)))) Try.func145 Try.call145 (fun a0 a1 σ=>by kernel_rfl)) _ _ _ rfl rfl
theorem MP:Sound Try.prog aJ 145 Eh:=Ve
theorem U6:Sound Try.prog aJ 165 zG:=q3 [] 32 (.s .n (.s bO (.s (.s .n (.b (.l [6,7] [.exit 0,.ret] (.s (.s .n cI) (.s (.b bO) .n))))) bl))) aN.nil Try.func165 Try.call165 (fun a0 a1 a2 σ=>by kernel_rfl) rfl rfl
noncomputable def VI:Fx:=⟨Try.prog,aJ,A.tab (fun _ _=>none) [],(fun _ _ _=>none),[4],[15],33,[]⟩
theorem VH:Sound Try.prog aJ 166 (A.wrap false [] .k (A.fE (Bz))):=
 Sound.wrap (Sound.qz (X:=VI) (fn:=Try.f166) (bF:=(.s .n (.s (.s .n (.c [4] .n .n)) (.s .n (.b (.l [4,6] [.exit 0] (.s (.s .n cI) (.s (.b .n) .n)))))))) .K trivial (cD.of rfl aN.nil (fun _=>Sound.none)) Try.func166 Try.call166 (fun a0 a1 a2 σ=>by kernel_rfl)) _ _ _ rfl rfl
theorem VG:Sound Try.prog aJ 166 Er:=VH
theorem MM:Sound Try.prog aJ 140 Ef:=q1 [1,6,7] 91 (.s .n (.s (.s .n bO) (.s bO (.s .n (.s (.s .n (.b (.l [1,2,23] [.exit 0,.ret] (.s .n (.s cI (.s (.b (.s .n (.s bO (.s bO (.s .n (.s bO (.s bO (.s bO .n)))))))) .n)))))) bl))))) (aN.cons U3 (aN.cons uc (aN.cons MP (aN.cons U6 (aN.cons VG aN.nil))))) Try.func140 Try.call140 (fun a0 σ=>by kernel_rfl) rfl rfl
theorem Iy:Sound Try.prog aJ 38 BC:=q2 [] 7 (.s .n (.s bO bl)) aN.nil Try.func38 Try.call38 (fun a0 a1 σ=>by kernel_rfl) rfl rfl
theorem Nn:Sound Try.prog aJ 37 EB:=q1 [] 15 (.s .n (.s (.s .n (.b (.l [2,7] [.exit 0,.ret] (.s .n (.s cI (.s (.b (.s .n bO)) .n)))))) bl)) aN.nil Try.func37 Try.call37 (fun a0 σ=>by kernel_rfl) rfl rfl
theorem MY:Sound Try.prog aJ 118 Ep:=q1 [1,7,8,11] 50 (.s .n (.s (.s .n bO) (.s .n (.s (.s .n (.b (.l [1,5,20] [.exit 0] (.s .n (.s cI (.s (.b (.s .n (.s .n (.s .n (.b (.l [1,5,7,35] [.exit 2] (.s .n (.s cI (.s (.b bl) .n))))))))) .n)))))) bl)))) (aN.cons MM (aN.cons MP aN.nil)) Try.func118 Try.call118 (fun a0 σ=>by kernel_rfl) rfl rfl
theorem WO:Sound Try.prog aJ 141 Ir:=q1 [1,7] 24 (.s .n (.s .n (.s .n (.s (.s .n (.b (.l [16] [.exit 0] (.s .n (.s cI (.s (.b bl) .n)))))) bl)))) (aN.cons MY aN.nil) Try.func141 Try.call141 (fun a0 σ=>by kernel_rfl) rfl rfl
theorem No:Sound Try.prog aJ 90 EC:=q1 [] 40 (.s .n (.s (.s .n (.b (.l [2,6] [.exit 0,.ret] (.s .n (.s cI (.s (.b (.s .n bO)) .n)))))) bl)) aN.nil Try.func90 Try.call90 (fun a0 σ=>by kernel_rfl) rfl rfl
theorem Wg:Sound Try.prog aJ 142 H8:=q1 [] 9 (.s .n bl) (aN.cons No aN.nil) Try.func142 Try.call142 (fun a0 σ=>by kernel_rfl) rfl rfl
theorem MZ:Sound Try.prog aJ 143 Es:=q1 [] 5 (.s .n bl) (aN.cons uc aN.nil) Try.func143 Try.call143 (fun a0 σ=>by kernel_rfl) rfl rfl
theorem VU:Sound Try.prog aJ 144 HS:=q2 [2,3] 21 (.s .n (.s bO bl)) (aN.cons MQ aN.nil) Try.func144 Try.call144 (fun a0 a1 σ=>by kernel_rfl) rfl rfl
theorem U8:Sound Try.prog aJ 117 HA:=q2 [2,8,10] 97 (.s .n (.s (.s .n bO) (.s .n (.s (.s .n (.b (.l [4,26] [.exit 0,.ret] (.s .n (.s cI (.s (.b (.s .n (.s (.b (.s .n (.j bl (.s .n (.j bl (.s .n (.j bl bO))))))) (.s .n (.b (.l [4,8,63] [.exit 3,.ret] (.s .n (.s cI (.s (.b (.s .n (.b (.s .n (.j bl (.s .n (.j bl bO))))))) .n))))))))) .n)))))) bl)))) (aN.cons MM (aN.cons Iy (aN.cons Nn (aN.cons WO (aN.cons uc (aN.cons Wg (aN.cons MZ (aN.cons VU aN.nil)))))))) Try.func117 Try.call117 (fun a0 a1 σ=>by kernel_rfl) rfl rfl
theorem Ni:Sound Try.prog aJ 91 vD:=q1 [] 5 (.s .n bl) (aN.cons uc aN.nil) Try.func91 Try.call91 (fun a0 σ=>by kernel_rfl) rfl rfl
theorem U9:Sound Try.prog aJ 92 HC:=q1 [1,5] 90 (.s .n (.s bO (.s .n (.s bO (.s bO (.s bO (.s (.s .n (.b (.l [2,28] [.exit 0,.ret] (.s .n (.s cI (.s (.b (.s .n bO)) .n)))))) (.s bO (.s (.s .n (.b (.l [2,6] [.exit 2,.ret] (.s (.s .n cI) (.s (.b bO) .n))))) bl))))))))) (aN.cons uc (aN.cons Iy aN.nil)) Try.func92 Try.call92 (fun a0 σ=>by kernel_rfl) rfl rfl
theorem M7:Sound Try.prog aJ 88 Eu:=q2 [2,3] 20 (.s .n (.s (.s .n (.j (.s bO bl) .n)) bl)) (aN.cons MQ aN.nil) Try.func88 Try.call88 (fun a0 a1 σ=>by kernel_rfl) rfl rfl
theorem Vl:Sound Try.prog aJ 64 HG:=q1 [4] 99 (.s .n (.s (.s .n (.b (.l [2,7] [.exit 0,.ret] (.s .n (.s cI (.s (.b (.s .n (.b (.s .n (.j bl (.s .n (.j bl (.s .n (.j bl (.s .n (.j bl (.s .n (.j bl (.s .n (.j bl bO))))))))))))))) .n)))))) bl)) (aN.cons uc (aN.cons Ix (aN.cons Ni (aN.cons M7 aN.nil)))) Try.func64 Try.call64 (fun a0 σ=>by kernel_rfl) rfl rfl
theorem N8:Sound Try.prog aJ 35 zS:=q1 [5] 101 (.s .n (.s bO (.s .n (.s (.s .n (.b (.l [2,3,13] [.exit 0,.ret] (.s .n (.s cI (.s (.b (.s .n (.s (.b (.s .n (.j bl (.s .n (.j bl (.s .n (.j bl bO))))))) (.s (.s .n bO) (.s bO (.s (.s .n bO) .n)))))) .n)))))) bl)))) (aN.cons uc (aN.cons No (aN.cons Ni (aN.cons U9 (aN.cons Vl (aN.cons Iy aN.nil)))))) Try.func35 Try.call35 (fun a0 σ=>by kernel_rfl) rfl rfl
theorem Nl:Sound Try.prog aJ 119 BA:=q3 [4,5,9,11] 55 (.s .n (.s bO (.s bO (.s bO (.s (.s .n (.b (.l [4,5,6,7,31] [.exit 0,.ret] (.s .n (.s cI (.s (.b (.s .n (.s (.s .n cI) (.s (.s .n (.b (.l [4,6,7,43] [.exit 2,.ret] (.s .n (.s cI (.s (.b (.s .n bO)) .n)))))) .n)))) .n)))))) bl))))) (aN.cons MZ aN.nil) Try.func119 Try.call119 (fun a0 a1 a2 σ=>by kernel_rfl) rfl rfl
theorem MV:Sound Try.prog aJ 73 Bv:=q3 [3,12,14,16] 76 (.s .n (.s (.s .n bO) (.s .n (.s .n (.s (.s .n (.b (.l [37] [.exit 0] (.s .n (.s cI (.s (.b bl) .n)))))) (.s (.s .n (.b (.l [6,46] [.exit 2,.ret] (.s .n (.s cI (.s (.b (.s .n (.s .n (.b (.l [6,53] [.exit 4,.ret] (.s .n (.s cI (.s (.b (.s .n (.s bO (.s .n bO)))) .n)))))))) .n)))))) bl)))))) (aN.cons U8 (aN.cons N8 (aN.cons Nn (aN.cons MY (aN.cons Nl aN.nil))))) Try.func73 Try.call73 (fun a0 a1 a2 σ=>by kernel_rfl) rfl rfl
theorem NJ:Sound Try.prog aJ 55 vH:=q1 [5,7] 40 (.s .n (.s .n (.s (.s .n (.b (.l [11] [.exit 0] (.s .n (.s cI (.s (.b (.s .n (.s .n (.b (.l [5,18] [.exit 2] (.s .n (.s cI (.s (.b (.s .n (.s .n (.c [5] .n .n)))) .n)))))))) .n)))))) bl))) aN.nil Try.func55 Try.call55 (fun a0 σ=>by kernel_rfl) rfl rfl
theorem En:Sound Try.prog aJ 125 vC:=q2 [2] 9 (.s .n bl) aN.nil Try.func125 Try.call125 (fun a0 a1 σ=>by kernel_rfl) rfl rfl
noncomputable def Wo:Fx:=⟨Try.prog,aJ,A.tab (fun _ _=>none) [(120,tY (A.tab (fun _ _=>none) [(226,vC),(226,vC)])),(119,BA)],(A.tab (fun _ _=>none) [(226,vC),(226,vC)]),[3,12,13,15],[9],70,[]⟩
theorem Wk:Sound Try.prog aJ 78 (A.wrap true [(.a [(.e 3 jL),(.s 4)]),tj] (.s 3) (A.fE (EF))):=
 Sound.wrap (Sound.qz (X:=Wo) (fn:=Try.f78) (bF:=(.s .n (.s .n (.s (.s .n (.b (.l [3,7,20] [.exit 0] (.s .n (.s cI (.s (.b (.s .n (.s .n (.s .n (.b (.l [3,7,35] [.exit 2] (.s .n (.s cI (.s (.b (.s .n (.s .n (.s .n (.s (.s .n (.s .n (.c [3,13,14] .n .n))) .n))))) .n))))))))) .n)))))) bl)))) .F trivial (cD.of rfl (aN.cons (Hj _ (n5 (eO.cons (iT En (by kernel_rfl) rfl) (eO.cons (iT En (by kernel_rfl) rfl) eO.nil)))) (aN.cons Nl aN.nil)) (n5 (eO.cons (iT En (by kernel_rfl) rfl) (eO.cons (iT En (by kernel_rfl) rfl) eO.nil)))) Try.func78 Try.call78 (fun a0 a1 a2 σ=>by kernel_rfl)) _ _ _ rfl rfl
theorem Nj:Sound Try.prog aJ 78 vE:=Wk
theorem Ev:Sound Try.prog aJ 121 qh:=q2 [2] 9 (.s .n bl) aN.nil Try.func121 Try.call121 (fun a0 a1 σ=>by kernel_rfl) rfl rfl
noncomputable def YN:Fx:=⟨Try.prog,aJ,A.tab (fun _ _=>none) [(120,tY (A.tab (fun _ _=>none) [(225,qh),(225,qh)])),(55,vH),(78,vE)],(A.tab (fun _ _=>none) [(225,qh),(225,qh)]),[3,12,13,17],[9,21],114,[]⟩
theorem YL:Sound Try.prog aJ 74 (A.wrap true [(.a [(.e 3 jL),(.s 4)]),tj,(.e 11 iy)] .k (A.fE (Fa))):=
 Sound.wrap (Sound.qz (X:=YN) (fn:=Try.f74) (bF:=(.s .n (.s .n (.s (.s .n (.b (.l [3,25] [.exit 0] (.s .n (.s cI (.s (.b (.s .n (.s .n (.s .n (.b (.l [3,40] [.exit 2] (.s .n (.s cI (.s (.b (.s .n (.s .n (.s .n (.s .n (.c [3] .n .n)))))) .n))))))))) .n)))))) (.s (.s .n (.b (.l [3,79] [.exit 4] (.s .n (.s cI (.s (.b (.s .n (.s .n (.s (.s .n (.b (.l [3,92] [.exit 6] (.s .n (.s cI (.s (.b bl) .n)))))) .n)))) .n)))))) bl))))) .F trivial (cD.of rfl (aN.cons (Hj _ (n5 (eO.cons (iT Ev (by kernel_rfl) rfl) (eO.cons (iT Ev (by kernel_rfl) rfl) eO.nil)))) (aN.cons NJ (aN.cons Nj aN.nil))) (n5 (eO.cons (iT Ev (by kernel_rfl) rfl) (eO.cons (iT Ev (by kernel_rfl) rfl) eO.nil)))) Try.func74 Try.call74 (fun a0 a1 a2 σ=>by kernel_rfl)) _ _ _ rfl rfl
theorem Yz:Sound Try.prog aJ 74 E5:=YL
noncomputable def UT:Fx:=⟨Try.prog,aJ,A.tab (fun _ _=>none) [],(fun _ _ _=>none),[],[],8,[]⟩
theorem UQ:Sound Try.prog aJ 85 (A.wrap true [(.s 2)] .k (A.fD (MJ))):=
 Sound.wrap (Sound.AZ (X:=UT) (fn:=Try.f85) (bF:=(.s .n (.s bO bl))) .K trivial (cD.of rfl aN.nil (fun _=>Sound.none)) Try.func85 Try.call85 (fun a0 σ=>by kernel_rfl)) _ _ _ rfl rfl
theorem UN:Sound Try.prog aJ 85 D8:=Nw UQ Try.call85 Y1
noncomputable def U2:Fx:=⟨Try.prog,aJ,A.tab (fun _ _=>none) [],(fun _ _ _=>none),[],[],8,[]⟩
theorem U1:Sound Try.prog aJ 99 (A.wrap true [(.s 8)] .k (A.fD (ML))):=
 Sound.wrap (Sound.AZ (X:=U2) (fn:=Try.f99) (bF:=(.s .n (.s bO bl))) .K trivial (cD.of rfl aN.nil (fun _=>Sound.none)) Try.func99 Try.call99 (fun a0 σ=>by kernel_rfl)) _ _ _ rfl rfl
theorem U0:Sound Try.prog aJ 99 Eb:=Nw U1 Try.call99 Z1
noncomputable def Wn:Fx:=⟨Try.prog,aJ,A.tab (fun _ _=>none) [(85,D8),(99,Eb)],(fun _ _ _=>none),[5],[],28,[]⟩
theorem Wj:Sound Try.prog aJ 53 (A.wrap true [(.e 11 iy)] .k (A.fD (EE))):=
 Sound.wrap (Sound.AZ (X:=Wn) (fn:=Try.f53) (bF:=(.s .n (.s .n (.s (.s .n (.b (.l [3,8] [.exit 0] (.s .n (.s cI (.s (.b (.s .n (.s .n bl))) .n)))))) bl)))) .K trivial (cD.of rfl (aN.cons UN (aN.cons U0 aN.nil)) (fun _=>Sound.none)) Try.func53 Try.call53 (fun a0 σ=>by kernel_rfl)) _ _ _ rfl rfl
theorem Wf:Sound Try.prog aJ 53 EA:=Wj
noncomputable def UJ (dyn:Nat→List U→Heap→Option (U×Heap)):Fx:=⟨Try.prog,aJ,A.tab (fun _ _=>none) [],dyn,[],[],19,[]⟩
theorem UI (dyn:Nat→List U→Heap→Option (U×Heap)) (hd:∀f,Sound Try.prog aJ f (dyn (aJ.getD f 0))):Sound Try.prog aJ 168 (A.wrap true [(.s 2)] .k (A.ep (D7 dyn))):=
 Sound.wrap (Sound.qy (X:=UJ dyn) (fn:=Try.f168) (bF:=(.s .n (.s (.s .n (.b (.l [4,8] [.exit 0,.ret] (.s .n (.s cI (.s (.b (.s .n bO)) .n)))))) bl))) .F trivial (cD.of rfl aN.nil (hd)) Try.func168 Try.call168 (fun a0 a1 σ=>by kernel_rfl)) _ _ _ rfl rfl
theorem UH (dyn:Nat→List U→Heap→Option (U×Heap)) (hd:∀f,Sound Try.prog aJ f (dyn (aJ.getD f 0))):Sound Try.prog aJ 168 (D6 dyn):=UI dyn hd
noncomputable def Uy (dyn:Nat→List U→Heap→Option (U×Heap)):Fx:=⟨Try.prog,aJ,A.tab (fun _ _=>none) [(168,D6 dyn)],dyn,[],[],9,[]⟩
theorem Uw (dyn:Nat→List U→Heap→Option (U×Heap)) (hd:∀f,Sound Try.prog aJ f (dyn (aJ.getD f 0))):Sound Try.prog aJ 146 (A.wrap true [(.s 2)] .k (A.ep (D3 dyn))):=
 Sound.wrap (Sound.qy (X:=Uy dyn) (fn:=Try.f146) (bF:=(.s .n bl)) .F trivial (cD.of rfl (aN.cons (UH dyn hd) aN.nil) (hd)) Try.func146 Try.call146 (fun a0 a1 σ=>by kernel_rfl)) _ _ _ rfl rfl
theorem Uu (dyn:Nat→List U→Heap→Option (U×Heap)) (hd:∀f,Sound Try.prog aJ f (dyn (aJ.getD f 0))):Sound Try.prog aJ 146 (D2 dyn):=Uw dyn hd
theorem Ee:Sound Try.prog aJ 147 qg:=q3 [3] 15 (.s .n bl) aN.nil Try.func147 Try.call147 (fun a0 a1 a2 σ=>by kernel_rfl) rfl rfl
end
section
set_option maxRecDepth 100000
noncomputable def Vo:Fx:=⟨Try.prog,aJ,A.tab (fun _ _=>none) [(146,D2 (A.tab (fun _ _=>none) [(229,qg),(229,qg)]))],(A.tab (fun _ _=>none) [(229,qg),(229,qg)]),[],[],23,[]⟩
theorem Vn:Sound Try.prog aJ 122 (A.wrap true [] .k (A.fE (Em))):=
 Sound.wrap (Sound.qz (X:=Vo) (fn:=Try.f122) (bF:=(.s .n (.s .n bl))) .F trivial (cD.of rfl (aN.cons (Uu _ (n5 (eO.cons (iT Ee (by kernel_rfl) rfl) (eO.cons (iT Ee (by kernel_rfl) rfl) eO.nil)))) aN.nil) (n5 (eO.cons (iT Ee (by kernel_rfl) rfl) (eO.cons (iT Ee (by kernel_rfl) rfl) eO.nil)))) Try.func122 Try.call122 (fun a0 a1 a2 σ=>by kernel_rfl)) _ _ _ rfl rfl
theorem Vm:Sound Try.prog aJ 122 oN:=Vn
noncomputable def Vg:Fx:=⟨Try.prog,aJ,A.tab (fun _ _=>none) [],(fun _ _ _=>none),[4,9],[],38,[]⟩
theorem Vd:Sound Try.prog aJ 76 (A.wrap true [.k,(.a iy)] .k (A.fE (Ek))):=
 Sound.wrap (Sound.qz (X:=Vg) (fn:=Try.f76) (bF:=(.s .n (.s .n (.s (.s .n (.b (.l [7,13] [.exit 0] (.s .n (.s cI (.s (.b (.s .n (.s .n (.c [7] .n .n)))) .n)))))) bl)))) .K trivial (cD.of rfl aN.nil (fun _=>Sound.none)) Try.func76 Try.call76 (fun a0 a1 a2 σ=>by kernel_rfl)) _ _ _ rfl rfl
theorem MN:Sound Try.prog aJ 76 nD:=Vd
noncomputable def UG (dyn:Nat→List U→Heap→Option (U×Heap)):Fx:=⟨Try.prog,aJ,A.tab (fun _ _=>none) [],dyn,[],[],19,[]⟩
theorem UF (dyn:Nat→List U→Heap→Option (U×Heap)) (hd:∀f,Sound Try.prog aJ f (dyn (aJ.getD f 0))):Sound Try.prog aJ 133 (A.wrap true [(.s 8)] .k (A.ep (D5 dyn))):=
 Sound.wrap (Sound.qy (X:=UG dyn) (fn:=Try.f133) (bF:=(.s .n (.s (.s .n (.b (.l [4,8] [.exit 0,.ret] (.s .n (.s cI (.s (.b (.s .n bO)) .n)))))) bl))) .F trivial (cD.of rfl aN.nil (hd)) Try.func133 Try.call133 (fun a0 a1 σ=>by kernel_rfl)) _ _ _ rfl rfl
theorem UD (dyn:Nat→List U→Heap→Option (U×Heap)) (hd:∀f,Sound Try.prog aJ f (dyn (aJ.getD f 0))):Sound Try.prog aJ 133 (D4 dyn):=UF dyn hd
noncomputable def Ur (dyn:Nat→List U→Heap→Option (U×Heap)):Fx:=⟨Try.prog,aJ,A.tab (fun _ _=>none) [(133,D4 dyn)],dyn,[],[],9,[]⟩
theorem Uo (dyn:Nat→List U→Heap→Option (U×Heap)) (hd:∀f,Sound Try.prog aJ f (dyn (aJ.getD f 0))):Sound Try.prog aJ 123 (A.wrap true [(.s 8)] .k (A.ep (D0 dyn))):=
 Sound.wrap (Sound.qy (X:=Ur dyn) (fn:=Try.f123) (bF:=(.s .n bl)) .F trivial (cD.of rfl (aN.cons (UD dyn hd) aN.nil) (hd)) Try.func123 Try.call123 (fun a0 a1 σ=>by kernel_rfl)) _ _ _ rfl rfl
theorem Un (dyn:Nat→List U→Heap→Option (U×Heap)) (hd:∀f,Sound Try.prog aJ f (dyn (aJ.getD f 0))):Sound Try.prog aJ 123 (Bm dyn):=Uo dyn hd
theorem Ec:Sound Try.prog aJ 124 qd:=q3 [3] 27 (.s .n bl) aN.nil Try.func124 Try.call124 (fun a0 a1 a2 σ=>by kernel_rfl) rfl rfl
noncomputable def Vf:Fx:=⟨Try.prog,aJ,A.tab (fun _ _=>none) [(122,oN),(76,A.ku (.s 8) nD),(123,Bm (A.tab (fun _ _=>none) [(234,qd),(234,qd)]))],(A.tab (fun _ _=>none) [(234,qd),(234,qd)]),[4,10],[8],94,[]⟩
theorem Vc:Sound Try.prog aJ 75 (A.wrap true [.k,(.a [(.e 3 jL),(.s 4)]),(.e 11 iy)] (.s 3) (A.fE (Ej))):=
 Sound.wrap (Sound.qz (X:=Vf) (fn:=Try.f75) (bF:=(.s .n (.s .n (.s (.s .n (.b (.l [4,7,8] [.exit 0] (.s (.s .n cI) (.s (.b (.s .n (.b (.l [4,7,23] [.exit 2] (.s .n (.s cI (.s (.b (.s .n (.s .n (.s (.s .n cI) (.s .n (.s (.s .n cI) (.s .n (.s (.b (.l [4,13] [.exit 4] (.s (.s .n cI) (.b .n)))) .n)))))))) .n))))))) (.s bl .n)))))) bl)))) .F trivial (cD.of rfl (aN.cons Vm (aN.cons (Sound.ku MN (.s 8) rfl) (aN.cons (Un _ (n5 (eO.cons (iT Ec (by kernel_rfl) rfl) (eO.cons (iT Ec (by kernel_rfl) rfl) eO.nil)))) aN.nil))) (n5 (eO.cons (iT Ec (by kernel_rfl) rfl) (eO.cons (iT Ec (by kernel_rfl) rfl) eO.nil)))) Try.func75 Try.call75 (fun a0 a1 a2 σ=>by kernel_rfl)) _ _ _ rfl rfl
theorem Vb:Sound Try.prog aJ 75 Eg:=Vc
noncomputable def Uj (dyn:Nat→List U→Heap→Option (U×Heap)):Fx:=⟨Try.prog,aJ,A.tab (fun _ _=>none) [],dyn,[],[],49,[]⟩
theorem Ui (dyn:Nat→List U→Heap→Option (U×Heap)) (hd:∀f,Sound Try.prog aJ f (dyn (aJ.getD f 0))):Sound Try.prog aJ 93 (A.wrap true [(.s 11)] .k (A.fE (zD dyn))):=
 Sound.wrap (Sound.qz (X:=Uj dyn) (fn:=Try.f93) (bF:=(.s .n (.s .n (.s .n (.s (.b (.l [9,10] [.exit 0] (.s (.s .n cI) (.b (.s .n (.s .n (.c [9,10] .n .n))))))) bl))))) .F trivial (cD.of rfl aN.nil (hd)) Try.func93 Try.call93 (fun a0 a1 a2 σ=>by kernel_rfl)) _ _ _ rfl rfl
theorem Uh (dyn:Nat→List U→Heap→Option (U×Heap)) (hd:∀f,Sound Try.prog aJ f (dyn (aJ.getD f 0))):Sound Try.prog aJ 93 (zC dyn):=Ui dyn hd
theorem MW:Sound Try.prog aJ 94 xA:=q2 [2] 9 (.s .n bl) aN.nil Try.func94 Try.call94 (fun a0 a1 σ=>by kernel_rfl) rfl rfl
noncomputable def WU:Fx:=⟨Try.prog,aJ,A.tab (fun _ _=>none) [(93,zC (A.tab (fun _ _=>none) [(177,xA)]))],(A.tab (fun _ _=>none) [(177,xA)]),[],[],11,[]⟩
theorem WT:Sound Try.prog aJ 36 (A.wrap true [(.e 11 iy)] .k (A.ep (EM))):=
 Sound.wrap (Sound.qy (X:=WU) (fn:=Try.f36) (bF:=(.s .n bl)) .F trivial (cD.of rfl (aN.cons (Uh _ (n5 (eO.cons (iT MW (by kernel_rfl) rfl) eO.nil))) aN.nil) (n5 (eO.cons (iT MW (by kernel_rfl) rfl) eO.nil))) Try.func36 Try.call36 (fun a0 a1 σ=>by kernel_rfl)) _ _ _ rfl rfl
theorem NI:Sound Try.prog aJ 36 ud:=WT
noncomputable def Ug (dyn:Nat→List U→Heap→Option (U×Heap)):Fx:=⟨Try.prog,aJ,A.tab (fun _ _=>none) [],dyn,[4],[],49,[]⟩
theorem Uf (dyn:Nat→List U→Heap→Option (U×Heap)) (hd:∀f,Sound Try.prog aJ f (dyn (aJ.getD f 0))):Sound Try.prog aJ 107 (A.wrap true [(.s 8)] .k (A.fE (DZ dyn))):=
 Sound.wrap (Sound.qz (X:=Ug dyn) (fn:=Try.f107) (bF:=(.s .n (.s .n (.s .n (.s (.b (.l [4,9,10] [.exit 0] (.s (.s .n cI) (.b (.s .n (.s .n (.c [4,9,10] .n .n))))))) bl))))) .F trivial (cD.of rfl aN.nil (hd)) Try.func107 Try.call107 (fun a0 a1 a2 σ=>by kernel_rfl)) _ _ _ rfl rfl
theorem Ue (dyn:Nat→List U→Heap→Option (U×Heap)) (hd:∀f,Sound Try.prog aJ f (dyn (aJ.getD f 0))):Sound Try.prog aJ 107 (DY dyn):=Uf dyn hd
theorem MR:Sound Try.prog aJ 108 Bu:=q2 [2,3] 9 (.s .n bl) (aN.cons M7 aN.nil) Try.func108 Try.call108 (fun a0 a1 σ=>by kernel_rfl) rfl rfl
noncomputable def Wp:Fx:=⟨Try.prog,aJ,A.tab (fun _ _=>none) [(107,DY (A.tab (fun _ _=>none) [(185,Bu)]))],(A.tab (fun _ _=>none) [(185,Bu)]),[2,3],[],12,[]⟩
theorem Wl:Sound Try.prog aJ 58 (A.wrap true [(.a iy)] .k (A.ep (EG))):=
 Sound.wrap (Sound.qy (X:=Wp) (fn:=Try.f58) (bF:=(.s .n bl)) .F trivial (cD.of rfl (aN.cons (Ue _ (n5 (eO.cons (iT MR (by kernel_rfl) rfl) eO.nil))) aN.nil) (n5 (eO.cons (iT MR (by kernel_rfl) rfl) eO.nil))) Try.func58 Try.call58 (fun a0 a1 σ=>by kernel_rfl)) _ _ _ rfl rfl
theorem Nk:Sound Try.prog aJ 58 vF:=Wl
noncomputable def UU:Fx:=⟨Try.prog,aJ,A.tab (fun _ _=>none) [],(fun _ _ _=>none),[],[],33,[]⟩
theorem UR:Sound Try.prog aJ 77 (A.wrap false [] .k (A.fE (D9))):=
 Sound.wrap (Sound.qz (X:=UU) (fn:=Try.f77) (bF:=(.s .n (.s .n (.s bO (.s .n (.s .n (.s .n bl))))))) .R trivial (cD.of rfl aN.nil (fun _=>Sound.none)) Try.func77 Try.call77 (fun a0 a1 a2 σ=>by kernel_rfl)) _ _ _ rfl rfl
theorem UO:Sound Try.prog aJ 77 zF:=UR
noncomputable def UM:Fx:=⟨Try.prog,aJ,A.tab (fun _ _=>none) [],(fun _ _ _=>none),[],[],28,[]⟩
theorem UL:Sound Try.prog aJ 183 (A.wrap false [] .k (A.fD (MI))):=
 Sound.wrap (Sound.AZ (X:=UM) (fn:=Try.f183) (bF:=(.s .n (.b (.l [2,3] [.exit 0] (.s (.s .n cI) (.s (.b .n) .n)))))) .K trivial (cD.of rfl aN.nil (fun _=>Sound.none)) Try.func183 Try.call183 (fun a0 σ=>by kernel_rfl)) _ _ _ rfl rfl
theorem UK:Sound Try.prog aJ 183 Bo:=UL
noncomputable def UC:Fx:=⟨Try.prog,aJ,A.tab (fun _ _=>none) [(183,Bo)],(fun _ _ _=>none),[],[],14,[]⟩
theorem UB:Sound Try.prog aJ 160 (A.wrap false [] .k (A.ep (MH))):=
 Sound.wrap (Sound.qy (X:=UC) (fn:=Try.f160) (bF:=(.s .n bl)) .K trivial (cD.of rfl (aN.cons UK aN.nil) (fun _=>Sound.none)) Try.func160 Try.call160 (fun a0 a1 σ=>by kernel_rfl)) _ _ _ rfl rfl
theorem UA:Sound Try.prog aJ 160 Hl:=UB
noncomputable def Uz:Fx:=⟨Try.prog,aJ,A.tab (fun _ _=>none) [(160,Hl)],(fun _ _ _=>none),[],[],10,[]⟩
theorem Ux:Sound Try.prog aJ 132 (A.wrap false [] .k (A.ep (MG))):=
 Sound.wrap (Sound.qy (X:=Uz) (fn:=Try.f132) (bF:=.n) .K trivial (cD.of rfl (aN.cons UA aN.nil) (fun _=>Sound.none)) Try.func132 Try.call132 (fun a0 a1 σ=>by kernel_rfl)) _ _ _ rfl rfl
theorem Uv:Sound Try.prog aJ 132 Bn:=Ux
noncomputable def UW:Fx:=⟨Try.prog,aJ,A.tab (fun _ _=>none) [(131,sH),(132,Bn)],(fun _ _ _=>none),[],[],95,[]⟩
theorem US:Sound Try.prog aJ 101 (A.wrap false [] .k (A.fE (Ea))):=
 Sound.wrap (Sound.qz (X:=UW) (fn:=Try.f101) (bF:=(.s .n (.s .n (.s .n (.s bO (.s .n (.s bO (.s (.s .n (.j (.s .n (.s .n (.s .n bl))) .n)) (.s .n (.s (.s .n (.j (.s .n (.s .n bl)) .n)) (.s .n (.s .n bl)))))))))))) .R trivial (cD.of rfl (aN.cons UE (aN.cons Uv aN.nil)) (fun _=>Sound.none)) Try.func101 Try.call101 (fun a0 a1 a2 σ=>by kernel_rfl)) _ _ _ rfl rfl
theorem UP:Sound Try.prog aJ 101 Bp:=US
noncomputable def YM:Fx:=⟨Try.prog,aJ,A.tab (fun _ _=>none) [(58,vF),(101,Bp)],(fun _ _ _=>none),[3],[],34,[101]⟩
theorem YK:Sound Try.prog aJ 59 (A.wrap false [] .k (A.ep (BO))):=
 Sound.wrap (Sound.qy (X:=YM) (fn:=Try.f59) (bF:=(.s .n (.s .n (.s bO .n)))) .K trivial (cD.of rfl (aN.cons Nk (aN.cons UP aN.nil)) (fun _=>Sound.none)) Try.func59 Try.call59 (fun a0 a1 σ=>by kernel_rfl)) _ _ _ rfl rfl
theorem Yy:Sound Try.prog aJ 59 zY:=YK
noncomputable def XP:Fx:=⟨Try.prog,aJ,A.tab (fun _ _=>none) [(35,zS)],(fun _ _ _=>none),[],[],11,[]⟩
theorem XO:Sound Try.prog aJ 40 (A.wrap false [] .k (A.fD (EU))):=
 Sound.wrap (Sound.AZ (X:=XP) (fn:=Try.f40) (bF:=(.s .n (.s (.s .n bO) bl))) .K trivial (cD.of rfl (aN.cons N8 aN.nil) (fun _=>Sound.none)) Try.func40 Try.call40 (fun a0 σ=>by kernel_rfl)) _ _ _ rfl rfl
theorem XE:Sound Try.prog aJ 40 BJ:=XO
noncomputable def Wm:Fx:=⟨Try.prog,aJ,A.tab (fun _ _=>none) [(73,Bv),(74,E5),(53,EA),(75,Eg),(36,ud),(76,A.ku (.s 8) nD),(58,vF),(77,zF),(59,zY),(40,BJ)],(fun _ _ _=>none),[3,12,18],[],107,[59]⟩
theorem Wi:Sound Try.prog aJ 23 (A.wrap true [(.a [(.e 3 jL),(.s 4)]),tj,(.e 11 iy)] (.t [(.e 11 iy),.k]) (A.fE (ED))):=
 Sound.wrap (Sound.qz (X:=Wm) (fn:=Try.f23) (bF:=(.s .n (.s (.s .n bO) (.s .n (.s .n (.s (.s .n (.b (.l [39] [.exit 0] (.s .n (.s cI (.s (.b (.s .n (.s .n (.s .n (.s .n (.b (.l [66] [.exit 2] (.s .n (.s cI (.s (.b (.s .n (.s .n (.s .n bl)))) .n)))))))))) .n)))))) bl)))))) .F trivial (cD.of rfl (aN.cons MV (aN.cons Yz (aN.cons Wf (aN.cons Vb (aN.cons NI (aN.cons (Sound.ku MN (.s 8) rfl) (aN.cons Nk (aN.cons UO (aN.cons Yy (aN.cons XE aN.nil)))))))))) (fun _=>Sound.none)) Try.func23 Try.call23 (fun a0 a1 a2 σ=>by kernel_rfl)) _ _ _ rfl rfl
theorem We:Sound Try.prog aJ 23 H7:=Wi
theorem Wd:Sound Try.prog aJ 24 Ez:=q4 [4] 36 (.s .n (.s (.s .n bO) (.s .n (.s bO bl)))) (aN.cons MV (aN.cons NI (aN.cons NJ (aN.cons Nj aN.nil)))) Try.func24 Try.call24 (fun a0 a1 a2 a3 σ=>by kernel_rfl) rfl rfl
theorem Yx:Sound Try.prog aJ 79 IZ:=q2 [2,6] 21 (.s .n (.s (.s .n (.b (.l [4,10] [.exit 0,.ret] (.s .n (.s cI (.s (.b (.s .n bO)) .n)))))) bl)) aN.nil Try.func79 Try.call79 (fun a0 a1 σ=>by kernel_rfl) rfl rfl
theorem Wc:Sound Try.prog aJ 80 H6:=q2 [4,7] 21 (.s .n (.s (.s .n (.b (.l [4,5,10] [.exit 0,.ret] (.s .n (.s cI (.s (.b (.s .n bO)) .n)))))) bl)) aN.nil Try.func80 Try.call80 (fun a0 a1 σ=>by kernel_rfl) rfl rfl
theorem XD:Sound Try.prog aJ 81 II:=q2 [2,4,7] 22 (.s .n (.s (.s .n (.b (.l [4,5,11] [.exit 0,.ret] (.s .n (.s cI (.s (.b (.s .n bO)) .n)))))) bl)) aN.nil Try.func81 Try.call81 (fun a0 a1 σ=>by kernel_rfl) rfl rfl
theorem Nh:Sound Try.prog aJ 25 Ey:=q2 [2,3,4,7] 34 (.s .n (.s .n (.s bO (.s .n bl)))) (aN.cons Yx (aN.cons Wc (aN.cons XD aN.nil))) Try.func25 Try.call25 (fun a0 a1 σ=>by kernel_rfl) rfl rfl
theorem ZG:Sound Try.prog aJ 26 Jo:=q3 [3,8,9] 40 (.s .n (.s (.s .n (.b (.l [3,6,13] [.exit 0,.ret] (.s .n (.s cI (.s (.b (.s .n (.s .n bO))) .n)))))) bl)) (aN.cons Nh aN.nil) Try.func26 Try.call26 (fun a0 a1 a2 σ=>by kernel_rfl) rfl rfl
theorem UZ:Sound Try.prog aJ 6 MK:=q3 [3,10,16,17] 108 (.s .n (.s .n (.s bO (.s bO (.s (.s .n (.b (.l [3,6,38] [.exit 0,.ret] (.s .n (.s cI (.s (.b (.s .n (.s .n (.s .n (.s bO (.s .n (.b (.l [3,6,75] [.exit 2,.ret] (.s .n (.s cI (.s (.b (.s .n (.s .n bO))) .n))))))))))) .n)))))) bl))))) (aN.cons We (aN.cons Wd (aN.cons Nh (aN.cons ZG aN.nil)))) Try.func6 Try.call6 (fun a0 a1 a2 σ=>by kernel_rfl) rfl rfl
end
section
theorem bq (s t:ByteArray):(s==t)=decide (s=t):=by
 obtain⟨a⟩:=s
 obtain⟨b⟩:=t
 show(a==b)=_
 rw[Bool.eq_iff_iff]
 simp
section
variable {α β : Type}
theorem cT (t e:Option α):A.cond (.bool true) t e=t:=rfl
theorem cF (t e:Option α):A.cond (.bool false) t e=e:=rfl
theorem To (e d:Option α):A.guard (.bool true) true e d=e:=rfl
theorem Tn (e d:Option α):A.guard (.bool true) false e d=d:=rfl
theorem Tm (e d:Option α):A.guard (.bool false) true e d=d:=rfl
theorem Tl (e d:Option α):A.guard (.bool false) false e d=e:=rfl
theorem pT (x y:U):A.pick (.bool true) x y=some x:=rfl
theorem pF (x y:U):A.pick (.bool false) x y=some y:=rfl
theorem qG {p:Prop} [Decidable p] {w:Bool} {e d:Option α} {f:α→Option β}:(A.guard (.bool (decide p)) w e d).bind f=if p then(A.guard (.bool true) w e d).bind f else(A.guard (.bool false) w e d).bind f:=by by_cases h:p<;>simp [h]
theorem qF {b w:Bool} {e d:Option α} {f:α→Option β}:(A.guard (.bool b) w e d).bind f=match b with|true=>(A.guard (.bool true) w e d).bind f|false=>(A.guard (.bool false) w e d).bind f:=by cases b<;>rfl
theorem qD {p:Prop} [Decidable p] {t e:Option α}:A.cond (.bool (decide p)) t e=if p then t else e:=by by_cases h:p<;>simp [h,A.cond]
theorem qw {p:Prop} [Decidable p] {t e:Option α}:A.cond (.bool (!decide p)) t e=if p then e else t:=by by_cases h:p<;>simp [h,A.cond]
theorem qC {b:Bool} {t e:Option α}:A.cond (.bool (!b)) t e=match b with|true=>e|false=>t:=by cases b<;>rfl
theorem qB {b:Bool} {t e:Option α}:A.cond (.bool b) t e=match b with|true=>t|false=>e:=by cases b<;>rfl
theorem gN (w:Bool) (e d:Option α):A.guard (.aA []) w e d=d:=rfl
theorem xN (a b:AX):(a==b)=decide (a=b):=by rw[Bool.eq_iff_iff];simp
end
section
variable (k : IntKind) (a b : Int) (p q : Prop) [Decidable p] [Decidable q] (s t : ByteArray) (x y : U) (σ : Heap) (cs : List U)
theorem Cx:A.add (.int .i64 a) (.int .i64 b)=some (.int .i64 (IntKind.i64.wrap (a+b))):=rfl
theorem wG:A.sub (.int .i64 a) (.int .i64 b)=some (.int .i64 (IntKind.i64.wrap (a-b))):=rfl
theorem SJ:A.mul (.int .i64 a) (.int .i64 b)=some (.int .i64 (IntKind.i64.wrap (a*b))):=rfl
theorem uG:A.lss (.int .i64 a) (.int .i64 b)=some (.bool (decide (a<b))):=rfl
theorem SI:A.leq (.int .i64 a) (.int .i64 b)=some (.bool (decide (a≤b))):=rfl
theorem AJ:A.gtr (.int .i64 a) (.int .i64 b)=some (.bool (decide (b<a))):=rfl
theorem SH:A.geq (.int .i64 a) (.int .i64 b)=some (.bool (decide (b≤a))):=rfl
theorem R9:A.lss (.int .u8 a) (.int .u8 b)=some (.bool (decide (a<b))):=rfl
theorem R8:A.leq (.int .u8 a) (.int .u8 b)=some (.bool (decide (a≤b))):=rfl
theorem R6:A.gtr (.int .u8 a) (.int .u8 b)=some (.bool (decide (b<a))):=rfl
theorem R5:A.geq (.int .u8 a) (.int .u8 b)=some (.bool (decide (b≤a))):=rfl
theorem oB:A.eql .i (.int k a) (.int k b)=some (.bool (decide (a=b))):=by
 simp only[A.eql,A.dG,A.mz,if_true,Option.map_some];congr 2
theorem iM:A.neq .i (.int k a) (.int k b)=some (.bool (decide (¬a=b))):=by
 simp only[A.neq,A.dG,A.mz,if_true,Option.map_some]
 congr 2
 rw[Bool.eq_iff_iff];simp
theorem Gu:A.eql .z (.str s) (.str t)=some (.bool (decide (s=t))):=by
 simp only[A.eql,A.dG,A.pU,Option.map_some,bq]
theorem KL:A.neq .z (.str s) (.str t)=some (.bool (decide (¬s=t))):=by
 simp only[A.neq,A.dG,A.pU,Option.map_some,bq];simp
theorem SK (b:Bool):A.not (.bool b)=some (.bool (!b)):=rfl
theorem Sa:A.not (.bool (decide p))=some (.bool (decide (¬p))):=by simp [A.not]
theorem Th:A.lb (.lbx cs)=some cs:=rfl
theorem R1 (l:List U):A.ext 0 (.aA (x::l))=some x:=rfl
theorem R2 (x0 x:U) (l:List U):A.ext 1 (.aA (x0::x::l))=some x:=rfl
theorem R3 (x0 x1 x:U) (l:List U):A.ext 2 (.aA (x0::x1::x::l))=some x:=rfl
theorem R4 (x0 x1 x2 x:U) (l:List U):A.ext 3 (.aA (x0::x1::x2::x::l))=some x:=rfl
theorem Tf:A.deref (.rp cs) σ=some cs:=rfl
theorem Tg (o:Nat):A.bD o (.rp cs)=some (.rp (cs.drop o)):=rfl
theorem R7:A.wV (.str s)=some (.int .i64 s.size):=rfl
theorem Td (n:Int):A.cell (.int k n)=some (.int k n):=rfl
theorem Tc (b:Bool):A.cell (.bool b)=some (.bool b):=rfl
theorem Te:A.cell (.str s)=some (.str s):=rfl
theorem SG (sz:Nat) (es:List (List U)):A.cell (.sl sz es)=some (.sl sz es):=rfl
theorem Mi (o k:Nat):A.aq o (cs.drop k)=A.aq (k+o) cs:=by simp [A.aq,List.getElem?_drop]
end
theorem Tq (a d:U) (l:List U):(a::l).getD 0 d=a:=rfl
theorem Tr (a b d:U) (l:List U):(b::a::l).getD 1 d=a:=rfl
theorem Ts (a b c d:U) (l:List U):(b::c::a::l).getD 2 d=a:=rfl
theorem Tt (a b c e d:U) (l:List U):(b::c::e::a::l).getD 3 d=a:=rfl
theorem Tu (a b c e f d:U) (l:List U):(b::c::e::f::a::l).getD 4 d=a:=rfl
theorem Tv (a b c e f g d:U) (l:List U):(b::c::e::f::g::a::l).getD 5 d=a:=rfl
theorem Tw (a b c e f g h d:U) (l:List U):(b::c::e::f::g::h::a::l).getD 6 d=a:=rfl
theorem Tx (a b c e f g h i d:U) (l:List U):(b::c::e::f::g::h::i::a::l).getD 7 d=a:=rfl
theorem Ty (a b c e f g h i j d:U) (l:List U):(b::c::e::f::g::h::i::j::a::l).getD 8 d=a:=rfl
theorem wrap64 {n:Int} (h:aS n):IntKind.i64.wrap n=n:=IntWalk.i64_in n h
theorem wrap_eq {ro:Bool} {bL:List Sh} {cC:Sh} {r:List U→Heap→Option (U×Heap)} {args:List U} {σ σ':Heap} {v v':U} (h:args.any A.own=false) (e:r (A.bI bL args) σ=some (v,σ')) (hv:A.nn cC v=v'):A.wrap ro bL cC r args σ=some (v',σ'):=by
 unfold A.wrap
 rw[h,Bool.and_false,cond_false,e]
 simp [hv]
theorem IA {v:U} (n:Nat) (h:A.pG v=true):A.fresh v=true∧A.shift n v=v:=by
 cases v<;>first|exact⟨h,rfl⟩|cases h
theorem Ob {v:U} (n:Nat) (h:A.tF v=true):A.sW v=true∧A.rE n v=v:=by
 have key:(∀vs,v≠.aA vs)→A.sW v=true∧A.rE n v=v:=by
  intro k
  have:=IA (v:=v) n
  cases v<;>first|exact absurd rfl (k _)|exact this h
 by_cases ht:∃vs,v=.aA vs
 ·obtain⟨vs,rfl⟩:=ht
  simp only[A.tF,List.all_eq_true]at h
  refine⟨by simp only[A.sW,List.all_eq_true];exact fun x hx=>(IA n (h x hx)).1,?_⟩
  simp only[A.rE]
  congr 1
  calc vs.map (A.shift n)=vs.map id:=List.map_congr_left fun x hx=>(IA n (h x hx)).2
   _=vs:=List.map_id vs
 ·exact key fun vs e=>ht ⟨vs,e⟩
theorem B4 {bL:List Sh} {cC:Sh} {r:List U→Heap→Option (U×Heap)} {args args':List U} {σ:Heap} {v:U} (h:args.any A.own=true) (hz:A.dm σ 0 8 args=some args') (ho:args'.any A.own=false) (e:A.wrap true bL cC r args' []=some (v,[])) (hs:A.tF v=true):A.wrap true bL cC r args σ=some (v,σ):=by
 unfold A.wrap at e ⊢
 rw[ho,Bool.and_false,cond_false]at e
 obtain⟨⟨q1,q2⟩,e1,e2⟩:=Option.map_eq_some_iff.1 e
 simp only[Prod.mk.injEq]at e2
 obtain⟨rfl,rfl⟩:=e2
 rw[h,Bool.and_self,cond_true,hz]
 simp [e1,(Ob σ.length hs).1,(Ob σ.length hs).2]
theorem cV (σ:Heap) (r:U):A.fin σ r σ=some (r,σ):=by simp [A.fin]
theorem OA (σ:Heap) (n d:Nat) {a:U} (h:A.nI a=true):A.bn σ n d a=some a:=by
 cases a<;>simp only[A.nI]at h<;>first|(cases h;done)|skip
 case sl sz es=>cases es with
  |nil=>cases d<;>simp [A.bn,A.iI]
  |cons _ _=>simp at h
 all_goals cases d<;>simp [A.bn]
theorem NW (σ:Heap) (n d:Nat):∀{l:List U},l.all A.nI=true→A.dm σ n d l=some l
 |[],_=>by simp [A.dm]
 |a::l,h=>by
  simp only[List.all_cons,Bool.and_eq_true]at h
  simp [A.dm,OA σ n d h.1,NW σ n d h.2]
theorem OB (σ:Heap) (n d:Nat) {a:U} (h:A.pG a=true):A.bn σ n d a=some a:=by
 unfold A.pG at h
 split at h
 ·cases d<;>simp [A.bn,NW σ n _ h]
 ·exact OA σ n d h
theorem NX (σ:Heap) (n d:Nat):∀{l:List U},l.all A.pG=true→A.dm σ n d l=some l
 |[],_=>by simp [A.dm]
 |a::l,h=>by
  simp only[List.all_cons,Bool.and_eq_true]at h
  simp [A.dm,OB σ n d h.1,NX σ n d h.2]
theorem Y8 (σ:Heap) (n d:Nat) {a:U} (h:A.tF a=true):A.bn σ n d a=some a:=by
 unfold A.tF at h
 split at h
 ·cases d<;>simp [A.bn,NX σ n _ h]
 ·exact OB σ n d h
theorem Fp (σ bs:Heap) {r:U} (h:A.tF r=true):A.fin σ r (σ++bs)=some (r,σ):=by
 unfold A.fin
 split
 ·rfl
 ·rw[if_pos (by simp),Y8 _ _ _ h];rfl
theorem JL (σ bs:Heap) (k:IntKind) (n:Int):A.fin σ (.int k n) (σ++bs)=some (.int k n,σ):=Fp σ bs rfl
theorem Pz (σ bs:Heap) (b:Bool):A.fin σ (.bool b) (σ++bs)=some (.bool b,σ):=Fp σ bs rfl
theorem Qz (σ bs:Heap) (s:ByteArray):A.fin σ (.str s) (σ++bs)=some (.str s,σ):=Fp σ bs rfl
theorem PA (σ bs:Heap):A.fin σ (.aA []) (σ++bs)=some (.aA [],σ):=Fp σ bs rfl
theorem va (σ bs:Heap) (j:Nat):(σ++bs)[σ.length+j]? =bs[j]? :=by rw[List.getElem?_append_right (by omega)];congr 1;omega
theorem AL (σ bs:Heap):(σ++bs)[σ.length]? =bs[0]? :=by rw[List.getElem?_append_right (Nat.le_refl _),Nat.sub_self]
theorem nL (σ bs:Heap) (j:Nat) (b:aO):(σ++bs).set (σ.length+j) b=σ++bs.set j b:=by rw[List.set_append_right _ _ (by omega)];congr 2;omega
theorem Kt (σ bs:Heap) (b:aO):(σ++bs).set σ.length b=σ++bs.set 0 b:=by rw[List.set_append_right _ _ (Nat.le_refl _),Nat.sub_self]
section
variable {α : Type} (sz : Nat) (c : α → List U) (l : List α)
theorem dU:A.bf (sl sz c l)=some (.int .i64 l.length):=by simp [sl,A.bf]
theorem iS {k:Nat} {x:α} (h:l[k]? =some x):A.aU sz (sl sz c l) (.int .i64 (k:Int))=some (.rp (c x)):=by
 have hk:k<l.length:=(List.getElem?_eq_some_iff.1 h).1
 have hx:l[k]=x:=(List.getElem?_eq_some_iff.1 h).2
 simp [A.aU,sl,A.idx,hk,hx]
theorem Yd {i:Int} {x:α} (h0:0≤i) (h:l[i.toNat]? =some x):A.aU sz (sl sz c l) (.int .i64 i)=some (.rp (c x)):=by
 have:=iS sz c l h
 rwa[Int.toNat_of_nonneg h0]at this
end
inductive Rd (S R : Type) where
 |go (s:S)
 |out (r:R)
def Rd.el {S R γ:Type} (x:Rd S R) (f:S→γ) (g:R→γ):γ:=match x with|.go s=>f s|.out r=>g r
theorem wk {S R γ:Type} (s:S) (f:S→γ) (g:R→γ):(Rd.go s:Rd S R).el f g=f s:=rfl
theorem vW {S R γ:Type} (r:R) (f:S→γ) (g:R→γ):(Rd.out r:Rd S R).el f g=g r:=rfl
theorem Av {S R γ:Type} {p:Prop} [Decidable p] (x y:Rd S R) (f:S→γ) (g:R→γ):(if p then x else y).el f g=if p then x.el f g else y.el f g:=by split<;>rfl
def gr {α S R:Type} (body:List α→α→S→Rd S R):List α→List α→S→Rd S R
 |_,[],s=>.go s
 |pre,x::l,s=>match body pre x s with|.go s'=>gr body (pre++[x]) l s'|.out r=>.out r
theorem Yg {f:List U→Heap→Option (AX×List U×Heap)} {v:List U} {σ:Heap}:∀{n m:Nat} {r r':AX×List U×Heap},A.iter f n v σ=some r→A.iter f m v σ=some r'→r=r':=by
 intro n
 induction n generalizing v σ with
 |zero=>intro m r r' h;cases h
 |succ n ih=>
  intro m r r' h1 h2
  cases m with
  |zero=>cases h2
  |succ m=>
   simp only[A.iter]at h1 h2
   cases hf:f v σ with
   |none=>rw[hf]at h1;cases h1
   |some q=>
    rw[hf]at h1 h2
    simp only[Option.bind_some]at h1 h2
    obtain⟨e,v',σ'⟩:=q
    cases e with
    |normal=>exact ih h1 h2
    |exit i=>simp only at h1 h2;rw[h1]at h2;injection h2
    |ret=>simp only at h1 h2;rw[h1]at h2;injection h2
theorem xC {f:List U→Heap→Option (AX×List U×Heap)} {v:List U} {σ:Heap} {n:Nat} {r:AX×List U×Heap} (h:A.iter f n v σ=some r):A.loop f v σ=some r:=by
 have hex:∃n r,A.iter f n v σ=some r:=⟨n,r,h⟩
 unfold A.loop
 rw[dif_pos hex]
 exact congrArg some (Yg (Classical.choose_spec (Classical.choose_spec hex)) h)
theorem vJ {f:List U→Heap→Option (AX×List U×Heap)} {v v':List U} {σ σ':Heap} {r:AX×List U×Heap} (h:f v σ=some (.normal,v',σ')) (k:∃n,A.iter f n v' σ'=some r):∃n,A.iter f n v σ=some r:=by
 obtain⟨n,k⟩:=k
 exact⟨n+1,by simp [A.iter,h,k]⟩
theorem oO {f:List U→Heap→Option (AX×List U×Heap)} {v:List U} {σ:Heap} {r:AX×List U×Heap} (h:f v σ=some r) (hr:r.1≠.normal):∃n,A.iter f n v σ=some r:=by
 obtain⟨e,v',σ'⟩:=r
 refine⟨1,?_⟩
 cases e<;>first|(simp [A.iter,h];done)|exact absurd rfl hr
theorem mI {α S R γ:Type} {f:List U→Heap→Option (AX×List U×Heap)} (l:List α) (body:List α→α→S→Rd S R) (st:List α→S→List U) (hp:List α→S→Heap)
  (fin:S→AX×List U×Heap) (out:List α→S→R→AX×List U×Heap) (P:List α→S→Prop) (s0:S) {k:AX×List U×Heap→Option γ} (K1:S→Option γ) (K2:R→Option γ)
  (hstep:∀pre x rest s,l=pre++x::rest→P pre s→f (st pre s) (hp pre s)=some ((body pre x s).el (fun s'=>(.normal,st (pre++[x]) s',hp (pre++[x]) s')) (fun r=>out pre s r)))
  (hend:∀s,P l s→f (st l s) (hp l s)=some (fin s)) (h0:P [] s0)
  (hP:∀pre x rest s s',l=pre++x::rest→P pre s→body pre x s=.go s'→P (pre++[x]) s')
  (hk1:∀s,P l s→k (fin s)=K1 s) (hk2:∀pre x rest s r,l=pre++x::rest→P pre s→body pre x s=.out r→k (out pre s r)=K2 r)
  (uI:∀s,(fin s).1≠.normal:=by intros;simp) (hout:∀pre s r,(out pre s r).1≠.normal:=by intros;simp) {v:List U} {σ:Heap} (hv:v=st [] s0:=by rfl) (dO:σ=hp [] s0:=by rfl):
  (A.loop f v σ).bind k=(gr body [] l s0).el K1 K2:=by
 have key:∀(rest pre:List α) (s:S),l=pre++rest→P pre s→∃q,(∃n,A.iter f n (st pre s) (hp pre s)=some q)∧k q=(gr body pre rest s).el K1 K2:=by
  intro rest
  induction rest with
  |nil=>
   intro pre s hl hp'
   rw[List.append_nil]at hl
   subst hl
   exact⟨fin s,oO (hend s hp') (uI s),by rw[gr,wk,hk1 s hp']⟩
  |cons x rest ih=>
   intro pre s hl hp'
   have h:=hstep pre x rest s hl hp'
   rw[gr]
   cases hb:body pre x s with
   |go s'=>
    rw[hb]at h
    obtain⟨q,h1,h2⟩:=ih (pre++[x]) s' (by simpa using hl) (hP pre x rest s s' hl hp' hb)
    exact⟨q,vJ h h1,h2⟩
   |out r=>
    rw[hb]at h
    exact⟨out pre s r,oO h (hout pre s r),by rw[vW,hk2 pre x rest s r hl hp' hb]⟩
 obtain⟨q,⟨n,h1⟩,h2⟩:=key l [] s0 rfl h0
 rw[hv,dO,xC h1,Option.bind_some,h2]
theorem EW {α:Type} {body:List α→α→Unit→Rd Unit Int} {pS:List α→List α→Int} (h0:∀pre,pS pre []=0) (h:∀pre x rest,pS pre (x::rest)=(body pre x ()).el (fun _=>pS (pre++[x]) rest) (fun r=>r)) {γ:Type} (K:Int→γ):
  ∀(l pre:List α),(gr body pre l ()).el (fun _=>K 0) K=K (pS pre l)
 |[],pre=>by rw[gr,h0];rfl
 |x::l,pre=>by
  rw[gr,h]
  cases body pre x ()with
  |go s=>exact EW h0 h K l (pre++[x])
  |out r=>rfl
theorem mM {α:Type} {l pre rest:List α} {x:α} (h:l=pre++x::rest):l[pre.length]? =some x:=by rw[h];simp
theorem oZ {α:Type} {l pre rest:List α} {x:α} (h:l=pre++x::rest):pre.length<l.length:=by rw[h];simp
theorem PZ {α:Type} {l pre rest:List α} {x:α} (h:l=pre++x::rest) (h0:0<pre.length):∃y,pre.getLast? =some y∧l[pre.length-1]? =some y:=by
 cases hp:pre.getLast? with
 |none=>rw[List.getLast?_eq_none_iff]at hp;subst hp;simp at h0
 |some y=>
  refine⟨y,rfl,?_⟩
  rw[h,List.getElem?_append_left (by omega),←hp,List.getLast?_eq_getElem?]
theorem Pd {γ:Type} {p:UInt8→Bool} {f:List U→Heap→Option (AX×List U×Heap)} (s:ByteArray) {σ:Heap} {k:AX×List U×Heap→Option γ} (K2:Option γ)
  (hstep:∀(i:Nat) (c:UInt8),i<s.size→A.oz (.str s) (.int .i64 (i:Int))=some (.int .u8 c.toNat)→f [.bool false,.int .i64 (i:Int)] σ=if p c=true then some (.normal,[.bool false,.int .i64 ((i:Int)+1)],σ)else some (.ret,[.bool false,.int .i64 (i:Int)],σ))
  (hend:f [.bool false,.int .i64 (s.size:Int)] σ=some (.exit 0,[.bool false,.int .i64 (s.size:Int)],σ)) (hk2:∀i:Int,k (.ret,[.bool false,.int .i64 i],σ)=K2):
  (A.loop f [.bool false,.int .i64 0] σ).bind k=if s.data.toList.all p=true then k (.exit 0,[.bool false,.int .i64 (s.size:Int)],σ)else K2:=by
 have hsz:s.data.toList.length=s.size:=rfl
 refine(mI (S:=Unit) (R:=Unit) s.data.toList (fun _ c _=>if p c=true then .go ()else .out ()) (fun pre _=>[.bool false,.int .i64 (pre.length:Int)]) (fun _ _=>σ) (fun _=>(.exit 0,[.bool false,.int .i64 (s.size:Int)],σ)) (fun pre _ _=>(.ret,[.bool false,.int .i64 (pre.length:Int)],σ)) (fun _ _=>True) ()
  (fun _=>k (.exit 0,[.bool false,.int .i64 (s.size:Int)],σ)) (fun _=>K2) ?_ ?_ trivial (fun _ _ _ _ _ _ _ _=>trivial) (fun _ _=>rfl) (fun _ _ _ _ _ _ _ _=>hk2 _)).trans ?_
 ·intro pre c rest u hl _
  have hlt:=oZ hl
  have hc:=mM hl
  rw[hsz]at hlt
  have hsi:A.oz (.str s) (.int .i64 (pre.length:Int))=some (.int .u8 c.toNat):=by
   have h2:s[pre.length]=c:=(List.getElem?_eq_some_iff.1 hc).2
   simp [A.oz,A.idx,hlt,h2]
  rw[hstep pre.length c hlt hsi]
  cases p c<;>simp [Rd.el]
 ·intro u _;rw[hsz];exact hend
 ·have key:∀(l pre:List UInt8),(gr (fun(_:List UInt8) c (_:Unit)=>if p c=true then(Rd.go ():Rd Unit Unit)else .out ()) pre l ()).el (fun _=>k (.exit 0,[.bool false,.int .i64 (s.size:Int)],σ)) (fun _=>K2)=if l.all p=true then k (.exit 0,[.bool false,.int .i64 (s.size:Int)],σ)else K2:=by
   intro l
   induction l with
   |nil=>intro pre;simp [gr,Rd.el]
   |cons c l ih=>
    intro pre
    rw[gr]
    cases hc:p c
    ·simp [hc,Rd.el]
    ·simp only[if_true]
     rw[ih]
     simp [hc]
  exact key s.data.toList []
section
variable {α : Type} (g : α → ByteArray) (gi : α → Int) (v : α → U)
theorem Rl (k:ByteArray):∀(l:List α),A.find .z (.str k) (l.map fun x=>(U.str (g x),v x))=some ((l.find? fun x=>decide (k=g x)).map v)
 |[]=>rfl
 |x::l=>by
  simp only[List.map_cons,A.find,A.dG,A.pU,Option.bind_some,List.find?]
  by_cases h:k=g x
  ·rw[bq];simp [h]
  ·rw[bq];simp [h,Rl k l]
theorem Rk (kk:IntKind) (k:Int):∀(l:List α),A.find .i (.int kk k) (l.map fun x=>(U.int kk (gi x),v x))=some ((l.find? fun x=>decide (k=gi x)).map v)
 |[]=>rfl
 |x::l=>by
  simp only[List.map_cons,A.find,A.dG,A.mz,if_true,Option.bind_some,List.find?]
  by_cases h:k=gi x
  ·have:(k==gi x)=true:=by simpa using h
   simp [this,h]
  ·have:(k==gi x)=false:=by simpa using h
   simp [this,h,Rk kk k l]
theorem KG {k:ByteArray} {w:U}:∀{l:List α},(∀x∈l,g x≠k)→A.upd .z (.str k) w (l.map fun x=>(U.str (g x),v x))=some ((l.map fun x=>(U.str (g x),v x))++[(.str k,w)])
 |[],_=>rfl
 |x::l,h=>by
  have h1:(k==g x)=false:=by rw[bq];exact decide_eq_false fun e:k=g x=>h x (by simp) e.symm
  simp only[List.map_cons,A.upd,A.dG,A.pU,Option.bind_some,h1,cond_false]
  rw[KG (fun y hy=>h y (by simp [hy]))]
  rfl
theorem KE {kk:IntKind} {k:Int} {w:U}:∀{l:List α},(∀x∈l,gi x≠k)→A.upd .i (.int kk k) w (l.map fun x=>(U.int kk (gi x),v x))=some ((l.map fun x=>(U.int kk (gi x),v x))++[(.int kk k,w)])
 |[],_=>rfl
 |x::l,h=>by
  have h1:(k==gi x)=false:=by simpa using fun e:k=gi x=>h x (by simp) e.symm
  simp only[List.map_cons,A.upd,A.dG,A.mz,if_true,Option.bind_some,h1,cond_false]
  rw[KE (fun y hy=>h y (by simp [hy]))]
  rfl
end
theorem vP (e:A.EK) {k z:U} {σ:Heap} {id:Nat} {es:List (U×U)} (hk:A.gj e k=true) (h:σ[id]? =some (.map es)):A.look e (.om id) k z σ=(A.find e k es).map fun r=>r.getD z:=by
 simp [A.look,hk,A.entries,h]
theorem Ca (e:A.EK) {k w:U} {σ:Heap} {id:Nat} {es:List (U×U)} (hk:A.gj e k=true) (h:σ[id]? =some (.map es)):A.eU e (.om id) k w σ=(A.upd e k w es).map fun es=>σ.set id (.map es):=by
 simp [A.eU,hk,h]
theorem PK {α:Type} (l:List α) (x:α):(((l++[x]).length:Nat):Int)=(l.length:Int)+1:=by simp
theorem EO {α:Type} (sz:Nat) (c:α→List U) (l:List α) {k:Nat} {x:α} (h0:0<k) (h:l[k-1]? =some x):A.aU sz (sl sz c l) (.int .i64 ((k:Int) -1))=some (.rp (c x)):=by
 have:=iS sz c l h
 rwa[show((k-1:Nat):Int)=(k:Int) -1 by omega]at this
def jB {α:Type} (g:α→ByteArray) (l:List α):List (U×U):=l.map fun x=>(U.str (g x),U.bool true)
def mY {α:Type} (g:α→Int) (l:List α):List (U×U):=l.map fun x=>(U.int .i64 (g x),U.bool true)
theorem Jd {α:Type} (p:α→Bool):∀(l:List α),((l.find? p).map fun _=>U.bool true).getD aP=U.bool (l.any p)
 |[]=>rfl
 |x::l=>by
  simp only[List.find?,List.any_cons]
  cases h:p x
  ·simpa using Jd p l
  ·rfl
theorem OY {α:Type} (g:α→ByteArray) (k:ByteArray) (l:List α):(A.find .z (.str k) (jB g l)).map (fun r=>r.getD (.bool false))=some (.bool (fQ k (l.map g))):=by
 unfold jB
 rw[Rl g (fun _=>U.bool true) k l,Option.map_some,Jd]
 refine congrArg some (congrArg U.bool ?_)
 rw[Bool.eq_iff_iff,Af]
 simp only[List.any_eq_true,decide_eq_true_eq,List.mem_map]
 exact⟨fun⟨x,h,e⟩=>⟨x,h,e.symm⟩,fun⟨x,h,e⟩=>⟨x,h,e.symm⟩⟩
theorem OT {α:Type} (g:α→Int) (k:Int) (l:List α):(A.find .i (.int .i64 k) (mY g l)).map (fun r=>r.getD (.bool false))=some (.bool (fQ k (l.map g))):=by
 unfold mY
 rw[Rk g (fun _=>U.bool true) .i64 k l,Option.map_some,Jd]
 refine congrArg some (congrArg U.bool ?_)
 rw[Bool.eq_iff_iff,Af]
 simp only[List.any_eq_true,decide_eq_true_eq,List.mem_map]
 exact⟨fun⟨x,h,e⟩=>⟨x,h,e.symm⟩,fun⟨x,h,e⟩=>⟨x,h,e.symm⟩⟩
section
variable {α : Type} (g : α → ByteArray) (gi : α → Int) (l : List α) (k : ByteArray) (n : Int) (σ bs : Heap) (b0 : aO)
theorem Oe:A.look .z (.om σ.length) (.str k) (.bool false) (σ++aO.map (jB g l)::bs)=some (.bool (fQ k (l.map g))):=by
 rw[vP .z rfl (by rw[AL];rfl),OY]
theorem Oc:A.look .i (.om σ.length) (.int .i64 n) (.bool false) (σ++aO.map (mY gi l)::bs)=some (.bool (fQ n (l.map gi))):=by
 rw[vP .i rfl (by rw[AL];rfl),OT]
theorem Of:A.look .z (.om (σ.length+1)) (.str k) (.bool false) (σ++b0::aO.map (jB g l)::bs)=some (.bool (fQ k (l.map g))):=by
 rw[vP .z rfl (by rw[va];rfl),OY]
theorem Od:A.look .i (.om (σ.length+1)) (.int .i64 n) (.bool false) (σ++b0::aO.map (mY gi l)::bs)=some (.bool (fQ n (l.map gi))):=by
 rw[vP .i rfl (by rw[va];rfl),OT]
theorem O0 (h:fQ k (l.map g)=false):A.eU .z (.om σ.length) (.str k) (.bool true) (σ++aO.map (jB g l)::bs)=some (σ++aO.map (jB g l++[(.str k,.bool true)])::bs):=by
 rw[Ca .z rfl (by rw[AL];rfl),jB,KG g _ (fun x hx e=>ER.1 h (by rw[←e];exact List.mem_map_of_mem hx)),Option.map_some,Kt];rfl
theorem OV (h:fQ n (l.map gi)=false):A.eU .i (.om σ.length) (.int .i64 n) (.bool true) (σ++aO.map (mY gi l)::bs)=some (σ++aO.map (mY gi l++[(.int .i64 n,.bool true)])::bs):=by
 rw[Ca .i rfl (by rw[AL];rfl),mY,KE gi _ (fun x hx e=>ER.1 h (by rw[←e];exact List.mem_map_of_mem hx)),Option.map_some,Kt];rfl
theorem O1 (h:fQ k (l.map g)=false):A.eU .z (.om (σ.length+1)) (.str k) (.bool true) (σ++b0::aO.map (jB g l)::bs)=some (σ++b0::aO.map (jB g l++[(.str k,.bool true)])::bs):=by
 rw[Ca .z rfl (by rw[va];rfl),jB,KG g _ (fun x hx e=>ER.1 h (by rw[←e];exact List.mem_map_of_mem hx)),Option.map_some,nL];rfl
theorem OW (h:fQ n (l.map gi)=false):A.eU .i (.om (σ.length+1)) (.int .i64 n) (.bool true) (σ++b0::aO.map (mY gi l)::bs)=some (σ++b0::aO.map (mY gi l++[(.int .i64 n,.bool true)])::bs):=by
 rw[Ca .i rfl (by rw[va];rfl),mY,KE gi _ (fun x hx e=>ER.1 h (by rw[←e];exact List.mem_map_of_mem hx)),Option.map_some,nL];rfl
end
theorem OZ {α:Type} (g:α→ByteArray) (l:List α) (x:α):jB g (l++[x])=jB g l++[(.str (g x),.bool true)]:=by simp [jB]
theorem IN (σ:Heap) (v:U):A.quiet (some (v,σ)) σ=some v:=by simp [A.quiet]
def Fz (a:U):Prop:=∀σ n d,A.bn σ n d a=some a
def gu (l:List U):Prop:=∀σ n d,A.dm σ n d l=some l
theorem dZ (k:IntKind) (n:Int):Fz (.int k n):=fun _ _ d=>by cases d<;>simp [A.bn]
theorem B8 (b:Bool):Fz (.bool b):=fun _ _ d=>by cases d<;>simp [A.bn]
theorem uu (s:ByteArray):Fz (.str s):=fun _ _ d=>by cases d<;>simp [A.bn]
theorem abv:Fz .aB:=fun _ _ d=>by cases d<;>simp [A.bn]
theorem rz {l:List U} (h:gu l):Fz (.agg l):=fun σ n d=>by cases d<;>simp [A.bn,h σ n]
theorem nE:gu []:=fun _ _ _=>by simp [A.dm]
theorem cz {a:U} {l:List U} (h:Fz a) (k:gu l):gu (a::l):=fun σ n d=>by simp [A.dm,h σ n d,k σ n d]
theorem yp {α:Type} {sz:Nat} {c:α→List U} (h:∀x,gu (c x)) (l:List α):Fz (sl sz c l):=by
 intro σ n d
 have:A.iI σ n d (l.map c)=some (l.map c):=by
  induction l with
  |nil=>simp [A.iI]
  |cons x l ih=>simp [A.iI,h x σ n d,ih]
 cases d<;>simp [sl,A.bn,this]
theorem KW {α:Type} {c:α→List U} (h:∀x,gu (c x)) (l:List α) (σ:Heap) (n d:Nat):A.iI σ n d (l.map c)=some (l.map c):=by
 induction l with
 |nil=>simp [A.iI]
 |cons x l ih=>simp [A.iI,h x σ n d,ih]
def qx {α:Type} (id sz:Nat) (l:List α):U:=if l=[]then .aB else .os id l.length sz 0 l.length
def nM {α:Type} (sz:Nat) (c:α→List U) (l:List α):Heap:=if l=[]then[]else[.arr l.length sz (l.map c)]
theorem Zt {α:Type} (sz:Nat) (c:α→List U):nM sz c []=[]:=rfl
theorem Xl {α:Type} {sz most:Nat} (c:α→List U) (l:List α) (x:α) (σ:Heap) (h:l.length+1≤most):A.append sz most (qx σ.length sz l) (.sl sz [c x]) (σ++nM sz c l)=some (qx σ.length sz (l++[x]),σ++nM sz c (l++[x])):=by
 unfold qx nM
 cases l with
 |nil=>
  have h1:1≤most:=by simpa using h
  simp [A.append,A.jG,A.elems,h1]
 |cons y l=>
  have h1:l.length+1+1≤most:=by simpa using h
  simp [A.append,A.jG,A.elems,h1,AL,Kt,Nat.add_assoc,List.take_of_length_le]
theorem aaP {α:Type} {sz:Nat} {c:α→List U} (hc:∀x,gu (c x)) (l:List α) (σ:Heap) (d:Nat):A.bn (σ++nM sz c l) σ.length (d+1) (qx σ.length sz l)=some (if l=[]then .aB else sl sz c l):=by
 unfold qx nM
 split
 ·simp [A.bn]
 ·rename_i hl
  simp only[A.bn,Nat.lt_irrefl,if_false,AL,List.getElem?_cons_zero]
  rw[if_pos (by simp)]
  have e:(List.take l.length (List.drop 0 (l.map c)))=l.map c:=by simp [List.take_of_length_le]
  rw[e,xU,KW hc]
  rfl
theorem Y6 {α:Type} {sz:Nat} {c:α→List U} (hc:∀x,gu (c x)) (l:List α) (k:IntKind) (n:Int) (σ:Heap):A.fin σ (.aA [qx σ.length sz l,.int k n]) (σ++nM sz c l)=some (.aA [if l=[]then .aB else sl sz c l,.int k n],σ):=by
 unfold A.fin
 split
 ·rename_i h
  have:nM sz c l=[]:=by simpa using h
  have hl:l=[]:=by
   unfold nM at this
   split at this
   ·assumption
   ·cases this
  subst hl;rfl
 ·rw[if_pos (by simp)]
  have:A.bn (σ++nM sz c l) σ.length 8 (.aA [qx σ.length sz l,.int k n])=some (.aA [if l=[]then .aB else sl sz c l,.int k n]):=by
   simp only[A.bn,A.dm,aaP hc,dZ k n _ _ _,Option.bind_some,Option.map_some]
  rw[this];rfl
theorem abH {α:Type} (sz:Nat) (c:α→List U) (l:List α):A.nn (.s sz) (if l=[]then .aB else sl sz c l)=sl sz c l:=by
 split
 ·rename_i h;subst h;rfl
 ·rfl
def kP {α:Type} (p:α→Bool) (l:List α):Int:=match l.findIdx? p with|some i=>i|none=>-1
theorem xM {α:Type} (p:α→Bool) (l:List α):(kP p l=-1∧(∀x∈l,p x=false)∧l.find? p=none)∨∃(k:Nat) (x:α),l[k]? =some x∧p x=true∧kP p l=k∧l.find? p=some x∧∀(j:Nat) (y:α),j<k→l[j]? =some y→p y=false:=by
 induction l with
 |nil=>left;exact⟨rfl,by simp,rfl⟩
 |cons x l ih=>
  cases h:p x
  ·rcases ih with⟨h1,h2,h3⟩|⟨k,y,h1,h2,h3,h4,h5⟩
   ·left
    refine⟨?_,?_,?_⟩
    ·unfold kP at h1 ⊢
     rw[List.findIdx?_cons,h]
     cases hf:l.findIdx? p with
     |none=>simp
     |some i=>rw[hf]at h1;simp at h1
    ·intro y hy
     rcases List.mem_cons.1 hy with rfl|hy
     ·exact h
     ·exact h2 y hy
    ·simp [List.find?,h,h3]
   ·right
    refine⟨k+1,y,by simpa using h1,h2,?_,by simp [List.find?,h,h4],?_⟩
    ·unfold kP at h3 ⊢
     rw[List.findIdx?_cons,h]
     cases hf:l.findIdx? p with
     |none=>rw[hf]at h3;simp at h3
     |some i=>rw[hf]at h3;simp at h3 ⊢;omega
    ·intro j z hj hz
     cases j with
     |zero=>simp at hz;subst hz;exact h
     |succ j=>exact h5 j z (by omega) (by simpa using hz)
  ·right
   refine⟨0,x,rfl,h,?_,by simp [List.find?,h],by intro j y hj;omega⟩
   unfold kP
   rw[List.findIdx?_cons,h];rfl
theorem BY {α:Type} {γ:Type} (p:α→Bool) (K1:Option γ) (K2:Int→Option γ):∀(l pre:List α),(∀x∈pre,p x=false)→(gr (fun pre x (_:Unit)=>if p x=true then(Rd.out (pre.length:Int):Rd Unit Int)else .go ()) pre l ()).el (fun _=>K1) K2=if kP p (pre++l)=-1 then K1 else K2 (kP p (pre++l))
 |[],pre,h=>by
  have:kP p (pre++[])=-1:=by
   rcases xM p (pre++[])with h1|⟨k,x,h1,h2,_⟩
   ·exact h1.1
   ·have:=h x (by have:=List.mem_of_getElem? h1;simpa using this)
    rw[h2]at this;cases this
  rw[gr,wk,if_pos this]
 |x::l,pre,h=>by
  rw[gr]
  cases hx:p x
  ·simp only[Bool.false_eq_true,if_false]
   have:=BY p K1 K2 l (pre++[x]) (fun y hy=>by
    rcases List.mem_append.1 hy with hy|hy
    ·exact h y hy
    ·simp at hy;subst hy;exact hx)
   simpa using this
  ·simp only[if_true,vW]
   have:kP p (pre++x::l)=pre.length:=by
    rcases xM p (pre++x::l)with h1|⟨k,y,h1,h2,h3,_,h5⟩
    ·have:=h1.2.1 x (by simp);rw[hx]at this;cases this
    ·rw[h3]
     rcases Nat.lt_trichotomy k pre.length with hk|hk|hk
     ·rw[List.getElem?_append_left hk]at h1
      have:=h y (List.mem_of_getElem? h1);rw[h2]at this;cases this
     ·omega
     ·have:=h5 pre.length x hk (by simp);rw[hx]at this;cases this
   rw[this,if_neg (by omega)]
theorem P7 {α R γ:Type} (p:α→Bool) (r:R) (K1:Unit→γ) (K2:R→γ):∀(l pre:List α),(gr (fun _ x (_:Unit)=>if p x=true then(Rd.out r:Rd Unit R)else .go ()) pre l ()).el K1 K2=if l.any p=true then K2 r else K1 ()
 |[],pre=>by simp [gr,Rd.el]
 |x::l,pre=>by
  rw[gr]
  cases h:p x
  ·simp only[Bool.false_eq_true,if_false]
   rw[P7 p r K1 K2 l (pre++[x])]
   simp [h]
  ·simp [h,Rd.el]
theorem NL {α:Type} (sz:Nat) (c:α→List U) (l:List α) {k:Nat} (h:k≤l.length) {σ:Heap}:A.bN sz (sl sz c l) none (some (.int .i64 (k:Int))) σ=some (sl sz c (l.take k)):=by
 simp [A.bN,sl,A.bound,h,List.map_take]
theorem OU (l:List Int) (n:Int):mY id l++[(.int .i64 n,.bool true)]=mY id (l++[n]):=by simp [mY]
theorem Yl {κ:Type} [DecidableEq κ] (k x:κ) (S:List κ):fQ k (S++[x])=(fQ k S||decide (x=k)):=by simp [fQ]
theorem gM {α:Type} {sz:Nat} {c:α→List U} {sh:List Sh} (h:∀x,A.bI sh (c x)=c x) (l:List α):A.nn (.e sz sh) (sl sz c l)=sl sz c l:=by
 simp only[sl,A.nn,List.map_map]
 congr 1
 exact List.map_congr_left fun x _=>h x
theorem PS {α γ:Type} {f:List U→Heap→Option (AX×List U×Heap)} (l:List α) (p:α→Bool) (vs:Nat→List U) (σ:Heap) (fin:AX×List U×Heap) (ret:Nat→AX×List U×Heap) {k:AX×List U×Heap→Option γ} (K1 K2:Option γ)
  (hstep:∀(i:Nat) (x:α),l[i]? =some x→f (vs i) σ=if p x=true then some (ret i)else some (.normal,vs (i+1),σ)) (hend:f (vs l.length) σ=some fin) (hk1:k fin=K1) (hk2:∀i,k (ret i)=K2)
  (uI:fin.1≠.normal:=by simp) (yE:∀i,(ret i).1≠.normal:=by intros;simp) {v:List U} {σ':Heap} (hv:v=vs 0:=by rfl) (dO:σ'=σ:=by rfl):
  (A.loop f v σ').bind k=if l.any p=true then K2 else K1:=by
 subst hv dO
 refine(mI (S:=Unit) (R:=Unit) l (fun _ x _=>if p x=true then .out ()else .go ()) (fun pre _=>vs pre.length) (fun _ _=>σ') (fun _=>fin) (fun pre _ _=>ret pre.length) (fun _ _=>True) () (fun _=>K1) (fun _=>K2)
  ?_ (fun _ _=>hend) trivial (fun _ _ _ _ _ _ _ _=>trivial) (fun _ _=>hk1) (fun _ _ _ _ _ _ _ _=>hk2 _) (fun _=>uI) (fun _ _ _=>yE _)).trans (P7 p () _ _ l [])
 intro pre x rest u hl _
 rw[hstep pre.length x (mM hl)]
 cases p x<;>simp [Rd.el]
theorem Ft {α:Type} (sz:Nat) (c:α→List U) {l:List α} {k:Nat} {x:α} (h:l[k]? =some x):A.aU sz (sl sz c l) (.int .i64 (k:Int))=some (.rp (c x))∧(k:Int)<(l.length:Int)∧(l.length≤br→IntKind.i64.wrap ((k:Int)+1)=(k:Int)+1):=
 ⟨iS sz c l h,by have:=(List.getElem?_eq_some_iff.1 h).1;omega,fun hl=>wrap64 (by have:=(List.getElem?_eq_some_iff.1 h).1;unfold aS;unfold br at hl;omega)⟩
theorem OH {α γ:Type} {f:List U→Heap→Option (AX×List U×Heap)} (l:List α) (p:α→Bool) (vs:Nat→List U) (σ:Heap) (fin:AX×List U×Heap) (ret:Nat→α→AX×List U×Heap) {k:AX×List U×Heap→Option γ} (K1:Option γ) (K2:α→Option γ)
  (hstep:∀(i:Nat) (x:α),l[i]? =some x→f (vs i) σ=if p x=true then some (ret i x)else some (.normal,vs (i+1),σ)) (hend:f (vs l.length) σ=some fin) (hk1:k fin=K1) (hk2:∀i x,k (ret i x)=K2 x)
  (uI:fin.1≠.normal:=by simp) (yE:∀i x,(ret i x).1≠.normal:=by intros;simp) {v:List U} {σ':Heap} (hv:v=vs 0:=by rfl) (dO:σ'=σ:=by rfl):
  (A.loop f v σ').bind k=(l.find? p).elim K1 K2:=by
 subst hv dO
 have run:∀(l pre:List α),(gr (fun _ x (_:Unit)=>if p x=true then(Rd.out x:Rd Unit α)else .go ()) pre l ()).el (fun _=>K1) K2=(l.find? p).elim K1 K2:=by
  intro l
  induction l with
  |nil=>intro pre;rfl
  |cons x l ih=>
   intro pre
   rw[gr]
   cases h:p x
   ·simp only[Bool.false_eq_true,if_false]
    rw[ih,List.find?_cons,h]
   ·simp [h,Rd.el]
 refine(mI (S:=Unit) (R:=α) l (fun _ x _=>if p x=true then .out x else .go ()) (fun pre _=>vs pre.length) (fun _ _=>σ') (fun _=>fin) (fun pre _ x=>ret pre.length x) (fun _ _=>True) () (fun _=>K1) K2
  ?_ (fun _ _=>hend) trivial (fun _ _ _ _ _ _ _ _=>trivial) (fun _ _=>hk1) (fun _ _ _ _ _ _ _ _=>hk2 _ _) (fun _=>uI) (fun _ _ _=>yE _ _)).trans (run l [])
 intro pre x rest u hl _
 rw[hstep pre.length x (mM hl)]
 cases p x<;>simp [Rd.el]
theorem Zl {α γ:Type} {f:List U→Heap→Option (AX×List U×Heap)} (l:List α) (p:α→Bool) (vs:Nat→List U) (σ:Heap) (fin:AX×List U×Heap) (ret:Nat→AX×List U×Heap) {k:AX×List U×Heap→Option γ} (K1:Option γ) (K2:Int→Option γ)
  (hstep:∀(i:Nat) (x:α),l[i]? =some x→f (vs i) σ=if p x=true then some (ret i)else some (.normal,vs (i+1),σ)) (hend:f (vs l.length) σ=some fin) (hk1:k fin=K1) (hk2:∀i:Nat,k (ret i)=K2 i)
  (uI:fin.1≠.normal:=by simp) (yE:∀i,(ret i).1≠.normal:=by intros;simp) {v:List U} {σ':Heap} (hv:v=vs 0:=by rfl) (dO:σ'=σ:=by rfl):
  (A.loop f v σ').bind k=if kP p l=-1 then K1 else K2 (kP p l):=by
 subst hv dO
 refine(mI (S:=Unit) (R:=Int) l (fun pre x _=>if p x=true then .out (pre.length:Int)else .go ()) (fun pre _=>vs pre.length) (fun _ _=>σ') (fun _=>fin) (fun pre _ _=>ret pre.length) (fun _ _=>True) () (fun _=>K1) K2
  ?_ (fun _ _=>hend) trivial (fun _ _ _ _ _ _ _ _=>trivial) (fun _ _=>hk1) ?_ (fun _=>uI) (fun _ _ _=>yE _)).trans ?_
 ·intro pre x rest u hl _
  rw[hstep pre.length x (mM hl)]
  cases p x<;>simp [Rd.el]
 ·intro pre x rest s r hl _ hb
  rw[hk2]
  cases h:p x
  ·rw[h]at hb;cases hb
  ·rw[h]at hb;simp at hb;rw[hb]
 ·have:=BY p K1 K2 l [] (by simp)
  simpa using this
theorem vL {α:Type} (n:Int) (B:U→Option α) (s:Option α):((A.lss (.int .i64 n) (.int .i64 n)).bind fun x=>A.cond x (B x) s)=s:=by
 simp only[uG,Int.lt_irrefl,Option.bind_some,decide_false,cF]
section
variable {α β : Type}
theorem XX {c c':U} (h:c=c') (t e:Option α):A.cond c t e=A.cond c' t e:=by rw[h]
theorem Xc {c c':U} (h:c=c') (w:Bool) (e d:Option α):A.guard c w e d=A.guard c' w e d:=by rw[h]
theorem XT {x y:Option α} (h:x=y) (f:α→Option β):x.bind f=y.bind f:=by rw[h]
attribute [congr] XX Xc XT
end
theorem aI:type_of% @Option.bind_some.{0,0}∧type_of% @Option.map_some.{0,0}∧type_of% @cT∧type_of% @cF∧type_of% @To∧type_of% @Tn∧type_of% @Tm∧type_of% @Tl∧type_of% @gN∧type_of% @pT∧type_of% @pF∧type_of% @cond_true.{1}∧type_of% @cond_false.{1}∧type_of% @xN∧type_of% @Cx∧type_of% @wG∧type_of% @SJ∧type_of% @uG∧type_of% @SI∧type_of% @AJ∧type_of% @SH∧type_of% @R9∧type_of% @R8∧type_of% @R6∧type_of% @R5∧type_of% @oB∧type_of% @iM∧type_of% @Gu∧type_of% @KL∧type_of% @SK∧type_of% @Sa∧type_of% @Th∧type_of% @R1∧type_of% @R2∧type_of% @R3∧type_of% @R4∧type_of% @Tf∧type_of% @Tg∧type_of% @R7∧type_of% @Td∧type_of% @Tc∧type_of% @Te∧type_of% @SG∧type_of% @Mi∧type_of% @Tq∧type_of% @Tr∧type_of% @Ts∧type_of% @Tt∧type_of% @Tu∧type_of% @Tv∧type_of% @Tw∧type_of% @Tx∧type_of% @Ty∧type_of% @cV∧type_of% @JL∧type_of% @Pz∧type_of% @Qz∧type_of% @PA∧type_of% @dU∧type_of% @ite_true.{1}∧type_of% @ite_false.{1}∧type_of% @if_true.{1}∧type_of% @if_false.{1}∧type_of% @Bool.false_eq_true∧type_of% @not_true_eq_false∧type_of% @not_false_eq_true∧type_of% @decide_true∧type_of% @decide_false∧type_of% @Bool.not_true∧type_of% @Bool.not_false∧type_of% @List.append_assoc.{0}∧type_of% @List.cons_append.{0}∧type_of% @List.nil_append.{0}∧type_of% @List.drop_zero.{0}∧type_of% @QX∧type_of% @QY∧type_of% @PK∧type_of% @Int.natCast_add∧type_of% @Int.cast_ofNat_Int∧type_of% @IN∧type_of% @wk∧type_of% @vW∧type_of% @Av∧type_of% @Oe∧type_of% @Oc∧type_of% @Of∧type_of% @Od∧type_of% @OZ∧type_of% @O0∧type_of% @OV∧type_of% @O1∧type_of% @OW∧type_of% @true_and∧type_of% @and_true∧type_of% @false_and∧type_of% @and_false∧type_of% @true_or∧type_of% @or_true∧type_of% @false_or∧type_of% @or_false∧type_of% @Option.getD_some.{0}∧type_of% @Option.getD_none.{0}∧type_of% @List.length_append.{0}∧type_of% @List.length_cons.{0}∧type_of% @List.length_nil.{0}∧type_of% @Nat.zero_add∧type_of% @Nat.add_zero:=
 ⟨@Option.bind_some.{0,0},@Option.map_some.{0,0},@cT,@cF,@To,@Tn,@Tm,@Tl,@gN,@pT,@pF,@cond_true.{1},@cond_false.{1},@xN,@Cx,@wG,@SJ,@uG,@SI,@AJ,@SH,@R9,@R8,@R6,@R5,@oB,@iM,@Gu,@KL,@SK,@Sa,@Th,@R1,@R2,@R3,@R4,@Tf,@Tg,@R7,@Td,@Tc,@Te,@SG,@Mi,@Tq,@Tr,@Ts,@Tt,@Tu,@Tv,@Tw,@Tx,@Ty,@cV,@JL,@Pz,@Qz,@PA,@dU,@ite_true.{1},@ite_false.{1},@if_true.{1},@if_false.{1},@Bool.false_eq_true,@not_true_eq_false,@not_false_eq_true,@decide_true,@decide_false,@Bool.not_true,@Bool.not_false,@List.append_assoc.{0},@List.cons_append.{0},@List.nil_append.{0},@List.drop_zero.{0},@QX,@QY,@PK,@Int.natCast_add,@Int.cast_ofNat_Int,@IN,@wk,@vW,@Av,@Oe,@Oc,@Of,@Od,@OZ,@O0,@OV,@O1,@OW,@true_and,@and_true,@false_and,@and_false,@true_or,@or_true,@false_or,@or_false,@Option.getD_some.{0},@Option.getD_none.{0},@List.length_append.{0},@List.length_cons.{0},@List.length_nil.{0},@Nat.zero_add,@Nat.add_zero⟩
end
theorem OC (x:kK):gu (eS x):=(cz (dZ _ _) (cz (dZ _ _) nE))
theorem X9 (x:lX):gu (lE x):=(cz (dZ _ _) (cz (dZ _ _) (cz (uu _) nE)))
theorem X8 (x:eu):gu (eA x):=(cz (uu _) (cz (dZ _ _) (cz (dZ _ _) (cz (dZ _ _) (cz (dZ _ _) (cz (B8 _) (cz (yp X9 _) nE)))))))
theorem NA (x:bG):gu (ct x):=(cz (uu _) (cz (dZ _ _) (cz (yp X8 _) nE)))
theorem PG (x:bE):gu (bX x):=(cz (dZ _ _) (cz (uu _) (cz (dZ _ _) (cz (dZ _ _) nE))))
theorem uq (x:az):gu (aH x):=(cz (dZ _ _) (cz (uu _) nE))
theorem Wx (x:bW):gu (ck x):=(cz (dZ _ _) (cz (uu _) (cz (dZ _ _) nE)))
theorem BW (x:aM):gu (aK x):=(cz (dZ _ _) (cz (uu _) (cz (dZ _ _) (cz (dZ _ _) (cz (B8 _) (cz (B8 _) (cz (dZ _ _) (cz (dZ _ _) nE))))))))
theorem aac (x:aG):gu (aQ x):=(cz (dZ _ _) (cz (uu _) (cz (dZ _ _) (cz (dZ _ _) (cz (dZ _ _) (cz (dZ _ _) (cz (dZ _ _) (cz (yp OC _) (cz (B8 _) (cz (dZ _ _) (cz (yp BW _) nE)))))))))))
theorem X7 (x:bB):gu (jc x):=(cz (dZ _ _) (cz (uu _) (cz (dZ _ _) (cz (dZ _ _) (cz (dZ _ _) nE)))))
theorem Y9 (x:kr):gu (fA x):=(cz (dZ _ _) (cz (dZ _ _) (cz (dZ _ _) nE)))
instance : Inhabited ByteArray := ⟨⟨#[]⟩⟩
instance : Inhabited kK := ⟨⟨0, 0⟩⟩
instance : Inhabited nZ := ⟨⟨0, []⟩⟩
instance : Inhabited RX := ⟨⟨0, 0, 0, 0, 0, ⟨0, []⟩⟩⟩
instance : Inhabited ZQ := ⟨⟨0, 0⟩⟩
instance : Inhabited lX := ⟨⟨0, 0, ⟨#[]⟩⟩⟩
instance : Inhabited eu := ⟨⟨⟨#[]⟩, 0, 0, 0, 0, false, []⟩⟩
instance : Inhabited bG := ⟨⟨⟨#[]⟩, 0, []⟩⟩
instance : Inhabited bE := ⟨⟨0, ⟨#[]⟩, 0, 0⟩⟩
instance : Inhabited aV := ⟨⟨[], []⟩⟩
instance : Inhabited az := ⟨⟨0, ⟨#[]⟩⟩⟩
theorem uo (a b:az):A.dG (.s [0,2]) (.agg (aH a)) (.agg (aH b))=some (decide (a=b)):=by
 obtain⟨x1,x2⟩:=a
 obtain⟨x101,x102⟩:=b
 simp only[A.dG,aH,A.fJ,A.rY,A.mz,A.uY,A.pU,if_true,Option.bind_some,Option.map_some,bq]
 congr 1
 rw[Bool.eq_iff_iff]
 simp [and_assoc]
theorem abu (a b:az):A.eql (.s [0,2]) (.agg (aH a)) (.agg (aH b))=some (.bool (decide (a=b))):=by rw[A.eql,uo];rfl
instance : Inhabited bW := ⟨⟨⟨0, ⟨#[]⟩⟩, 0⟩⟩
theorem Wv (a b:bW):A.dG (.s [0,2,0]) (.agg (ck a)) (.agg (ck b))=some (decide (a=b)):=by
 obtain⟨⟨x1,x2⟩,x3⟩:=a
 obtain⟨⟨x101,x102⟩,aeg⟩:=b
 simp only[A.dG,ck,A.fJ,A.rY,A.mz,A.uY,A.pU,if_true,Option.bind_some,Option.map_some,bq]
 congr 1
 rw[Bool.eq_iff_iff]
 simp [and_assoc]
theorem Xi (a b:bW):A.neq (.s [0,2,0]) (.agg (ck a)) (.agg (ck b))=some (.bool (decide (¬(a=b)))):=by rw[A.neq,Wv,Option.map_some,decide_not]
instance : Inhabited bJ := ⟨⟨0, ⟨#[]⟩, []⟩⟩
instance : Inhabited acC := ⟨⟨[], 0, 0⟩⟩
instance : Inhabited fN := ⟨⟨0, 0⟩⟩
theorem X2 (a b:fN):A.dG (.s [0,0]) (.agg (qn a)) (.agg (qn b))=some (decide (a=b)):=by
 obtain⟨x1,x2⟩:=a
 obtain⟨x101,x102⟩:=b
 simp only[A.dG,qn,A.fJ,A.rY,A.mz,A.uY,A.pU,if_true,Option.bind_some,Option.map_some,bq]
 congr 1
 rw[Bool.eq_iff_iff]
 simp [and_assoc]
theorem Zs (a b:fN):A.neq (.s [0,0]) (.agg (qn a)) (.agg (qn b))=some (.bool (decide (¬(a=b)))):=by rw[A.neq,X2,Option.map_some,decide_not]
instance : Inhabited aM := ⟨⟨⟨0, ⟨#[]⟩⟩, ⟨0, 0⟩, false, false, 0, 0⟩⟩
instance : Inhabited aG := ⟨⟨0, ⟨#[]⟩, 0, 0, 0, 0, ⟨0, []⟩, false, 0, []⟩⟩
instance : Inhabited bB := ⟨⟨⟨0, ⟨#[]⟩⟩, ⟨0, 0⟩, 0⟩⟩
instance : Inhabited kr := ⟨⟨0, 0, 0⟩⟩
instance : Inhabited RY := ⟨⟨0, []⟩⟩
instance : Inhabited Oo := ⟨⟨0, 0, 0⟩⟩
instance : Inhabited abk := ⟨⟨⟨[], []⟩, [], [], []⟩⟩
instance : Inhabited Qk := ⟨⟨0, 0, 0, 0, 0⟩⟩
instance : Inhabited abi := ⟨⟨0, ⟨0, 0, 0, 0, 0⟩⟩⟩
instance : Inhabited abl := ⟨⟨0, 0, 0, 0⟩⟩
instance : Inhabited SF := ⟨⟨⟨0, ⟨#[]⟩⟩, ⟨0, 0, 0, 0, 0, ⟨0, []⟩⟩, 0, false⟩⟩
instance : Inhabited XR := ⟨⟨0, 0, 0, false, 0, []⟩⟩
instance : Inhabited Ns := ⟨⟨0, 0, 0⟩⟩
instance : Inhabited Ql := ⟨⟨0, 0, 0, 0, 0, 0, false, false, []⟩⟩
instance : Inhabited RZ := ⟨⟨0, 0⟩⟩
instance : Inhabited YP := ⟨⟨⟨0, 0, 0, 0, 0, 0, false, false, []⟩, [], 0, [], 0, 0, 0⟩⟩
section
def Rf {β τ:Type} (M:Option β) (T:Option τ) (Q:τ→β→Prop):Prop:=∀t,T=some t→∃b,M=some b∧Q t b
section
variable {α β ω τ ζ : Type}
theorem an {M0:Option α} {K:α→Option β} {T:Option τ} {Q:τ→β→Prop} (a:α) (h:M0=some a) (k:Rf (K a) T Q):Rf (M0.bind K) T Q:=by
 intro t ht;obtain⟨b,h1,h2⟩:=k t ht;exact⟨b,by rw[h];exact h1,h2⟩
theorem jA {M0:Option α} {K:α→Option β} {o:Option ω} {K':ω→Option τ} {Q:τ→β→Prop} (e:ω→α) (h:∀t,o=some t→M0=some (e t)) (k:∀t,o=some t→Rf (K (e t)) (K' t) Q):Rf (M0.bind K) (o.bind K') Q:=by
 intro t ht
 obtain⟨x,h1,h2⟩:=Option.bind_eq_some_iff.1 ht
 obtain⟨b,h3,h4⟩:=k x h1 t h2
 exact⟨b,by rw[h x h1];exact h3,h4⟩
theorem S8 {M0:Option α} {K:α→Option β} {o:Option ω} {K':ω→Option τ} {Q:τ→β→Prop} (Q0:ω→α→Prop) (h:Rf M0 o Q0) (k:∀t a,Q0 t a→Rf (K a) (K' t) Q):Rf (M0.bind K) (o.bind K') Q:=by
 intro t ht
 obtain⟨x,h1,h2⟩:=Option.bind_eq_some_iff.1 ht
 obtain⟨a,h3,h4⟩:=h x h1
 obtain⟨b,h5,h6⟩:=k x a h4 t h2
 exact⟨b,by rw[h3];exact h5,h6⟩
theorem bK {t:τ} {b:β} {Q:τ→β→Prop} (h:Q t b):Rf (some b) (some t) Q:=by
 intro u hu;cases hu;exact⟨b,rfl,h⟩
theorem fu {M:Option β} {t:τ} {Q:τ→β→Prop} (b:β) (e:M=some b) (h:Q t b):Rf M (some t) Q:=by
 rw[e];exact bK h
theorem aaZ {M:Option β} {Q:τ→β→Prop}:Rf M (none:Option τ) Q:=by intro u hu;cases hu
theorem Sw {M:Option β} {p:Prop} [Decidable p] {T:Option τ} {Q:τ→β→Prop} (h:p→Rf M T Q):Rf M (if p then T else none) Q:=by
 split
 ·exact h ‹_›
 ·exact aaZ
theorem mW {p:Prop} [Decidable p] {X Y:Option β} {X' Y':Option τ} {Q:τ→β→Prop} (h1:p→Rf X X' Q) (h2:¬p→Rf Y Y' Q):Rf (A.cond (.bool (decide p)) X Y) (if p then X' else Y') Q:=by
 by_cases h:p
 ·simp only[h,decide_true,if_true];exact h1 h
 ·simp only[h,decide_false,if_false];exact h2 h
theorem iJ {c:Bool} {X Y:Option β} {X' Y':Option τ} {Q:τ→β→Prop} (h1:c=true→Rf X X' Q) (h2:c=false→Rf Y Y' Q):Rf (A.cond (.bool c) X Y) (if c=true then X' else Y') Q:=by
 cases c
 ·exact h2 rfl
 ·exact h1 rfl
theorem mg {X Y:Option β} {T:Option τ} {Q:τ→β→Prop} (h:Rf X T Q):Rf (A.cond (.bool true) X Y) T Q:=h
theorem me {X Y:Option β} {T:Option τ} {Q:τ→β→Prop} (h:Rf Y T Q):Rf (A.cond (.bool false) X Y) T Q:=h
theorem gL {c:Bool} {X Y:Option β} {T:Option τ} {Q:τ→β→Prop} (e:c=true) (h:Rf X T Q):Rf (bif c then X else Y) T Q:=by rw[e];exact h
theorem rM {c:Bool} {X Y:Option β} {T:Option τ} {Q:τ→β→Prop} (e:c=false) (h:Rf Y T Q):Rf (bif c then X else Y) T Q:=by rw[e];exact h
def gv {α:Type} (g:Bool) (e:α→U) (t:α):U:=bif g then e t else .aA []
end
inductive Lr (S B R : Type) where
 |go (s:S)
 |brk (b:B)
 |ret (r:R)
def jK {α S B R:Type} (body:Nat→α→S→Option (Lr S B R)) (fin:S→Option B):List α→Nat→S→Option (B ⊕ R)
 |[],_,s=>(fin s).map .inl
 |x::l,i,s=>(body i x s).bind fun q=>match q with|.go s'=>jK body fin l (i+1) s'|.brk b=>some (.inl b)|.ret r=>some (.inr r)
def iL {α S B R γ:Type} (l:List α) (body:Nat→α→S→Option (Lr S B R)) (fin:S→Option B) (s:S) (K1:B→Option γ) (K2:R→Option γ):Option γ:=
 if l.length≤br then(jK body fin l 0 s).bind fun q=>q.elim K1 K2 else none
section
variable {α S B R β τ : Type}
abbrev LS:=AX×List U×Heap
def GJ (I:S→List U→Heap→Prop) (QB:B→LS→Prop) (QR:R→LS→Prop) (t:Lr S B R) (q:LS):Prop:=match t with
 |.go s=>q.1=.normal∧I s q.2.1 q.2.2
 |.brk b=>q.1≠.normal∧QB b q
 |.ret r=>q.1≠.normal∧QR r q
theorem l5 {I:S→List U→Heap→Prop} {QB:B→LS→Prop} {QR:R→LS→Prop} {s:S} {v:List U} {σ:Heap} (h:I s v σ):GJ I QB QR (.go s) (.normal,v,σ):=⟨rfl,h⟩
theorem aa0 {I:S→List U→Heap→Prop} {QB:B→LS→Prop} {QR:R→LS→Prop} {b:B} {q:LS} (n:q.1≠.normal) (h:QB b q):GJ I QB QR (.brk b) q:=⟨n,h⟩
theorem fT {I:S→List U→Heap→Prop} {QB:B→LS→Prop} {QR:R→LS→Prop} {r:R} {q:LS} (n:q.1≠.normal) (h:QR r q):GJ I QB QR (.ret r) q:=⟨n,h⟩
theorem lZ {f:List U→Heap→Option LS} {K:LS→Option β} {Q:τ→β→Prop} {l:List α} {body:Nat→α→S→Option (Lr S B R)} {fin:S→Option B} {s0:S} {K1:B→Option τ} {K2:R→Option τ} {v0:List U} {au:Heap}
  (I:Nat→S→List U→Heap→Prop) (QB:B→LS→Prop) (QR:R→LS→Prop)
  (hstep:l.length≤br→∀i x s v σ,l[i]? =some x→I i s v σ→Rf (f v σ) (body i x s) (GJ (I (i+1)) QB QR))
  (hend:l.length≤br→∀s v σ,I l.length s v σ→Rf (f v σ) (fin s) (fun b q=>q.1≠.normal∧QB b q))
  (h0:I 0 s0 v0 au) (k1:l.length≤br→∀b q,QB b q→Rf (K q) (K1 b) Q) (k2:l.length≤br→∀r q,QR r q→Rf (K q) (K2 r) Q):
  Rf ((A.loop f v0 au).bind K) (iL l body fin s0 K1 K2) Q:=by
 unfold iL
 refine Sw fun hl=>?_
 have hstep:=hstep hl
 have hend:=hend hl
 have key:∀(rest pre:List α) (s:S) (v:List U) (σ:Heap),l=pre++rest→I pre.length s v σ→∀t,jK body fin rest pre.length s=some t→∃q,(∃n,A.iter f n v σ=some q)∧(match t with|.inl b=>QB b q|.inr r=>QR r q):=by
  intro rest
  induction rest with
  |nil=>
   intro pre s v σ hl hI t ht
   rw[List.append_nil]at hl
   subst hl
   simp only[jK]at ht
   obtain⟨b,hb,rfl⟩:=Option.map_eq_some_iff.1 ht
   obtain⟨q,h1,h2,h3⟩:=hend s v σ hI b hb
   exact⟨q,oO h1 h2,h3⟩
  |cons x rest ih=>
   intro pre s v σ hl hI t ht
   simp only[jK]at ht
   obtain⟨y,hy,h2⟩:=Option.bind_eq_some_iff.1 ht
   obtain⟨q,h3,h4⟩:=hstep pre.length x s v σ (by rw[hl];simp) hI y hy
   obtain⟨e,v',σ'⟩:=q
   cases y with
   |go s'=>
    obtain⟨rfl,LU⟩:=h4
    obtain⟨q,h5,h6⟩:=ih (pre++[x]) s' v' σ' (by simpa using hl) (by simpa using LU) t (by simpa using h2)
    exact⟨q,vJ h3 h5,h6⟩
   |brk b=>simp only[Option.some.injEq]at h2;subst h2;exact⟨_,oO h3 h4.1,h4.2⟩
   |ret b=>simp only[Option.some.injEq]at h2;subst h2;exact⟨_,oO h3 h4.1,h4.2⟩
 intro t ht
 obtain⟨y,hy,h2⟩:=Option.bind_eq_some_iff.1 ht
 obtain⟨q,⟨n,hn⟩,h3⟩:=key l [] s0 v0 au rfl h0 y hy
 cases y with
 |inl b=>obtain⟨z,h4,h5⟩:=k1 hl b q h3 t h2;exact⟨z,by rw[xC hn];exact h4,h5⟩
 |inr b=>obtain⟨z,h4,h5⟩:=k2 hl b q h3 t h2;exact⟨z,by rw[xC hn];exact h4,h5⟩
theorem iq {l:List α} {i:Nat} {x:α} (h:l[i]? =some x):A.lss (.int .i64 (i:Int)) (.int .i64 (l.length:Int))=some (.bool true):=by
 have:=(List.getElem?_eq_some_iff.1 h).1
 rw[uG];simp;omega
theorem ia (l:List α):A.lss (.int .i64 (l.length:Int)) (.int .i64 (l.length:Int))=some (.bool false):=by rw[uG];simp
theorem fZ {l:List α} {i:Nat} {x:α} (h:l[i]? =some x) (hl:l.length≤br):A.add (.int .i64 (i:Int)) (.int .i64 1)=some (.int .i64 ((i+1:Nat):Int)):=by
 have:=(List.getElem?_eq_some_iff.1 h).1
 rw[Cx,wrap64 (by unfold aS;unfold br at hl;omega)]
 simp
def p6 (l:List α) (i:Int):Option α:=if 0≤i then l[i.toNat]? else none
theorem yu {sz:Nat} {c:α→List U} {l:List α} {i:Int} {x:α} (h:p6 l i=some x):A.aU sz (sl sz c l) (.int .i64 i)=some (.rp (c x)):=by
 unfold p6 at h
 split at h
 ·exact Yd sz c l ‹_› h
 ·cases h
theorem fW {sz:Nat} {c:α→List U} {l:List α} {i:Nat} {x:α} (h:l[i]? =some x):A.aU sz (sl sz c l) (.int .i64 (i:Int))=some (.rp (c x)):=iS sz c l h
end
theorem quiet_of {M:Option (U×Heap)} {v:U} {σ:Heap} (h:M=some (v,σ)):A.quiet M σ=some v:=by rw[h,IN]
noncomputable def tq {α:Type} (p:Prop) (x:α):Option α:=open Classical in if p then some x else none
theorem oa {α:Type} {p:Prop} {x:α} (h:p):tq p x=some x:=if_pos h
theorem oh {α β:Type} {p:Prop} {x r:α} {M:Option β} {e:α→β} (h:p→M=some (e x)) (k:tq p x=some r):M=some (e r):=by
 unfold tq at k
 split at k
 ·rename_i hp;injection k with k;subst k;exact h hp
 ·cases k
theorem qo (b t:Bool):A.pick (.bool b) (bif b then .bool t else .aA []) (.bool false)=some (.bool (b&&t)):=by cases b<;>rfl
theorem rK (b t:Bool):A.pick (.bool b) (.bool true) (bif !b then .bool t else .aA [])=some (.bool (b||t)):=by cases b<;>rfl
section
variable {α β ω τ : Type} {G b : Bool} {M0 : Option U} {K : U → Option β} {T : Option τ} {K' : ω → Option τ} {o : Option ω} {Q : τ → β → Prop}
theorem dF (a:U) (h:b=true→M0=some a) (k:Rf (K (bif b then a else .aA [])) T Q):Rf ((A.guard (.bool b) true M0 (some (.aA []))).bind K) T Q:=by
 refine an _ ?_ k
 cases b<;>simp_all [A.guard]
theorem gn (a:U) (h:(!b)=true→M0=some a) (k:Rf (K (bif !b then a else .aA [])) T Q):Rf ((A.guard (.bool b) false M0 (some (.aA []))).bind K) T Q:=by
 refine an _ ?_ k
 cases b<;>simp_all [A.guard]
theorem RL (a:U) (h:(G&&b)=true→M0=some a) (k:Rf (K (bif G&&b then a else .aA [])) T Q):Rf ((A.guard (bif G then .bool b else .aA []) true M0 (some (.aA []))).bind K) T Q:=by
 refine an _ ?_ k
 cases G<;>cases b<;>simp_all [A.guard]
theorem Cm (a:U) (h:(G&&!b)=true→M0=some a) (k:Rf (K (bif G&&!b then a else .aA [])) T Q):Rf ((A.guard (bif G then .bool b else .aA []) false M0 (some (.aA []))).bind K) T Q:=by
 refine an _ ?_ k
 cases G<;>cases b<;>simp_all [A.guard]
theorem Sv {g:Bool} {M:Option U} {d:ω} (e:ω→U) (hM:M=bif g then M0 else some (.aA [])) (h:g=true→∀t,o=some t→M0=some (e t)) (k:∀t,(g=true→o=some t)→Rf (K (bif g then e t else .aA [])) (K' t) Q):Rf (M.bind K) ((if g=true then o else some d).bind K') Q:=by
 subst hM
 cases g
 ·exact k d (by simp)
 ·intro t ht
  simp only[if_true]at ht
  obtain⟨x,h1,h2⟩:=Option.bind_eq_some_iff.1 ht
  obtain⟨y,h3,h4⟩:=k x (fun _=>h1) t h2
  refine⟨y,?_,h4⟩
  simp only[cond_true,h rfl x h1,Option.bind_some]
  exact h3
theorem yl {d:ω} (e:ω→U) (h:b=true→∀t,o=some t→M0=some (e t)) (k:∀t,(b=true→o=some t)→Rf (K (bif b then e t else .aA [])) (K' t) Q):Rf ((A.guard (.bool b) true M0 (some (.aA []))).bind K) ((if b=true then o else some d).bind K') Q:=Sv e (by cases b<;>rfl) h k
theorem aaY {d:ω} (e:ω→U) (h:(G&&!b)=true→∀t,o=some t→M0=some (e t)) (k:∀t,((G&&!b)=true→o=some t)→Rf (K (bif G&&!b then e t else .aA [])) (K' t) Q):Rf ((A.guard (bif G then .bool b else .aA []) false M0 (some (.aA []))).bind K) ((if(G&&!b)=true then o else some d).bind K') Q:=Sv e (by cases G<;>cases b<;>rfl) h k
end
theorem JX {ro:Bool} {bL:List Sh} {cC:Sh} {r:List U→Heap→Option (U×Heap)} {args args':List U} {σ:Heap} (hn:A.bI bL args=A.bI bL args') (h1:args.any A.own=false) (h2:args'.any A.own=false):A.wrap ro bL cC r args σ=A.wrap ro bL cC r args' σ:=by
 unfold A.wrap
 rw[h1,h2,hn,Bool.and_false,cond_false,cond_false]
theorem JV {τ:Type} {ro:Bool} {bL:List Sh} {cC:Sh} {r:List U→Heap→Option (U×Heap)} {args args':List U} {σ:Heap} {T:Option τ} {enc:τ→U} (hn:A.bI bL args=args') (h:args.any A.own=false) (e:Rf (r args' σ) T (fun t b=>A.nn cC b.1=enc t∧b.2=σ)):∀t,T=some t→A.wrap ro bL cC r args σ=some (enc t,σ):=by
 intro t ht
 obtain⟨⟨v,σ'⟩,h1,h2,h3⟩:=e t ht
 simp only at h2 h3
 subst h3
 exact wrap_eq h (by rw[hn];exact h1) h2
theorem B2 {τ:Type} {ro:Bool} {bL:List Sh} {cC:Sh} {f:U→Heap→Option (U×Heap)} {x0 y0:U} {σ:Heap} {T:Option τ} {enc:τ→U} (hn:A.bI bL [x0]=[y0]) (h:([x0]:List U).any A.own=false) (e:Rf (f y0 σ) T (fun t b=>A.nn cC b.1=enc t∧b.2=σ)):∀t,T=some t→A.wrap ro bL cC (A.fD f) [x0] σ=some (enc t,σ):=JV hn h e
theorem xW {τ:Type} {ro:Bool} {bL:List Sh} {cC:Sh} {f:U→U→Heap→Option (U×Heap)} {x0 x1 y0 y1:U} {σ:Heap} {T:Option τ} {enc:τ→U} (hn:A.bI bL [x0,x1]=[y0,y1]) (h:([x0,x1]:List U).any A.own=false) (e:Rf (f y0 y1 σ) T (fun t b=>A.nn cC b.1=enc t∧b.2=σ)):∀t,T=some t→A.wrap ro bL cC (A.ep f) [x0,x1] σ=some (enc t,σ):=JV hn h e
theorem B3 {τ:Type} {ro:Bool} {bL:List Sh} {cC:Sh} {f:U→U→U→Heap→Option (U×Heap)} {x0 x1 x2 y0 y1 y2:U} {σ:Heap} {T:Option τ} {enc:τ→U} (hn:A.bI bL [x0,x1,x2]=[y0,y1,y2]) (h:([x0,x1,x2]:List U).any A.own=false) (e:Rf (f y0 y1 y2 σ) T (fun t b=>A.nn cC b.1=enc t∧b.2=σ)):∀t,T=some t→A.wrap ro bL cC (A.fE f) [x0,x1,x2] σ=some (enc t,σ):=JV hn h e
end
section
inductive Ct where
 |s (sz:Nat) (es:List (List U))
 |m (es:List (U×U))
 |b (cs:List U)
def oq:U→Option Nat
 |.os id _ _ _ _=>some id
 |.om id=>some id
 |.op id _=>some id
 |_=>none
def Own (n:Nat) (σ:Heap) (p:U×Ct):Prop:=match p.2 with
 |.s sz es=>(p.1=.aB∧es=[])∨∃id g off a,p.1=.os id g sz off es.length∧n≤id∧σ[id]? =some (.arr g sz a)∧off≤a.length∧a.drop off=es
 |.m es=>∃id,p.1=.om id∧n≤id∧σ[id]? =some (.map es)
 |.b cs=>∃id,p.1=.op id 0∧n≤id∧σ[id]? =some (.box cs)
structure Hp (au σ : Heap) (L : List (U × Ct)) : Prop where
 pre:∃bs,σ=au++bs
 own:∀(i:Nat) p,L[i]? =some p→Own au.length σ p
 sep:∀(i j:Nat) p q a,L[i]? =some p→L[j]? =some q→oq p.1=some a→oq q.1=some a→i=j
section
variable {au σ σ' : Heap} {L : List (U × Ct)} {n : Nat}
theorem F9 (σ:Heap):Hp σ σ []:=⟨⟨[],by simp⟩,by simp,by simp⟩
theorem Ck {p:U×Ct} {a:Nat} (h:Own n σ p) (e:oq p.1=some a):n≤a∧a<σ.length:=by
 obtain⟨v,c⟩:=p
 cases c with
 |s sz es=>
  rcases h with⟨h1,_⟩|⟨id,g,off,x,h1,h2,h3,_⟩
  ·simp only at h1;subst h1;cases e
  ·simp only at h1;subst h1;injection e with e;subst e;exact⟨h2,(List.getElem?_eq_some_iff.1 h3).1⟩
 |m es=>obtain⟨id,h1,h2,h3⟩:=h;simp only at h1;subst h1;injection e with e;subst e;exact⟨h2,(List.getElem?_eq_some_iff.1 h3).1⟩
 |b es=>obtain⟨id,h1,h2,h3⟩:=h;simp only at h1;subst h1;injection e with e;subst e;exact⟨h2,(List.getElem?_eq_some_iff.1 h3).1⟩
theorem Js {p:U×Ct} (h:Own n σ p) (k:∀a,oq p.1=some a→σ'[a]? =σ[a]?):Own n σ' p:=by
 obtain⟨v,c⟩:=p
 cases c with
 |s sz es=>
  rcases h with h|⟨id,g,off,x,h1,h2,h3,h4⟩
  ·exact .inl h
  ·simp only at h1;subst h1;exact .inr ⟨id,g,off,x,rfl,h2,by rw[k id rfl];exact h3,h4⟩
 |m es=>obtain⟨id,h1,h2,h3⟩:=h;simp only at h1;subst h1;exact⟨id,rfl,h2,by rw[k id rfl];exact h3⟩
 |b es=>obtain⟨id,h1,h2,h3⟩:=h;simp only at h1;subst h1;exact⟨id,rfl,h2,by rw[k id rfl];exact h3⟩
theorem aaT (h:∃bs,σ=au++bs) {id:Nat} (hn:au.length≤id) (b:aO):∃bs,σ.set id b=au++bs:=by
 obtain⟨bs,rfl⟩:=h
 exact⟨bs.set (id-au.length) b,by rw[List.set_append_right _ _ hn]⟩
theorem Ga (H:Hp au σ L) {k id:Nat} {h h':U} {c c':Ct} {b:aO} (hk:L[k]? =some (h,c)) (hi:oq h=some id) (hi':oq h'=some id) (ho:Own au.length (σ.set id b) (h',c')):Hp au (σ.set id b) (L.set k (h',c')):=by
 have hid:=Ck (H.own k _ hk) hi
 have nS:=(List.getElem?_eq_some_iff.1 hk).1
 refine⟨aaT H.pre hid.1 b,fun i p hp=>?_,fun i j p q a hp hq e1 e2=>?_⟩
 ·rw[List.getElem?_set]at hp
  split at hp
  ·rename_i e;subst e;simp [nS]at hp;subst hp;exact ho
  ·rename_i e
   refine Js (H.own i p hp) fun a ha=>?_
   rw[List.getElem?_set]
   split
   ·rename_i e';subst e';exact absurd (H.sep k i _ _ id hk hp hi ha) e
   ·rfl
 ·have key:∀(i:Nat) (p:U×Ct),(L.set k (h',c'))[i]? =some p→oq p.1=some a→∃p',L[i]? =some p'∧oq p'.1=some a:=by
   intro i p hp e
   rw[List.getElem?_set]at hp
   split at hp
   ·rename_i e';subst e';simp [nS]at hp;subst hp;exact⟨_,hk,by rw[hi];rw[hi']at e;exact e⟩
   ·exact⟨p,hp,e⟩
  obtain⟨p',hp',e1'⟩:=key i p hp e1
  obtain⟨q',vf,C8⟩:=key j q hq e2
  exact H.sep i j p' q' a hp' vf e1' C8
theorem abB (H:Hp au σ L) {k:Nat} {h h':U} {c c':Ct} {b:aO} (hk:L[k]? =some (h,c)) (hi:oq h=none) (hi':oq h'=some σ.length) (ho:Own au.length (σ++[b]) (h',c')):Hp au (σ++[b]) (L.set k (h',c')):=by
 have nS:=(List.getElem?_eq_some_iff.1 hk).1
 refine⟨?_,fun i p hp=>?_,fun i j p q a hp hq e1 e2=>?_⟩
 ·obtain⟨bs,rfl⟩:=H.pre;exact⟨bs++[b],by simp⟩
 ·rw[List.getElem?_set]at hp
  split at hp
  ·rename_i e;subst e;simp [nS]at hp;subst hp;exact ho
  ·refine Js (H.own i p hp) fun a ha=>?_
   have:=(Ck (H.own i p hp) ha).2
   rw[List.getElem?_append_left this]
 ·have key:∀(i:Nat) (p:U×Ct),(L.set k (h',c'))[i]? =some p→oq p.1=some a→(i=k∧a=σ.length)∨(L[i]? =some p∧a<σ.length):=by
   intro i p hp e
   rw[List.getElem?_set]at hp
   split at hp
   ·rename_i e';subst e';simp [nS]at hp;subst hp;rw[hi']at e;injection e with e;exact .inl ⟨rfl,e.symm⟩
   ·exact .inr ⟨hp,(Ck (H.own i p hp) e).2⟩
  rcases key i p hp e1 with⟨a1,a2⟩|⟨a1,a2⟩<;>rcases key j q hq e2 with⟨b1,b2⟩|⟨b1,b2⟩
  ·omega
  ·omega
  ·omega
  ·exact H.sep i j p q a a1 b1 e1 e2
theorem QD (H:Hp au σ L) {h':U} {c':Ct} {b:aO} (hi':oq h'=some σ.length) (ho:Own au.length (σ++[b]) (h',c')):Hp au (σ++[b]) (L++[(h',c')]):=by
 refine⟨?_,fun i p hp=>?_,fun i j p q a hp hq e1 e2=>?_⟩
 ·obtain⟨bs,rfl⟩:=H.pre;exact⟨bs++[b],by simp⟩
 ·rw[List.getElem?_append]at hp
  split at hp
  ·refine Js (H.own i p hp) fun a ha=>?_
   have:=(Ck (H.own i p hp) ha).2
   rw[List.getElem?_append_left this]
  ·have hp':=(List.getElem?_eq_some_iff.1 hp).2
   simp at hp';subst hp';exact ho
 ·have key:∀(i:Nat) (p:U×Ct),(L++[(h',c')])[i]? =some p→oq p.1=some a→(i=L.length∧a=σ.length)∨(L[i]? =some p∧a<σ.length):=by
   intro i p hp e
   rw[List.getElem?_append]at hp
   split at hp
   ·exact .inr ⟨hp,(Ck (H.own i p hp) e).2⟩
   ·obtain⟨h1,h2⟩:=List.getElem?_eq_some_iff.1 hp
    simp at h1 h2;subst h2;rw[hi']at e;injection e with e;exact .inl ⟨by omega,e.symm⟩
  rcases key i p hp e1 with⟨a1,a2⟩|⟨a1,a2⟩<;>rcases key j q hq e2 with⟨b1,b2⟩|⟨b1,b2⟩
  ·omega
  ·omega
  ·omega
  ·exact H.sep i j p q a a1 b1 e1 e2
theorem abA (H:Hp au σ L) (sz:Nat):Hp au σ (L++[(.aB,.s sz [])]):=by
 refine⟨H.pre,fun i p hp=>?_,fun i j p q a hp hq e1 e2=>?_⟩
 ·rw[List.getElem?_append]at hp
  split at hp
  ·exact H.own i p hp
  ·have hp':=(List.getElem?_eq_some_iff.1 hp).2
   simp at hp';subst hp';exact .inl ⟨rfl,rfl⟩
 ·have key:∀(i:Nat) (p:U×Ct),(L++[((.aB:U),Ct.s sz [])])[i]? =some p→oq p.1=some a→L[i]? =some p:=by
   intro i p hp e
   rw[List.getElem?_append]at hp
   split at hp
   ·exact hp
   ·have hp':=(List.getElem?_eq_some_iff.1 hp).2
    simp at hp';subst hp';cases e
  exact H.sep i j p q a (key i p hp e1) (key j q hq e2) e1 e2
theorem Ks (H:Hp au σ L):Hp au (σ++[.map []]) (L++[(.om σ.length,.m [])]):=by
 have hl:au.length≤σ.length:=by obtain⟨bs,rfl⟩:=H.pre;simp
 exact QD H rfl ⟨σ.length,rfl,hl,by simp⟩
theorem acm (H:Hp au σ L) (cs:List U):Hp au (σ++[.box cs]) (L++[(.op σ.length 0,.b cs)]):=by
 have hl:au.length≤σ.length:=by obtain⟨bs,rfl⟩:=H.pre;simp
 exact QD H rfl ⟨σ.length,rfl,hl,by simp⟩
theorem aan (H:Hp au σ L) (n:Nat):Hp au σ (L.take n):=by
 have key:∀(i:Nat) (p:U×Ct),(L.take n)[i]? =some p→L[i]? =some p:=by
  intro i p h
  rw[List.getElem?_take]at h
  split at h
  ·exact h
  ·cases h
 exact⟨H.pre,fun i p hp=>H.own i p (key i p hp),fun i j p q a hp hq=>H.sep i j p q a (key i p hp) (key j q hq)⟩
theorem JP (H:Hp au σ L):Hp au σ []:=⟨H.pre,by simp,by simp⟩
theorem aby (H:Hp au σ L) {k sz most:Nat} {h:U} {es ys:List (List U)} (hk:L[k]? =some (h,.s sz es)) (hm:es.length+ys.length≤most):∃h' σ',A.append sz most h (.sl sz ys) σ=some (h',σ')∧Hp au σ' (L.set k (h',.s sz (es++ys))):=by
 have hl:au.length≤σ.length:=by obtain⟨bs,rfl⟩:=H.pre;simp
 rcases H.own k _ hk with⟨h1,h2⟩|⟨id,g,off,a,h1,h2,h3,h4,h5⟩
 ·simp only at h1 h2
  subst h1 h2
  by_cases hy:ys=[]
  ·subst hy
   refine⟨.aB,σ,by simp [A.append,A.jG,A.elems],?_⟩
   have:L.set k (.aB,.s sz ([]++[]))=L:=by
    apply List.ext_getElem?
    intro i
    rw[List.getElem?_set]
    split
    ·rename_i e;subst e;rw[hk];simp [(List.getElem?_eq_some_iff.1 hk).1]
    ·rfl
   rw[this];exact H
  ·refine⟨.os σ.length ys.length sz 0 ys.length,σ++[.arr ys.length sz ys],?_,?_⟩
   ·have:ys.length≤most:=by simpa using hm
    simp [A.append,A.jG,A.elems,hy,this]
   ·exact abB H hk rfl rfl (.inr ⟨σ.length,ys.length,0,ys,by simp,hl,by simp,by simp,by simp⟩)
 ·simp only at h1 h5
  subst h1
  have hid:=(List.getElem?_eq_some_iff.1 h3).1
  have h6:off+es.length=a.length:=by rw[←h5,List.length_drop];omega
  by_cases hy:ys=[]
  ·subst hy
   refine⟨.os id g sz off es.length,σ,?_,?_⟩
   ·have:es.length≤most:=by simpa using hm
    simp [A.append,A.jG,A.elems,h3,h6,this]
   ·have:L.set k (.os id g sz off es.length,.s sz (es++[]))=L:=by
     apply List.ext_getElem?
     intro i
     rw[List.getElem?_set]
     split
     ·rename_i e;subst e;rw[hk];simp [(List.getElem?_eq_some_iff.1 hk).1]
     ·rfl
    rw[this];exact H
  ·refine⟨.os id (g+ys.length) sz 0 (es.length+ys.length),σ.set id (.arr (g+ys.length) sz (es++ys)),?_,?_⟩
   ·have ht:(a.drop off).take es.length=es:=by rw[h5];simp
    have hp:0<ys.length:=List.length_pos_iff.2 hy
    simp [A.append,A.jG,A.elems,h3,h6,hm,hy,ht,hp]
   ·refine Ga H hk rfl rfl (.inr ⟨id,g+ys.length,0,es++ys,by simp,h2,by simp [hid],by simp,by simp [h5]⟩)
theorem aam (H:Hp au σ L) {k:Nat} {h key v:U} {ek:A.EK} {es es':List (U×U)} (hk:L[k]? =some (h,.m es)) (hok:A.gj ek key=true) (he:A.upd ek key v es=some es'):∃σ',A.eU ek h key v σ=some σ'∧Hp au σ' (L.set k (h,.m es')):=by
 obtain⟨id,h1,h2,h3⟩:=H.own k _ hk
 simp only at h1 h3
 subst h1
 have hid:=(List.getElem?_eq_some_iff.1 h3).1
 exact⟨σ.set id (.map es'),by simp [A.eU,hok,h3,he],Ga H hk rfl rfl ⟨id,rfl,h2,by simp [hid]⟩⟩
theorem aal (H:Hp au σ L) {k:Nat} {h key:U} {ek:A.EK} {es es':List (U×U)} (hk:L[k]? =some (h,.m es)) (hok:A.gj ek key=true) (he:A.del ek key es=some es'):∃σ',A.yG ek h key σ=some σ'∧Hp au σ' (L.set k (h,.m es')):=by
 obtain⟨id,h1,h2,h3⟩:=H.own k _ hk
 simp only at h1 h3
 subst h1
 have hid:=(List.getElem?_eq_some_iff.1 h3).1
 exact⟨σ.set id (.map es'),by simp [A.yG,hok,h3,he],Ga H hk rfl rfl ⟨id,rfl,h2,by simp [hid]⟩⟩
theorem aak (H:Hp au σ L) {k:Nat} {h key z:U} {ek:A.EK} {es:List (U×U)} {r:Option U} (hk:L[k]? =some (h,.m es)) (hok:A.gj ek key=true) (he:A.find ek key es=some r):A.look ek h key z σ=some (r.getD z):=by
 obtain⟨id,h1,h2,h3⟩:=H.own k _ hk
 simp only at h1 h3
 subst h1
 rw[vP ek hok h3,he];rfl
theorem abz (H:Hp au σ L) (k:Nat) {id:Nat} {cs:List U} (hk:L[k]? =some (.op id 0,.b cs)) (off:Nat):A.deref (.op id off) σ=some (cs.drop off):=by
 obtain⟨i,h1,h2,h3⟩:=H.own k _ hk
 simp only[U.op.injEq]at h1
 obtain⟨rfl,_⟩:=h1
 simp [A.deref,h3]
theorem Yc (H:Hp au σ L) (k:Nat) {id:Nat} {cs cs' new:List U} (hk:L[k]? =some (.op id 0,.b cs)) (off:Nat) (hs:A.splice off new cs=some cs'):∃σ',A.storeAt (.op id off) new σ=some σ'∧Hp au σ' (L.set k (.op id 0,.b cs')):=by
 obtain⟨i,h1,h2,h3⟩:=H.own k _ hk
 simp only[U.op.injEq]at h1
 obtain⟨rfl,_⟩:=h1
 have hid:=(List.getElem?_eq_some_iff.1 h3).1
 exact⟨σ.set id (.box cs'),by simp [A.storeAt,h3,hs],Ga H hk rfl rfl ⟨id,rfl,h2,by simp [hid]⟩⟩
theorem ZX (H:Hp au σ L) (k:Nat) {id:Nat} {cs:List U} (hk:L[k]? =some (.op id 0,.b cs)) (hz:gu cs) {bL:List Sh} {cC:Sh} {r:List U→Heap→Option (U×Heap)} {x v:U} (hx:Fz x) (Dw:A.own x=false) (hs:A.tF v=true) (e:A.wrap true bL cC r [x,.rp cs] []=some (v,[])):A.wrap true bL cC r [x,.op id 0] σ=some (v,σ):=by
 obtain⟨i,h1,h2,h3⟩:=H.own k _ hk
 simp only[U.op.injEq]at h1
 obtain⟨rfl,_⟩:=h1
 refine B4 (args':=[x,.rp cs]) (by simp [A.own,A.rS]) ?_ (by rw[List.any_cons,Dw];rfl) e hs
 have q:A.oc σ 0 7 cs=some cs:=by rw[Am];exact hz σ 0 7
 simp [A.dm,hx σ 0 8,A.bn,h3,q]
def GH (au σ:Heap) (r r':U):Prop:=(∀d,A.bn σ au.length (d+1) r=some r')∧(σ=au→r'=r)
theorem J7 {r:U} (h:Fz r):GH au σ r r:=⟨fun d=>h σ _ (d+1),fun _=>rfl⟩
theorem aad {α:Type} (H:Hp au σ L) {k sz:Nat} {h:U} {c:α→List U} {l:List α} (hk:L[k]? =some (h,.s sz (l.map c))) (hc:∀x,gu (c x)):∃r',GH au σ h r'∧((r'=.aB∧l=[])∨r'=sl sz c l):=by
 rcases H.own k _ hk with⟨h1,h2⟩|⟨id,g,off,a,h1,h2,h3,h4,h5⟩
 ·simp only at h1 h2
  have:l=[]:=by simpa using h2
  subst this;subst h1
  exact⟨.aB,J7 abv,.inl ⟨rfl,rfl⟩⟩
 ·simp only at h1 h5
  subst h1
  refine⟨sl sz c l,⟨fun d=>?_,fun e=>?_⟩,.inr rfl⟩
  ·have h6:off+(l.map c).length=a.length:=by rw[←h5,List.length_drop];omega
   simp only[A.bn,Nat.not_lt.2 h2,if_false,h3]
   rw[if_pos (by simp;simp at h6;omega),xU,h5,List.take_of_length_le (Nat.le_refl _),KW hc]
   rfl
  ·subst e
   have:=(List.getElem?_eq_some_iff.1 h3).1
   omega
theorem aaI {α:Type} {sz:Nat} {c:α→List U} {l:List α} {r:U} (h:(r=.aB∧l=[])∨r=sl sz c l):A.nn (.s sz) r=sl sz c l:=by
 rcases h with⟨rfl,rfl⟩|rfl<;>rfl
theorem bU {s1:Sh} {v1 w1:U} {ss:List Sh} {vs ws:List U} (h1:A.nn s1 v1=w1) (h2:A.bI ss vs=ws):A.bI (s1::ss) (v1::vs)=w1::ws:=by simp only[A.bI,h1,h2]
theorem mO:A.bI [] []=[]:=by simp [A.bI]
theorem tE {ss:List Sh} {vs ws:List U} (h:A.bI ss vs=ws):A.nn (.a ss) (.agg vs)=.agg ws:=by simp only[A.nn,h]
theorem FO (d:Nat):∀{es:List (U×U)},(∀p∈es,Fz p.1∧Fz p.2)→A.pq σ n d es=some es
 |[],_=>by simp [A.pq]
 |(k,v)::es,h=>by
  have h1:=h (k,v) (by simp)
  simp only[A.pq,h1.1 σ n d,h1.2 σ n d,Option.bind_some,FO d (es:=es) (fun p hp=>h p (by simp [hp])),Option.map_some]
theorem Ro (H:Hp au σ L) {k:Nat} {h:U} {es:List (U×U)} (hk:L[k]? =some (h,.m es)) (hc:∀p∈es,Fz p.1∧Fz p.2):GH au σ h (.fm es):=by
 obtain⟨id,h1,h2,h3⟩:=H.own k _ hk
 simp only at h1 h3
 subst h1
 refine⟨fun d=>?_,fun e=>?_⟩
 ·simp only[A.bn,Nat.not_lt.2 h2,if_false,h3,FO d hc,Option.map_some]
 ·subst e
  have:=(List.getElem?_eq_some_iff.1 h3).1
  omega
theorem Cj (H:Hp au σ L) {r r':U} (h:GH au σ r r'):A.fin au r σ=some (r',au):=by
 obtain⟨bs,hb⟩:=H.pre
 subst hb
 by_cases kD:bs=[]
 ·subst kD
  rw[List.append_nil]at h ⊢
  rw[cV,h.2 rfl]
 ·unfold A.fin
  rw[if_neg (by simpa using kD),if_pos (by simp),h.1 7];rfl
end
section
variable {κ ν : Type} [DecidableEq κ]
def bA (k:κ):List (κ×ν)→Option ν
 |[]=>none
 |(k',v)::r=>if k=k' then some v else bA k r
def eo (k:κ) (v:ν):List (κ×ν)→List (κ×ν)
 |[]=>[(k,v)]
 |(k',v')::r=>if k=k' then(k,v)::r else(k',v')::eo k v r
def oA (k:κ):List (κ×ν)→List (κ×ν)
 |[]=>[]
 |(k',v')::r=>if k=k' then r else(k',v')::oA k r
variable {ek : A.EK} {eK : κ → U} {eV : ν → U} (hq : ∀ a b, A.dG ek (eK a) (eK b) = some (decide (a = b)))
include hq
theorem Aw (k:κ):∀l:List (κ×ν),A.find ek (eK k) (l.map fun p=>(eK p.1,eV p.2))=some ((bA k l).map eV)
 |[]=>rfl
 |(k',v)::r=>by
  simp only[List.map_cons,A.find,hq,Option.bind_some,bA]
  by_cases h:k=k'
  ·simp [h]
  ·simp [h,Aw k r]
theorem KF (k:κ) (v:ν):∀l:List (κ×ν),A.upd ek (eK k) (eV v) (l.map fun p=>(eK p.1,eV p.2))=some ((eo k v l).map fun p=>(eK p.1,eV p.2))
 |[]=>rfl
 |(k',v')::r=>by
  simp only[List.map_cons,A.upd,hq,Option.bind_some,eo]
  by_cases h:k=k'
  ·simp [h]
  ·simp [h,KF k v r]
theorem Sd (k:κ):∀l:List (κ×ν),A.del ek (eK k) (l.map fun p=>(eK p.1,eV p.2))=some ((oA k l).map fun p=>(eK p.1,eV p.2))
 |[]=>rfl
 |(k',v')::r=>by
  simp only[List.map_cons,A.del,hq,Option.bind_some,oA]
  by_cases h:k=k'
  ·simp [h]
  ·simp [h,Sd k r]
end
theorem Z4 (k:IntKind) (a b:Int):A.dG .i (.int k a) (.int k b)=some (decide (a=b)):=by
 simp only[A.dG,A.mz,if_true]
 congr 1
theorem getD_map {α:Type} (o:Option α) (f:α→U) (d:α):(o.map f).getD (f d)=f (o.getD d):=by cases o<;>rfl
theorem isSome_map {α:Type} (o:Option α) (f:α→U):(o.map f).isSome=o.isSome:=by cases o<;>rfl
def qE {κ ν:Type} (eK:κ→U) (eV:ν→U) (l:List (κ×ν)):U:=.fm (l.map fun p=>(eK p.1,eV p.2))
section
variable {κ ν : Type} [DecidableEq κ] {ek : A.EK} {eK : κ → U} {eV : ν → U} {au σ : Heap} {L : List (U × Ct)} {h : U} {l : List (κ × ν)}
theorem JO (H:Hp au σ L) (k:Nat) (hk:L[k]? =some (h,.m (l.map fun p=>(eK p.1,eV p.2)))) (hq:∀a b,A.dG ek (eK a) (eK b)=some (decide (a=b))) (x:κ) (v:ν) (hok:A.gj ek (eK x)=true):∃σ',A.eU ek h (eK x) (eV v) σ=some σ'∧Hp au σ' (L.set k (h,.m ((eo x v l).map fun p=>(eK p.1,eV p.2)))):=aam H hk hok (KF hq x v l)
theorem aaj (H:Hp au σ L) (k:Nat) (hk:L[k]? =some (h,.m (l.map fun p=>(eK p.1,eV p.2)))) (hq:∀a b,A.dG ek (eK a) (eK b)=some (decide (a=b))) (x:κ) (hok:A.gj ek (eK x)=true):∃σ',A.yG ek h (eK x) σ=some σ'∧Hp au σ' (L.set k (h,.m ((oA x l).map fun p=>(eK p.1,eV p.2)))):=aal H hk hok (Sd hq x l)
theorem Zd (H:Hp au σ L) (k:Nat) (hk:L[k]? =some (h,.m (l.map fun p=>(eK p.1,eV p.2)))) (hq:∀a b,A.dG ek (eK a) (eK b)=some (decide (a=b))) (x:κ) (z:ν) (hok:A.gj ek (eK x)=true):A.look ek h (eK x) (eV z) σ=some (eV ((bA x l).getD z)):=by
 rw[aak H hk hok (Aw hq x l),getD_map]
theorem Jj (hq:∀a b,A.dG ek (eK a) (eK b)=some (decide (a=b))) (x:κ) (z:ν) (hok:A.gj ek (eK x)=true):A.look ek (qE eK eV l) (eK x) (eV z) σ=some (eV ((bA x l).getD z)):=by
 simp only[A.look,qE,hok,cond_true,A.entries,Option.bind_some,Aw hq,Option.map_some,getD_map]
theorem W7 (hq:∀a b,A.dG ek (eK a) (eK b)=some (decide (a=b))) (x:κ) (z:ν) (hok:A.gj ek (eK x)=true):A.Az ek (qE eK eV l) (eK x) (eV z) σ=some (.aA [eV ((bA x l).getD z),.bool (bA x l).isSome]):=by
 simp only[A.Az,qE,hok,cond_true,A.entries,Option.bind_some,Aw hq,Option.map_some,getD_map,isSome_map]
end
section
variable {α : Type} {c : α → List U} {l ys : List α} {au σ : Heap} {L : List (U × Ct)} {h : U} {sz : Nat}
theorem aai (H:Hp au σ L) (k:Nat) {most:Nat} (hk:L[k]? =some (h,.s sz (l.map c))) (hm:l.length+ys.length≤most):∃h' σ',A.append sz most h (sl sz c ys) σ=some (h',σ')∧Hp au σ' (L.set k (h',.s sz ((l++ys).map c))):=by
 rw[List.map_append]
 exact aby H hk (by simpa using hm)
end
end
section
def HP:=(Nat→Option aO)→Prop
namespace HP
def emp:HP:=fun h=>∀i,h i=none
def blk (id:Nat) (b:aO):HP:=fun h=>∀i,h i=if i=id then some b else none
def star (P Q:HP):HP:=fun h=>∃f g,P f∧Q g∧(∀i,f i=none∨g i=none)∧∀i,h i=(f i).or (g i)
def pr (p:Prop):HP:=fun h=>p∧∀i,h i=none
def ex {α:Type} (P:α→HP):HP:=fun h=>∃x,P x h
instance : Mul HP := ⟨star⟩
theorem O3 (P Q:HP):P*Q=Q*P:=by
 have key:∀P Q:HP,∀h,(P*Q) h→(Q*P) h:=by
  rintro P Q h ⟨f,g,hf,hg,hd,hh⟩
  refine⟨g,f,hg,hf,fun i=>(hd i).symm,fun i=>?_⟩
  rw[hh i]
  rcases hd i with e|e<;>rw[e]<;>simp
 funext h
 exact propext ⟨key P Q h,key Q P h⟩
theorem lV (P Q R:HP):P*Q*R=P*(Q*R):=by
 funext h
 apply propext
 constructor
 ·rintro⟨f,g,⟨f1,f2,h1,h2,yZ,hf⟩,hg,hd,hh⟩
  refine⟨f1,fun i=>(f2 i).or (g i),h1,⟨f2,g,h2,hg,fun i=>?_,fun i=>rfl⟩,fun i=>?_,fun i=>?_⟩
  ·have:=hd i;rw[hf i]at this
   rcases this with e|e
   ·cases h:f1 i<;>simp [h]at e<;>exact .inl e
   ·exact .inr e
  ·have a:=hd i;have b:=yZ i;rw[hf i]at a
   rcases b with b|b
   ·exact .inl b
   ·rcases a with a|a
    ·cases h:f1 i<;>simp [h]at a;exact .inl rfl
    ·exact .inr (show(f2 i).or (g i)=none by rw[b,a];rfl)
  ·rw[hh i,hf i];cases f1 i<;>simp
 ·rintro⟨f,g,hf,⟨g1,g2,h1,h2,yZ,hg⟩,hd,hh⟩
  refine⟨fun i=>(f i).or (g1 i),g2,⟨f,g1,hf,h1,fun i=>?_,fun i=>rfl⟩,h2,fun i=>?_,fun i=>?_⟩
  ·have:=hd i;rw[hg i]at this
   rcases this with e|e
   ·exact .inl e
   ·cases h:g1 i<;>simp [h]at e;exact .inr rfl
  ·have a:=hd i;have b:=yZ i;rw[hg i]at a
   rcases b with b|b
   ·rcases a with a|a
    ·exact .inl (show(f i).or (g1 i)=none by rw[a,b];rfl)
    ·rw[b]at a;exact .inr (by simpa using a)
   ·exact .inr b
  ·show h i=((f i).or (g1 i)).or (g2 i)
   rw[hh i,hg i];cases f i<;>simp
theorem uh (P:HP):emp*P=P:=by
 funext h
 apply propext
 constructor
 ·rintro⟨f,g,hf,hg,hd,hh⟩
  have:h=g:=by funext i;rw[hh i,hf i];rfl
  rw[this];exact hg
 ·intro hp
  exact⟨fun _=>none,h,fun _=>rfl,hp,fun _=>.inl rfl,fun i=>by simp⟩
theorem Jz (P:HP):P*emp=P:=by rw[O3,uh]
instance : Std.Associative (α := HP) (· * ·) := ⟨lV⟩
instance : Std.Commutative (α := HP) (· * ·) := ⟨O3⟩
end HP
open HP
structure Hs (B : aO → Prop) (au σ : Heap) (P : HP) : Prop where
 pre:∃bs,σ=au++bs∧∀b∈bs,B b
 own:∃h,P h∧∀i b,h i=some b→au.length≤i∧σ[i]? =some b
def aY:aO→Prop:=fun _=>True
section
variable {B : aO → Prop} {au σ : Heap} {P Q R : HP} {id : Nat} {b b' : aO}
theorem hs_eq (e:P=Q) (H:Hs B au σ P):Hs B au σ Q:=e▸H
theorem JQ (k:∀h,P h→Q h) (H:Hs B au σ (P*R)):Hs B au σ (Q*R):=by
 obtain⟨h1,h,⟨f,g,hf,hg,hd,hh⟩,h2⟩:=H
 exact⟨h1,h,⟨f,g,k f hf,hg,hd,hh⟩,h2⟩
theorem iV (H:Hs B au σ (P*R)):Hs B au σ R:=by
 obtain⟨h1,h,⟨f,g,hf,hg,hd,hh⟩,h2⟩:=H
 refine⟨h1,g,hg,fun i b hb=>h2 i b ?_⟩
 rw[hh i]
 rcases hd i with e|e
 ·rw[e,hb];rfl
 ·rw[e]at hb;cases hb
theorem gI {p:Prop}:Hs B au σ (pr p*R)↔p∧Hs B au σ R:=by
 constructor
 ·intro H
  refine⟨?_,iV H⟩
  obtain⟨h1,h,⟨f,g,hf,hg,hd,hh⟩,h2⟩:=H
  exact hf.1
 ·rintro⟨hp,h1,h,hr,h2⟩
  exact⟨h1,h,⟨fun _=>none,h,⟨hp,fun _=>rfl⟩,hr,fun _=>.inl rfl,fun i=>by simp⟩,h2⟩
theorem AF {α:Type} {P:α→HP}:Hs B au σ (ex P*R)↔∃x,Hs B au σ (P x*R):=by
 constructor
 ·rintro⟨h1,h,⟨f,g,⟨x,hf⟩,hg,hd,hh⟩,h2⟩
  exact⟨x,h1,h,⟨f,g,hf,hg,hd,hh⟩,h2⟩
 ·rintro⟨x,h1,h,⟨f,g,hf,hg,hd,hh⟩,h2⟩
  exact⟨h1,h,⟨f,g,⟨x,hf⟩,hg,hd,hh⟩,h2⟩
theorem Ax (σ:Heap):Hs B σ σ emp:=⟨⟨[],by simp,by simp⟩,fun _=>none,fun _=>rfl,fun _ _ h=>by cases h⟩
theorem Rr (H:Hs B au σ P):au.length≤σ.length:=by obtain⟨⟨bs,rfl,_⟩,_⟩:=H;simp
theorem iF (H:Hs B au σ (blk id b*R)):au.length≤id∧σ[id]? =some b:=by
 obtain⟨h1,h,⟨f,g,hf,hg,hd,hh⟩,h2⟩:=H
 exact h2 id b (by rw[hh id,hf id];simp)
theorem Ll (H:Hs B au σ (blk id b*R)):B b:=by
 obtain⟨h1,h2⟩:=iF H
 obtain⟨⟨bs,rfl,hb⟩,_⟩:=H
 rw[List.getElem?_append_right h1]at h2
 exact hb b (List.mem_of_getElem? h2)
theorem Ay (H:Hs B au σ (blk id b*R)) (hb:B b'):Hs B au (σ.set id b') (blk id b'*R):=by
 obtain⟨hid,jd⟩:=iF H
 have hlt:=(List.getElem?_eq_some_iff.1 jd).1
 obtain⟨⟨bs,rfl,hB⟩,h,⟨f,g,hf,hg,hd,hh⟩,h2⟩:=H
 refine⟨⟨bs.set (id-au.length) b',by rw[List.set_append_right _ _ hid],fun x hx=>?_⟩,fun i=>if i=id then some b' else g i,⟨fun i=>if i=id then some b' else none,g,fun i=>rfl,hg,fun i=>?_,fun i=>?_⟩,fun i x hx=>?_⟩
 ·rcases List.mem_or_eq_of_mem_set hx with hx|hx
  ·exact hB x hx
  ·subst hx;exact hb
 ·have:=hd i;rw[hf i]at this
  by_cases e:i=id
  ·simp only[e,if_true]at this ⊢
   rcases this with h|h
   ·cases h
   ·exact .inr h
  ·simp [e]
 ·by_cases e:i=id<;>simp [e]
 ·by_cases e:i=id
  ·subst e
   simp only[if_true,Option.some.injEq]at hx
   subst hx
   exact⟨hid,by rw[List.getElem?_set_self hlt]⟩
  ·simp only[e,if_false]at hx
   rw[List.getElem?_set_ne (fun e'=>e e'.symm)]
   have:=h2 i x (by rw[hh i,hf i];simp [e,hx])
   exact this
theorem uv (H:Hs B au σ R) (hb:B b):Hs B au (σ++[b]) (blk σ.length b*R):=by
 have hl:=Rr H
 obtain⟨⟨bs,rfl,hB⟩,h,hr,h2⟩:=H
 have hn:∀i x,h i=some x→i<(au++bs).length:=fun i x hx=>(List.getElem?_eq_some_iff.1 (h2 i x hx).2).1
 refine⟨⟨bs++[b],by simp,fun x hx=>?_⟩,fun i=>if i=(au++bs).length then some b else h i,⟨fun i=>if i=(au++bs).length then some b else none,h,fun i=>rfl,hr,fun i=>?_,fun i=>?_⟩,fun i x hx=>?_⟩
 ·rcases List.mem_append.1 hx with hx|hx
  ·exact hB x hx
  ·simp at hx;subst hx;exact hb
 ·by_cases e:i=(au++bs).length
  ·right
   cases hi:h i with
   |none=>rfl
   |some x=>have:=hn i x hi;omega
  ·simp only[e,if_false,true_or]
 ·by_cases e:i=(au++bs).length<;>simp only[e,if_true,if_false,Option.or_some,Option.none_or,Option.some_or]
 ·by_cases e:i=(au++bs).length
  ·subst e
   simp only[if_true,Option.some.injEq]at hx
   subst hx
   exact⟨hl,by simp⟩
  ·simp only[e,if_false]at hx
   obtain⟨k1,k2⟩:=h2 i x hx
   exact⟨k1,by rw[List.getElem?_append_left (hn i x hx)];exact k2⟩
end
section
variable {α : Type} {E : List U → α → HP} {B : aO → Prop} {au σ : Heap} {R : HP}
def els (E:List U→α→HP):List (List U)→List α→HP
 |[],[]=>emp
 |e::es,x::l=>E e x*els E es l
 |_,_=>pr False
theorem FM:∀{es:List (List U)} {l:List α} {R:HP},Hs B au σ (els E es l*R)→es.length=l.length
 |[],[],_,_=>rfl
 |[],_::_,_,H=>(gI.1 H).1.elim
 |_::_,[],_,H=>(gI.1 H).1.elim
 |e::es,x::l,R,H=>by
  have:=FM (es:=es) (l:=l) (R:=E e x*R) (hs_eq (by rw[els];ac_rfl) H)
  simp [this]
theorem xY:∀{u0 oD:List (List U)} {l1 l2:List α},u0.length=l1.length→els E (u0++oD) (l1++l2)=els E u0 l1*els E oD l2
 |[],oD,[],l2,_=>by rw[els,uh];rfl
 |e::u0,oD,x::l1,l2,h=>by
  simp only[List.cons_append,els]
  rw[xY (by simpa using h)]
  ac_rfl
theorem FN (e:List U) (x:α):els E [e] [x]=E e x:=by rw[els,els,Jz]
theorem J4 {es:List (List U)} {l:List α} {i:Nat} {e:List U} {x:α} (hl:es.length=l.length) (he:es[i]? =some e) (hx:l[i]? =some x):els E es l=els E (es.eraseIdx i) (l.eraseIdx i)*E e x:=by
 have h1:=(List.getElem?_eq_some_iff.1 he).1
 have h2:=(List.getElem?_eq_some_iff.1 hx).1
 have e1:es=es.take i++e::es.drop (i+1):=by
  rw[←(List.getElem?_eq_some_iff.1 he).2,List.getElem_cons_drop,List.take_append_drop]
 have e2:l=l.take i++x::l.drop (i+1):=by
  rw[←(List.getElem?_eq_some_iff.1 hx).2,List.getElem_cons_drop,List.take_append_drop]
 conv=>lhs;rw[e1,e2]
 rw[xY (by simp;omega),els,List.eraseIdx_eq_take_drop_succ,List.eraseIdx_eq_take_drop_succ,xY (by simp;omega)]
 ac_rfl
def fl (c:α→List U):List U→α→HP:=fun e x=>pr (e=c x)
theorem F7 {c:α→List U}:∀{es:List (List U)} {l:List α} {R:HP},Hs B au σ (els (fl c) es l*R)↔es=l.map c∧Hs B au σ R
 |[],[],R=>by rw[els,uh];simp
 |[],x::l,R=>by show Hs B au σ (pr False*R)↔_;rw[gI];simp
 |e::es,[],R=>by show Hs B au σ (pr False*R)↔_;rw[gI];simp
 |e::es,x::l,R=>by
  rw[els,fl,lV,gI,F7,List.map_cons,List.cons.injEq,and_assoc]
def Sl (E:List U→α→HP) (sz:Nat) (v:U) (l:List α):HP:=fun h=>(l=[]∧(v=.aB∨v=.ez)∧emp h)∨∃id g seg,v=.os id g sz 0 l.length∧(blk id (.arr g sz seg)*els E seg l) h
variable {sz : Nat} {v : U} {l : List α}
theorem oR (H:Hs B au σ (Sl E sz v l*R)):(l=[]∧(v=.aB∨v=.ez)∧Hs B au σ R)∨∃id g seg,v=.os id g sz 0 l.length∧seg.length=l.length∧Hs B au σ (blk id (.arr g sz seg)*(els E seg l*R)):=by
 have H2:=iV H
 obtain⟨h1,h,⟨f,g,hf,hg,hd,hh⟩,h2⟩:=H
 rcases hf with⟨k1,k2,k3⟩|⟨id,gg,seg,k1,k2⟩
 ·exact .inl ⟨k1,k2,H2⟩
 ·have K:Hs B au σ (blk id (.arr gg sz seg)*(els E seg l*R)):=hs_eq (lV _ _ _) ⟨h1,h,⟨f,g,k2,hg,hd,hh⟩,h2⟩
  exact .inr ⟨id,gg,seg,k1,FM (R:=blk id (.arr gg sz seg)*R) (hs_eq (by ac_rfl) K),K⟩
theorem qP (H:Hs B au σ R) (hv:v=.aB∨v=.ez):Hs B au σ (Sl E sz v []*R):=
 JQ (P:=emp) (fun h k=>.inl ⟨rfl,hv,k⟩) (hs_eq (uh R).symm H)
theorem uC {id g:Nat} {seg:List (List U)} {n:Nat} (H:Hs B au σ (blk id (.arr g sz seg)*(els E seg l*R))) (hn:n=l.length:=by rfl):Hs B au σ (Sl E sz (.os id g sz 0 n) l*R):=
 JQ (P:=blk id (.arr g sz seg)*els E seg l) (fun h k=>.inr ⟨id,g,seg,by rw[hn],k⟩) (hs_eq (lV _ _ _).symm H)
theorem AE {ys:List (List U)} {xs:List α} {most:Nat} (H:Hs B au σ (Sl E sz v l*(els E ys xs*R))) (hm:l.length+xs.length≤most) (hB:∀g g' seg,(seg=[]∨B (.arr g sz seg))→B (.arr g' sz (seg++ys))):
  ∃v' σ',A.append sz most v (.sl sz ys) σ=some (v',σ')∧Hs B au σ' (Sl E sz v' (l++xs)*R):=by
 rcases oR H with⟨rfl,hv,H⟩|⟨id,g,seg,rfl,hl,H⟩
 ·have hxl:=FM H
  by_cases hy:ys=[]
  ·subst hy
   have:xs=[]:=List.eq_nil_of_length_eq_zero (by simpa using hxl.symm)
   subst this
   refine⟨v,σ,?_,qP (iV H) hv⟩
   rcases hv with rfl|rfl<;>simp [A.append,A.elems,A.jG]
  ·refine⟨.os σ.length ys.length sz 0 ys.length,σ++[.arr ys.length sz ys],?_,?_⟩
   ·have:ys.length≤most:=by simp at hm;omega
    rcases hv with rfl|rfl<;>simp [A.append,A.elems,A.jG,hy,this]
   ·have H2:=uv H (by simpa using hB 0 ys.length [] (.inl rfl):B (.arr ys.length sz ys))
    exact uC H2 (by simpa using hxl)
 ·have hxl:=FM (hs_eq (show _=els E ys xs*(blk id (.arr g sz seg)*(els E seg l*R)) by ac_rfl) H)
  obtain⟨h1,h2⟩:=iF H
  by_cases hy:ys=[]
  ·subst hy
   have:xs=[]:=List.eq_nil_of_length_eq_zero (by simpa using hxl.symm)
   subst this
   refine⟨.os id g sz 0 l.length,σ,?_,?_⟩
   ·have:l.length≤most:=by simpa using hm
    simp [A.append,A.elems,A.jG,h2,hl,this]
   ·rw[List.append_nil]
    exact uC (hs_eq (by rw[els,uh]) H)
  ·have hp:0<ys.length:=List.length_pos_iff.2 hy
   refine⟨.os id (g+ys.length) sz 0 (l.length+ys.length),σ.set id (.arr (g+ys.length) sz (seg++ys)),?_,?_⟩
   ·have e1:l.length+ys.length≤most:=by omega
    have e2:seg.take l.length=seg:=List.take_of_length_le (by omega)
    simp [A.append,A.elems,A.jG,h2,hl,e1,hy,e2,hp]
   ·have H2:=Ay (b':=.arr (g+ys.length) sz (seg++ys)) H (hB g _ seg (.inr (Ll H)))
    exact uC (id:=id) (g:=g+ys.length) (seg:=seg++ys) (hs_eq (by rw[xY hl];ac_rfl) H2) (by simp;omega)
end
end
section
open HP
noncomputable def wU (sz most:Nat) (zs:List U) (vu:List U→Heap→Option (U×Heap)) (a0 a1 a2:U) (σ:Heap):Option (U×Heap):=
 (A.bN sz a0 (some a1) none σ).bind fun x1=>
 (A.bf a2).bind fun x2=>
 (A.eql .i x2 aj).bind fun x3=>
 A.cond x3 (
  A.renew [a0,a1,a2] σ a0 σ) (
  (A.bf a0).bind fun x4=>
  (A.eql .i a1 x4).bind fun x5=>
  A.cond x5 (
   (A.append sz most a0 a2 σ).bind fun r6=>
   A.renew [a0,a1,a2] σ r6.1 r6.2) (
   (A.add x4 x2).bind fun x7=>
   A.wJ (A.CA a0) (fun x8=>
    (A.gtr x7 x8).bind fun x9=>
    A.cond x9 (
     (A.bN sz a0 none (some a1) σ).bind fun bu=>
     (A.add x4 x2).bind fun dc=>
     (A.sub dc a1).bind fun cE=>
     (A.rj sz most zs bu cE σ).bind fun gQ=>
     (A.bN sz gQ.1 (some a1) none gQ.2).bind fun cA=>
     (A.iH sz cA a2 gQ.2).bind fun fR=>
     (A.add a1 x2).bind fun bM=>
     (A.bN sz gQ.1 (some bM) none fR.2).bind fun dI=>
     (A.bN sz a0 (some a1) none fR.2).bind fun eL=>
     (A.iH sz dI eL fR.2).bind fun qK=>
     A.renew [a0,a1,a2] σ gQ.1 qK.2) (
     (A.add x4 x2).bind fun dJ=>
     (A.bN sz a0 none (some dJ) σ).bind fun bC=>
     (A.add a1 x2).bind fun bT=>
     (A.bN sz bC (some bT) none σ).bind fun eE=>
     (sH [a2,eE] σ).bind fun nw=>
     (A.not nw.1).bind fun x25=>
     A.cond x25 (
      (A.add a1 x2).bind fun dY=>
      (A.bN sz bC (some dY) none nw.2).bind fun dK=>
      (A.bN sz bC (some a1) none nw.2).bind fun x28=>
      (A.iH sz dK x28 nw.2).bind fun mC=>
      (A.bN sz bC (some a1) none mC.2).bind fun eM=>
      (A.iH sz eM a2 mC.2).bind fun cZ=>
      A.renew [a0,a1,a2] σ bC cZ.2) (
      (A.bN sz bC (some x4) none nw.2).bind fun x32=>
      (A.iH sz x32 a2 nw.2).bind fun nU=>
      (A.bN sz bC (some a1) none nU.2).bind fun x34=>
      (vu [x34,x2] nU.2).bind fun Mm=>
      A.renew [a0,a1,a2] σ bC Mm.2))) (A.wK a0 σ fun n36 sA=>
    (A.gtr x7 (U.int .i64 n36)).bind fun x38=>
    A.cond x38 (
     (A.bN sz a0 none (some a1) sA).bind fun iC=>
     (A.add x4 x2).bind fun eZ=>
     (A.sub eZ a1).bind fun mF=>
     (A.rj sz most zs iC mF sA).bind fun sx=>
     (A.bN sz sx.1 (some a1) none sx.2).bind fun iD=>
     (A.iH sz iD a2 sx.2).bind fun zk=>
     (A.add a1 x2).bind fun gU=>
     (A.bN sz sx.1 (some gU) none zk.2).bind fun lU=>
     (A.bN sz a0 (some a1) none zk.2).bind fun fI=>
     (A.iH sz lU fI zk.2).bind fun pY=>
     A.renew [a0,a1,a2] σ sx.1 pY.2) (
     (A.add x4 x2).bind fun i7=>
     (A.bN sz a0 none (some i7) sA).bind fun fL=>
     (A.add a1 x2).bind fun eW=>
     (A.bN sz fL (some eW) none sA).bind fun fM=>
     (sH [a2,fM] sA).bind fun kX=>
     (A.not kX.1).bind fun gC=>
     A.cond gC (
      (A.add a1 x2).bind fun jj=>
      (A.bN sz fL (some jj) none kX.2).bind fun gD=>
      (A.bN sz fL (some a1) none kX.2).bind fun lg=>
      (A.iH sz gD lg kX.2).bind fun DE=>
      (A.bN sz fL (some a1) none DE.2).bind fun iO=>
      (A.iH sz iO a2 DE.2).bind fun qM=>
      A.renew [a0,a1,a2] σ fL qM.2) (
      (A.bN sz fL (some x4) none kX.2).bind fun gE=>
      (A.iH sz gE a2 kX.2).bind fun vr=>
      (A.bN sz fL (some a1) none vr.2).bind fun ff=>
      (vu [ff,x2] vr.2).bind fun r64=>
      A.renew [a0,a1,a2] σ fL r64.2)))))
noncomputable def KU (sz most:Nat) (zs:List U) (a0 a1 a2:U) (σ:Heap):Option (U×Heap):=
 (A.bf a0).bind fun x1=>
 (A.slice3 a0 (some a1) a2 x1).bind fun x2=>
 (A.eql .i a1 a2).bind fun x3=>
 A.cond x3 (
  A.renew [a0,a1,a2] σ a0 σ) (
  (A.bf a0).bind fun x4=>
  (A.bN sz a0 none (some a1) σ).bind fun x5=>
  (A.bN sz a0 (some a2) none σ).bind fun x6=>
  (A.append sz most x5 x6 σ).bind fun r7=>
  (A.bf r7.1).bind fun x8=>
  (A.bN sz r7.1 (some x8) (some x4) r7.2).bind fun x9=>
  (A.yg sz zs x9 r7.2).bind fun Da=>
  A.renew [a0,a1,a2] σ r7.1 Da)
section
variable {σ : Heap} {id g sz off len : Nat} {es : List (List U)}
theorem iG {α:Type} {X Y:Option α}:A.cond (.bool true) X Y=X:=rfl
theorem ga {α:Type} {X Y:Option α}:A.cond (.bool false) X Y=Y:=rfl
theorem ZV {R:Type} {k:U→Option R} {u:Option R}:A.wJ (A.CA (.os id g sz off len)) k u=u:=rfl
theorem kM {y d k:Nat} (h:k≤y):A.bound y d (some (.int .i64 (k:Int)))=some k:=by
 have:(k:Int)≤y:=by omega
 simp [A.bound,this]
theorem nG {y d:Nat}:A.bound y d none=some d:=rfl
theorem ql (h:σ[id]? =some (.arr g sz es)) (hl:off+len≤es.length):A.room σ id g sz off len=es.length-off:=by simp [A.room,h,hl]
theorem OR (h:σ[id]? =some (.mT g sz es)):A.room σ id g sz off len=len:=by simp [A.room,h]
theorem oL {lo hi:Option U} {r h l:Nat} (hr:A.room σ id g sz off len=r) (hh:A.bound r len hi=some h) (hl:A.bound h 0 lo=some l):A.bN sz (.os id g sz off len) lo hi σ=some (.os id g sz (off+l) (h-l)):=by
 simp [A.bN,hr,hh,hl]
theorem JY {a b:Nat} (h:a+b<9223372036854775808):A.add (.int .i64 (a:Int)) (.int .i64 (b:Int))=some (.int .i64 ((a+b:Nat):Int)):=by
 rw[Cx,wrap64 (by unfold aS;omega)];simp
theorem abW {a b:Nat} (h:b≤a) (h2:a<9223372036854775808):A.sub (.int .i64 (a:Int)) (.int .i64 (b:Int))=some (.int .i64 ((a-b:Nat):Int)):=by
 rw[wG,wrap64 (by unfold aS;omega),Int.ofNat_sub h]
theorem Kl (a b:Nat):A.eql .i (.int .i64 (a:Int)) (.int .i64 (b:Int))=some (.bool (decide (a=b))):=by
 rw[oB]
 have:((a:Int)=(b:Int))=(a=b):=propext ⟨fun h=>by omega,fun h=>by omega⟩
 simp only[this]
theorem abn {R:Type} {p:Nat→Prop} {k:Nat→Option R} {r:R} (n:Nat) (hn:p n) (h:∀n,p n→k n=some r):A.all p k=some r:=by
 have hx:∃r,∀n,p n→k n=some r:=⟨r,h⟩
 unfold A.all
 rw[dif_pos hx]
 have:=Classical.choose_spec hx n hn
 rw[h n hn]at this
 injection this with this
 rw[←this]
theorem FK {σ:Heap} {y:U} {ys:List (List U)} (h:σ[id]? =some (.arr g sz es)) (hl:off+len≤es.length) (hy:A.elems sz y σ=some ys) (h0:ys.length≠0) (h1:len≠0):
  A.iH sz (.os id g sz off len) y σ=some (.int .i64 (ys.take len).length,σ.set id (.arr g sz (es.take off++ys.take len++es.drop (off+(ys.take len).length)))):=by
 simp only[A.iH,hy,Option.bind_some,h]
 rw[if_pos (by simp [hl]),if_neg (by simp only[not_or];exact⟨h0,h1⟩)]
theorem Pq (h:σ[id]? =some (.arr g sz es)) (hl:off+len≤es.length):A.elems sz (.os id g sz off len) σ=some ((es.drop off).take len):=by
 simp [A.elems,h,hl]
theorem X0 (h:σ[id]? =some (.mT g sz es)) (hl:off+len≤es.length):A.elems sz (.os id g sz off len) σ=some ((es.drop off).take len):=by
 simp [A.elems,h,hl]
end
section
variable {α : Type} {E : List U → α → HP} {au σ : Heap} {R : HP} {sz most : Nat} {zs : List U} {vu : List U → Heap → Option (U × Heap)} {v : U} {l : List α} {y : α} {ye : List U} {i : Nat}
theorem QC (id g n:Nat) (i:U) (hi:∃k:Int,i=.int .i64 k):A.gen [.os id g sz 0 n,i,.sl sz [ye]]=g+n+1:=by
 obtain⟨k,rfl⟩:=hi
 simp [A.gen]
theorem aap {id g n:Nat} {seg:List (List U)} (hs:σ[id]? =some (.arr g sz seg)) (hl:seg.length=n) (hi:i<n) (hm:n+1≤most) (hb:n<4611686018427387904):
  wU sz most zs vu (.os id g sz 0 n) (.int .i64 (i:Int)) (.sl sz [ye]) σ=some (.os id (g+n+2) sz 0 (n+1),σ.set id (.arr (g+n+2) sz (seg.take i++[ye]++seg.drop i))):=by
 have hid:=(List.getElem?_eq_some_iff.1 hs).1
 have uJ:A.gen [.os id g sz 0 n,.int .i64 (i:Int),.sl sz [ye]]=g+n+1:=QC id g n _ ⟨_,rfl⟩
 unfold wU
 rw[oL (ql hs (by omega)) nG (kM (k:=i) (by omega)),Option.bind_some]
 rw[show A.bf (.sl sz [ye])=some (.int .i64 ((1:Nat):Int))from rfl,Option.bind_some]
 rw[show A.eql .i (.int .i64 ((1:Nat):Int)) (.int .i64 0)=some (.bool false)from rfl,Option.bind_some]
 rw[ga]
 rw[show A.bf (.os id g sz 0 n)=some (.int .i64 (n:Int))from rfl,Option.bind_some,Kl,Option.bind_some,decide_eq_false (by omega)]
 rw[ga,JY (by omega),Option.bind_some,ZV]
 simp only[A.wK,hs]
 rw[if_pos (by simp;omega)]
 refine abn n (by omega) fun c hc=>?_
 obtain⟨hc1,oG⟩:=hc
 by_cases ht:c=n
 ·subst ht
  rw[if_pos rfl]
  obtain⟨σ1,uK⟩:∃σ1,σ1=σ.set id (.mT g sz seg):=⟨_,rfl⟩
  have h1:σ1[id]? =some (.mT g sz seg):=by rw[uK,List.getElem?_set_self hid]
  have lS:σ1.length=σ.length:=by rw[uK,List.length_set]
  rw[←uK]
  rw[show A.gtr (.int .i64 ((c+1:Nat):Int)) (.int .i64 (c:Int))=some (.bool true) by simp [A.gtr];omega,Option.bind_some]
  rw[iG,oL (OR h1) (kM (k:=i) (by omega)) nG,Option.bind_some,JY (by omega),Option.bind_some,abW (by omega) (by omega),Option.bind_some]
  obtain⟨rows,hrows⟩:∃rows,rows=seg.take i++List.replicate (c+1-i) zs:=⟨_,rfl⟩
  have hrl:rows.length=c+1:=by rw[hrows];simp;omega
  have e1:A.rj sz most zs (.os id g sz (0+0) (i-0)) (.int .i64 ((c+1-i:Nat):Int)) σ1=some (.os σ1.length (c+1) sz 0 (c+1),σ1++[.arr (c+1) sz rows]):=by
   have q1:(0:Int)≤((c+1-i:Nat):Int)∧((c+1-i:Nat):Int)≤most:=by omega
   have q2:i+(c+1-i)=c+1:=by omega
   simp only[A.rj]
   rw[if_pos q1]
   simp only[A.jG,Nat.zero_add,Nat.sub_zero,h1,Int.toNat_natCast,List.length_replicate,List.drop_zero,←hrows]
   rw[if_pos (by simp;omega),q2]
  rw[e1,Option.bind_some]
  simp only
  have h2:(σ1++[aO.arr (c+1) sz rows])[σ1.length]? =some (.arr (c+1) sz rows):=by simp
  rw[oL (ql h2 (by omega)) nG (kM (k:=i) (by omega)),Option.bind_some]
  rw[FK (ys:=[ye]) h2 (by omega) (by simp [A.elems]) (by simp) (by omega),Option.bind_some]
  have e2:([ye]:List (List U)).take (c+1-i)=[ye]:=List.take_of_length_le (by simp;omega)
  rw[e2]
  simp only[Nat.zero_add,List.length_singleton]
  rw[Option.bind_some]
  obtain⟨pE,J8⟩:∃pE,pE=rows.take i++[ye]++rows.drop (i+1):=⟨_,rfl⟩
  have aed:pE.length=c+1:=by rw[J8];simp;omega
  rw[←J8]
  have nL:(σ1++[aO.arr (c+1) sz rows]).set σ1.length (.arr (c+1) sz pE)=σ1++[.arr (c+1) sz pE]:=by simp
  rw[nL]
  have h3:(σ1++[aO.arr (c+1) sz pE])[σ1.length]? =some (.arr (c+1) sz pE):=by simp
  have h3':(σ1++[aO.arr (c+1) sz pE])[id]? =some (.mT g sz seg):=by rw[List.getElem?_append_left (by omega)];exact h1
  rw[oL (ql h3 (by omega)) nG (kM (k:=i+1) (by omega)),Option.bind_some]
  rw[oL (OR h3') nG (kM (k:=i) (by omega)),Option.bind_some]
  rw[FK h3 (by omega) (X0 h3' (by omega)) (by simp;omega) (by omega),Option.bind_some]
  have e3:((seg.drop (0+i)).take (c-i)).take (c+1-(i+1))=seg.drop i:=by
   rw[Nat.zero_add,List.take_of_length_le (by simp;omega),List.take_of_length_le (by simp;omega)]
  rw[e3]
  have e4:pE.take (0+(i+1))++seg.drop i++pE.drop (0+(i+1)+(seg.drop i).length)=seg.take i++[ye]++seg.drop i:=by
   have q1:pE.drop (0+(i+1)+(seg.drop i).length)=[]:=List.drop_of_length_le (by simp;omega)
   have q2:rows.take i=seg.take i:=by rw[hrows,List.take_append_of_le_length (by simp;omega),List.take_take,Nat.min_self]
   have q3:pE.take (0+(i+1))=seg.take i++[ye]:=by
    rw[J8,q2,Nat.zero_add,List.take_append_of_le_length (by simp;omega),List.take_of_length_le (by simp;omega)]
   rw[q1,q3];simp
  rw[e4]
  have acr:(σ1++[aO.arr (c+1) sz pE]).set σ1.length (.arr (c+1) sz (seg.take i++[ye]++seg.drop i))=σ1++[.arr (c+1) sz (seg.take i++[ye]++seg.drop i)]:=by simp
  simp only
  rw[acr]
  have h4:(σ1++[aO.arr (c+1) sz (seg.take i++[ye]++seg.drop i)])[σ1.length]? =some (.arr (c+1) sz (seg.take i++[ye]++seg.drop i)):=by simp
  have oJ:(seg.take i++[ye]++seg.drop i).length=c+1:=by simp;omega
  have e5:((seg.take i++[ye]++seg.drop i).drop 0).take (c+1)=seg.take i++[ye]++seg.drop i:=by rw[List.drop_zero,List.take_of_length_le (by omega)]
  simp only[A.renew,h4]
  rw[uJ,if_pos (by simp only[true_and];omega),if_neg (by simp [A.SN,lS]),e5]
  simp only[A.merge,hs,uJ]
  rw[if_pos]
  ·rw[oJ]
  refine⟨by omega,by simp [lS],rfl,by omega,fun j hj hne=>?_,by rw[List.getElem?_append_left (by omega)];exact h1,fun z hz=>?_⟩
  ·rw[List.getElem?_append_left (by omega),uK,List.getElem?_set_ne (fun e=>hne e.symm)]
  ·simp only[List.mem_append,List.mem_singleton]at hz
   rcases hz with(hz|hz)|hz
   ·exact .inl (List.mem_of_mem_take hz)
   ·right;simp [A.rowsOf,hz]
   ·exact .inl (List.mem_of_mem_drop hz)
 ·rw[if_neg ht]
  obtain⟨es,pV⟩:∃es,es=seg++List.replicate (0+c-seg.length) (List.replicate sz U.undef):=⟨_,rfl⟩
  have hel:es.length=c:=by rw[pV];simp;omega
  have het:∀k,k≤n→es.take k=seg.take k:=fun k hk=>by rw[pV,List.take_append_of_le_length (by omega)]
  obtain⟨σ1,uK⟩:∃σ1,σ1=σ.set id (.arr g sz es):=⟨_,rfl⟩
  have h1:σ1[id]? =some (.arr g sz es):=by rw[uK,List.getElem?_set_self hid]
  have lS:id<σ1.length:=by rw[uK,List.length_set];exact hid
  rw[←pV,←uK]
  rw[show A.gtr (.int .i64 ((n+1:Nat):Int)) (.int .i64 (c:Int))=some (.bool false) by simp [A.gtr];omega,Option.bind_some]
  rw[ga,JY (by omega),Option.bind_some]
  rw[oL (ql h1 (by omega)) (kM (k:=n+1) (by omega)) nG,Option.bind_some,Option.bind_some]
  simp only[Nat.zero_add,Nat.sub_zero]
  rw[oL (ql h1 (by omega)) nG (kM (k:=i+1) (by omega)),Option.bind_some]
  have e1:sH [.sl sz [ye],.os id g sz (0+(i+1)) (n+1-(i+1))] σ1=some (.bool false,σ1):=by
   simp only[sH,A.ep,h1]
   rw[if_pos]
   refine⟨by simp,trivial,fun e=>?_,by omega⟩
   rw[e]at hel;simp at hel;omega
  rw[e1,Option.bind_some,show A.not (.bool false)=some (.bool true)from rfl,Option.bind_some,iG,Option.bind_some]
  simp only
  rw[oL (ql h1 (by omega)) nG (kM (k:=i+1) (by omega)),Option.bind_some]
  rw[oL (ql h1 (by omega)) nG (kM (k:=i) (by omega)),Option.bind_some]
  rw[FK h1 (by omega) (Pq h1 (by omega)) (by simp;omega) (by omega),Option.bind_some]
  have e2:((es.drop (0+i)).take (n+1-i)).take (n+1-(i+1))=seg.drop i:=by
   rw[List.take_take,Nat.zero_add,show min (n+1-(i+1)) (n+1-i)=n-i by omega,List.take_drop,show i+(n-i)=n by omega,het n (Nat.le_refl _),List.take_of_length_le (by omega)]
  rw[e2]
  obtain⟨oD,GB⟩:∃oD,oD=es.take (0+(i+1))++seg.drop i++es.drop (0+(i+1)+(seg.drop i).length):=⟨_,rfl⟩
  have ad5:oD.length=c:=by rw[GB];simp;omega
  rw[←GB]
  have h2:(σ1.set id (.arr g sz oD))[id]? =some (.arr g sz oD):=List.getElem?_set_self lS
  simp only
  rw[oL (ql h2 (by omega)) nG (kM (k:=i) (by omega)),Option.bind_some]
  rw[FK (ys:=[ye]) h2 (by omega) (by simp [A.elems]) (by simp) (by omega),Option.bind_some]
  have e3:([ye]:List (List U)).take (n+1-i)=[ye]:=List.take_of_length_le (by simp;omega)
  rw[e3]
  simp only[Nat.zero_add,List.length_singleton,List.set_set]
  obtain⟨A4,Le⟩:∃A4,A4=oD.take i++[ye]++oD.drop (i+1):=⟨_,rfl⟩
  have ad6:A4.length=c:=by rw[Le];simp;omega
  rw[←Le]
  have h3:(σ1.set id (.arr g sz A4))[id]? =some (.arr g sz A4):=List.getElem?_set_self lS
  have e4:(A4.drop 0).take (n+1)=seg.take i++[ye]++seg.drop i:=by
   have q1:oD.take i=seg.take i:=by rw[GB,List.append_assoc,List.take_append_of_le_length (by simp;omega),List.take_take,show min i (0+(i+1))=i by omega,het i (by omega)]
   have q2:oD.drop (i+1)=seg.drop i++es.drop (i+1+(seg.drop i).length):=by
    rw[GB,Nat.zero_add,List.append_assoc,List.drop_append_of_le_length (by simp;omega),List.drop_of_length_le (by simp;omega),List.nil_append]
   rw[List.drop_zero,Le,q1,q2,←List.append_assoc,List.take_append_of_le_length (by simp;omega),List.take_of_length_le (by simp;omega)]
  simp only[A.renew,h3]
  rw[uJ,if_pos (by simp only[true_and];omega),if_pos (.inl hid),e4,List.set_set,uK,List.set_set]
theorem aao {id g n:Nat} {seg:List (List U)} (hs:σ[id]? =some (.arr g sz seg)) (hl:seg.length=n) (hm:n+1≤most):
  wU sz most zs vu (.os id g sz 0 n) (.int .i64 (n:Int)) (.sl sz [ye]) σ=some (.os id (g+n+2) sz 0 (n+1),σ.set id (.arr (g+n+2) sz (seg++[ye]))):=by
 have hid:=(List.getElem?_eq_some_iff.1 hs).1
 have uJ:A.gen [.os id g sz 0 n,.int .i64 (n:Int),.sl sz [ye]]=g+n+1:=QC id g n _ ⟨_,rfl⟩
 unfold wU
 rw[oL (ql hs (by omega)) nG (kM (k:=n) (by omega)),Option.bind_some]
 rw[show A.bf (.sl sz [ye])=some (.int .i64 ((1:Nat):Int))from rfl,Option.bind_some]
 rw[show A.eql .i (.int .i64 ((1:Nat):Int)) (.int .i64 0)=some (.bool false)from rfl,Option.bind_some]
 rw[ga]
 rw[show A.bf (.os id g sz 0 n)=some (.int .i64 (n:Int))from rfl,Option.bind_some,Kl,Option.bind_some,decide_eq_true rfl,iG]
 have e1:A.append sz most (.os id g sz 0 n) (.sl sz [ye]) σ=some (.os id (g+1) sz 0 (n+1),σ.set id (.arr (g+1) sz (seg++[ye]))):=by
  have q:seg.take n=seg:=List.take_of_length_le (by omega)
  simp [A.append,A.elems,A.jG,hs,hl,hm,q]
 rw[e1,Option.bind_some]
 have h2:(σ.set id (.arr (g+1) sz (seg++[ye])))[id]? =some (.arr (g+1) sz (seg++[ye])):=List.getElem?_set_self hid
 simp only[A.renew,h2]
 rw[uJ,if_pos (by simp;omega),if_pos (.inl hid),List.set_set,List.drop_zero,List.take_of_length_le (by simp;omega)]
theorem aaq (hv:v=.aB∨v=.ez) (hm:1≤most):wU sz most zs vu v (.int .i64 0) (.sl sz [ye]) σ=some (.os σ.length 2 sz 0 1,σ++[.arr 2 sz [ye]]):=by
 have uJ:∀w:U,(w=.aB∨w=.ez)→A.gen [w,.int .i64 0,.sl sz [ye]]=1:=by
  rintro w (rfl|rfl)<;>simp [A.gen]
 have hbd:A.bound 0 0 (some aj)=some 0:=kM (y:=0) (d:=0) (k:=0) (Nat.le_refl _)
 have key:∀w:U,(w=.aB∨w=.ez)→A.renew [w,.int .i64 0,.sl sz [ye]] σ (.os σ.length 1 sz 0 1) (σ++[.arr 1 sz [ye]])=some (.os σ.length 2 sz 0 1,σ++[.arr 2 sz [ye]]):=by
  intro w hw
  have h2:(σ++[aO.arr 1 sz [ye]])[σ.length]? =some (.arr 1 sz [ye]):=by simp
  simp only[A.renew,h2]
  rw[uJ w hw,if_pos (by simp),if_pos (.inr (by rcases hw with rfl|rfl<;>rfl))]
  simp
 unfold wU
 rw[show A.bf (.sl sz [ye])=some (.int .i64 ((1:Nat):Int))from rfl]
 rcases hv with rfl|rfl
 ·rw[show A.bN sz .aB (some (.int .i64 0)) none σ=some .aB by simp [A.bN,nG,hbd],Option.bind_some,Option.bind_some]
  rw[show A.eql .i (.int .i64 ((1:Nat):Int)) (.int .i64 0)=some (.bool false)from rfl,Option.bind_some,ga]
  rw[show A.bf .aB=some (.int .i64 0)from rfl,Option.bind_some,show A.eql .i (.int .i64 0) (.int .i64 0)=some (.bool true)from rfl,Option.bind_some,iG]
  rw[show A.append sz most .aB (.sl sz [ye]) σ=some (.os σ.length 1 sz 0 1,σ++[.arr 1 sz [ye]]) by simp [A.append,A.elems,A.jG,hm],Option.bind_some]
  exact key _ (.inl rfl)
 ·rw[show A.bN sz .ez (some (.int .i64 0)) none σ=some .ez by simp [A.bN,nG,hbd],Option.bind_some,Option.bind_some]
  rw[show A.eql .i (.int .i64 ((1:Nat):Int)) (.int .i64 0)=some (.bool false)from rfl,Option.bind_some,ga]
  rw[show A.bf .ez=some (.int .i64 0)from rfl,Option.bind_some,show A.eql .i (.int .i64 0) (.int .i64 0)=some (.bool true)from rfl,Option.bind_some,iG]
  rw[show A.append sz most .ez (.sl sz [ye]) σ=some (.os σ.length 1 sz 0 1,σ++[.arr 1 sz [ye]]) by simp [A.append,A.elems,A.jG,hm],Option.bind_some]
  exact key _ (.inr rfl)
theorem abS {B:aO→Prop} (H:Hs B au σ (Sl E sz v l*(E ye y*R))) (hi:i≤l.length) (hm:l.length+1≤most) (hb:l.length<4611686018427387904) (hB:∀g g' seg k,(seg=[]∨B (.arr g sz seg))→B (.arr g' sz (seg.take k++[ye]++seg.drop k))):
  ∃v' σ',wU sz most zs vu v (.int .i64 (i:Int)) (.sl sz [ye]) σ=some (v',σ')∧Hs B au σ' (Sl E sz v' (l.take i++[y]++l.drop i)*R):=by
 rcases oR H with⟨rfl,hv,H⟩|⟨id,g,seg,rfl,hl,H⟩
 ·have hi0:i=0:=by simpa using hi
  subst hi0
  refine⟨_,_,aaq hv (by simpa using hm),?_⟩
  have H2:=uv (b:=.arr 2 sz [ye]) H (by simpa using hB 0 2 [] 0 (.inl rfl))
  exact uC (id:=σ.length) (g:=2) (seg:=[ye]) (hs_eq (by simp only[List.take_nil,List.drop_nil,List.nil_append,List.append_nil,FN]) H2) rfl
 ·obtain⟨h1,h2⟩:=iF H
  have e:∃g',wU sz most zs vu (.os id g sz 0 l.length) (.int .i64 (i:Int)) (.sl sz [ye]) σ=some (.os id g' sz 0 (l.length+1),σ.set id (.arr g' sz (seg.take i++[ye]++seg.drop i))):=by
   by_cases hil:i=l.length
   ·subst hil
    refine⟨g+l.length+2,?_⟩
    rw[aao h2 hl hm,List.take_of_length_le (by omega),List.drop_of_length_le (by omega),List.append_nil]
   ·exact⟨_,aap h2 hl (by omega) hm hb⟩
  obtain⟨g',e⟩:=e
  refine⟨_,_,e,?_⟩
  have H2:=Ay (b':=.arr g' sz (seg.take i++[ye]++seg.drop i)) H (hB g g' seg i (.inr (Ll H)))
  refine uC (id:=id) (g:=g') (seg:=seg.take i++[ye]++seg.drop i) (hs_eq ?_ H2) (by simp;omega)
  have q:els E seg l=els E (seg.take i) (l.take i)*els E (seg.drop i) (l.drop i):=by
   rw[←xY (by simp;omega),List.take_append_drop,List.take_append_drop]
  rw[xY (u0:=seg.take i++[ye]) (l1:=l.take i++[y]) (by simp;omega),xY (by simp;omega),FN,q]
  ac_rfl
theorem aae (id g n:Nat) (i j:Int):A.gen [.os id g sz 0 n,.int .i64 i,.int .i64 j]=g+n:=by simp [A.gen]
theorem abR {B:aO→Prop} {x:α} (H:Hs B au σ (Sl E sz v l*R)) (hx:l[i]? =some x) (hm:l.length≤most) (hb:l.length<4611686018427387904) (hB:∀g g' seg k,B (.arr g sz seg)→B (.arr g' sz (seg.eraseIdx k))):
  ∃v' σ' xe,(∃p,A.aU sz v (.int .i64 (i:Int))=some p∧A.deref p σ=some xe)∧KU sz most zs v (.int .i64 (i:Int)) (.int .i64 ((i+1:Nat):Int)) σ=some (v',σ')∧Hs B au σ' (Sl E sz v' (l.eraseIdx i)*(E xe x*R)):=by
 have hil:=(List.getElem?_eq_some_iff.1 hx).1
 rcases oR H with⟨rfl,hv,H⟩|⟨id,g,seg,rfl,hl,H⟩
 ·simp at hx
 ·obtain⟨h1,h2⟩:=iF H
  have hid:=(List.getElem?_eq_some_iff.1 h2).1
  obtain⟨n,hn⟩:∃n,n=l.length:=⟨_,rfl⟩
  obtain⟨xe,Dv⟩:∃xe,seg[i]? =some xe:=⟨_,List.getElem?_eq_getElem (by omega)⟩
  have uJ:A.gen [.os id g sz 0 n,.int .i64 (i:Int),.int .i64 ((i+1:Nat):Int)]=g+n:=aae id g n _ _
  have e:KU sz most zs (.os id g sz 0 n) (.int .i64 (i:Int)) (.int .i64 ((i+1:Nat):Int)) σ=some (.os id (g+n+1) sz 0 (n-1),σ.set id (.arr (g+n+1) sz (seg.eraseIdx i))):=by
   unfold KU
   rw[show A.bf (.os id g sz 0 n)=some (.int .i64 (n:Int))from rfl,Option.bind_some]
   have s3:A.slice3 (.os id g sz 0 n) (some (.int .i64 (i:Int))) (.int .i64 ((i+1:Nat):Int)) (.int .i64 (n:Int))=some .undef:=by
    simp only[A.slice3,A.bf,Option.bind_some,Int.toNat_natCast]
    rw[kM (Nat.le_refl n),Option.bind_some,kM (show i+1≤n by omega),Option.bind_some,kM (show i≤i+1 by omega),Option.map_some,if_neg (by omega)]
   rw[s3,Option.bind_some,Kl,Option.bind_some,decide_eq_false (by omega),ga,Option.bind_some]
   rw[oL (ql h2 (by omega)) (kM (k:=i) (by omega)) nG,Option.bind_some]
   rw[oL (ql h2 (by omega)) nG (kM (k:=i+1) (by omega)),Option.bind_some]
   obtain⟨es,pV⟩:∃es,es=seg.take i++seg.drop (i+1)++seg.drop (i+(n-(i+1))):=⟨_,rfl⟩
   have hel:es.length=n:=by rw[pV];simp;omega
   have e1:A.append sz most (.os id g sz (0+0) (i-0)) (.os id g sz (0+(i+1)) (n-(i+1))) σ=some (.os id g sz 0 (n-1),σ.set id (.arr g sz es)):=by
    have q:((seg.drop (0+(i+1))).take (n-(i+1)))=seg.drop (i+1):=by rw[Nat.zero_add,List.take_of_length_le (by simp;omega)]
    simp only[A.append,Pq h2 (by omega:0+(i+1)+(n-(i+1))≤seg.length),Option.bind_some,q,A.jG,h2]
    rw[if_pos (by simp;omega)]
    by_cases Gm:seg.drop (i+1)=[]
    ·have hni:n=i+1:=by
      have:=congrArg List.length Gm
      simp at this;omega
     rw[if_pos Gm]
     have qe:es=seg:=by rw[pV,Gm,hni];simp
     rw[qe,show n-1=i-0 by omega]
     congr 2
     apply List.ext_getElem?
     intro k
     rw[List.getElem?_set]
     split
     ·rename_i ek;subst ek;rw[h2]
     ·rfl
    ·rw[if_neg Gm,if_pos (by simp;omega)]
     congr 2
     ·congr 1;simp;omega
     ·rw[pV]
      congr 2
      simp only[Nat.zero_add,Nat.sub_zero,List.length_drop]
      rw[show seg.length-(i+1)=n-(i+1) by omega]
   rw[e1,Option.bind_some]
   simp only
   have h3:(σ.set id (.arr g sz es))[id]? =some (.arr g sz es):=List.getElem?_set_self hid
   rw[show A.bf (.os id g sz 0 (n-1))=some (.int .i64 ((n-1:Nat):Int))from rfl,Option.bind_some]
   rw[oL (ql h3 (by omega)) (kM (k:=n) (by omega)) (kM (k:=n-1) (by omega)),Option.bind_some]
   have e2:A.yg sz zs (.os id g sz (0+(n-1)) (n-(n-1))) (σ.set id (.arr g sz es))=some (σ.set id (.arr g sz (es.take (n-1)++List.replicate (n-(n-1)) zs++es.drop n))):=by
    simp only[A.yg,h3]
    rw[if_pos (by simp;omega),if_neg (by omega),List.set_set,Nat.zero_add,show n-1+(n-(n-1))=n by omega]
   rw[e2,Option.bind_some]
   have h4:(σ.set id (.arr g sz (es.take (n-1)++List.replicate (n-(n-1)) zs++es.drop n)))[id]? =some (.arr g sz (es.take (n-1)++List.replicate (n-(n-1)) zs++es.drop n)):=List.getElem?_set_self hid
   simp only[A.renew,h4]
   rw[uJ,if_pos (by simp;omega),if_pos (.inl hid),List.set_set,List.drop_zero,List.append_assoc,List.take_append_of_le_length (by simp;omega),List.take_take,Nat.min_self]
   congr 4
   rw[pV,List.take_append_of_le_length (by simp;omega),List.take_of_length_le (by simp;omega),List.eraseIdx_eq_take_drop_succ]
  rw[hn]at e
  have hi':((i:Int)<(l.length:Int)):=by omega
  refine⟨_,_,xe,⟨.oe id g i 0,by simp [A.aU,A.idx,hi'],by simp [A.deref,h2,Dv]⟩,e,?_⟩
  have H2:=Ay (b':=.arr (g+l.length+1) sz (seg.eraseIdx i)) H (hB g _ seg i (Ll H))
  refine uC (id:=id) (g:=g+l.length+1) (seg:=seg.eraseIdx i) (hs_eq ?_ H2) (by rw[List.length_eraseIdx,if_pos hil])
  rw[J4 hl Dv hx]
  ac_rfl
end
end
section
def gp {α:Type} (f:Nat→α→Int):List α→Nat→Int
 |[],_=>0
 |x::l,i=>if f i x=0 then gp f l (i+1)else f i x
section
variable {α β γ S B R : Type}
theorem zV {f:Nat→α→Int}:∀(l:List α) (i:Nat),gp f l i=0↔∀j x,l[j]? =some x→f (i+j) x=0
 |[],i=>by simp [gp]
 |y::l,i=>by
  rw[gp]
  by_cases h:f i y=0
  ·rw[if_pos h,zV l (i+1)]
   constructor
   ·intro k j x hx
    cases j with
    |zero=>simp at hx;subst hx;exact h
    |succ j=>have:=k j x (by simpa using hx);rwa[show i+1+j=i+(j+1) by omega]at this
   ·intro k j x hx
    have:=k (j+1) x (by simpa using hx)
    rwa[show i+(j+1)=i+1+j by omega]at this
  ·rw[if_neg h]
   exact⟨fun e=>absurd e h,fun k=>absurd (k 0 y rfl) h⟩
theorem B7 {l:List α} {body:Nat→α→S→Option (Lr S B R)} {fin:S→Option B} {s:S} {K1:B→Option γ} {K2:R→Option γ} (hl:l.length≤br):iL l body fin s K1 K2=(jK body fin l 0 s).bind fun q=>q.elim K1 K2:=if_pos hl
theorem BU {f:Nat→α→Int} {l:List α} {body:Nat→α→Unit→Option (Lr Unit Unit Int)} {fin:Unit→Option Unit} {s:Unit} {K1:Unit→Option γ} {K2:Int→Option γ} (hl:l.length≤br) (hb:∀i x,l[i]? =some x→body i x ()=some (if f i x=0 then .go ()else .ret (f i x))) (hf:fin ()=some ():=by rfl):iL l body fin s K1 K2=if gp f l 0=0 then K1 ()else K2 (gp f l 0):=by
 rw[B7 hl]
 have key:∀(rest pre:List α),l=pre++rest→jK body fin rest pre.length ()=some (if gp f rest pre.length=0 then .inl ()else .inr (gp f rest pre.length)):=by
  intro rest
  induction rest with
  |nil=>intro pre _;simp [jK,hf,gp]
  |cons x rest ih=>
   intro pre hp
   rw[jK,hb pre.length x (by rw[hp];simp),Option.bind_some,gp]
   by_cases h:f pre.length x=0
   ·simp only[h,if_true]
    have:=ih (pre++[x]) (by simpa using hp)
    simpa using this
   ·simp only[h,if_false]
 have k:=key l [] rfl
 rw[List.length_nil]at k
 rw[show s=()from rfl,k,Option.bind_some]
 split<;>rfl
theorem FR {p:Prop} [Decidable p] {k f:Int} {Y:Option (Lr Unit Unit Int)} (hk:k≠0) (h:Y=some (if f=0 then .go ()else .ret f)):(if p then some (.ret k)else Y)=some (if(if p then k else f)=0 then .go ()else .ret (if p then k else f)):=by
 by_cases hp:p
 ·simp [hp,hk]
 ·simp [hp,h]
theorem go_ret:(some (.go ()):Option (Lr Unit Unit Int))=some (if(0:Int)=0 then .go ()else .ret 0):=rfl
theorem Pr (k:Int):(if k=0 then some (.go ())else some (.ret k):Option (Lr Unit Unit Int))=some (if k=0 then .go ()else .ret k):=by split<;>rfl
theorem E1 {p:α→Bool} {l:List α} {body:Nat→α→Unit→Option (Lr Unit Unit R)} {r:α→R} {fin:Unit→Option Unit} {s:Unit} {K1:Unit→Option γ} {K2:R→Option γ} (hl:l.length≤br) (hb:∀i x,l[i]? =some x→body i x ()=some (if p x=true then .ret (r x)else .go ())) (hf:fin ()=some ():=by rfl):iL l body fin s K1 K2=match l.find? p with|some x=>K2 (r x)|none=>K1 ():=by
 rw[B7 hl]
 have key:∀(rest pre:List α),l=pre++rest→jK body fin rest pre.length ()=some (match rest.find? p with|some x=>.inr (r x)|none=>.inl ()):=by
  intro rest
  induction rest with
  |nil=>intro pre _;simp [jK,hf]
  |cons x rest ih=>
   intro pre hp
   rw[jK,hb pre.length x (by rw[hp];simp),Option.bind_some,List.find?_cons]
   cases h:p x
   ·simp only[Bool.false_eq_true,if_false]
    have:=ih (pre++[x]) (by simpa using hp)
    simpa using this
   ·simp only[if_true]
 have k:=key l [] rfl
 rw[List.length_nil]at k
 rw[show s=()from rfl,k,Option.bind_some]
 cases l.find? p<;>rfl
theorem zW {l:List α} {body:Nat→α→S→Option (Lr S B R)} {fin:S→Option B} {s:S} {K1:B→Option γ} {K2:R→Option γ} (g:S→α→S) (P:Nat→S→Prop) (hl:l.length≤br) (h0:P 0 s) (hP:∀i x s,l[i]? =some x→P i s→P (i+1) (g s x)) (hb:∀i x s,l[i]? =some x→P i s→body i x s=some (.go (g s x))):iL l body fin s K1 K2=(fin (l.foldl g s)).bind K1:=by
 rw[B7 hl]
 have key:∀(rest pre:List α) (s:S),l=pre++rest→P pre.length s→jK body fin rest pre.length s=(fin (rest.foldl g s)).map .inl:=by
  intro rest
  induction rest with
  |nil=>intro pre s _ _;simp [jK]
  |cons x rest ih=>
   intro pre s hp hq
   have hx:l[pre.length]? =some x:=by rw[hp];simp
   rw[jK,hb pre.length x s hx hq,Option.bind_some,List.foldl_cons]
   have:=ih (pre++[x]) (g s x) (by simpa using hp) (by simpa using hP _ _ _ hx hq)
   simpa using this
 have k:=key l [] s rfl h0
 rw[List.length_nil]at k
 rw[k]
 cases fin (l.foldl g s)<;>rfl
def pv [Inhabited α] (l:List α) (i:Nat):α:=if 0<i then l.getD (i-1) default else default
theorem F3 {l:List α} {i:Int} {x:α} (h0:0≤i) (h:l[i.toNat]? =some x):p6 l i=some x:=by rw[p6,if_pos h0,h]
theorem F0 [Inhabited α] {l:List α} {i:Nat} {x:α} (h:l[i]? =some x) (hl:l.length≤br):(if decide (0<(i:Int))=true then p6 l (IntKind.i64.wrap ((i:Int) -1))else some default)=some (pv l i):=by
 have hi:=(List.getElem?_eq_some_iff.1 h).1
 unfold pv
 by_cases h0:0<i
 ·rw[if_pos (by simpa using h0),if_pos h0,wrap64 (by unfold aS;unfold br at hl;omega)]
  refine F3 (by omega) ?_
  have:((i:Int) -1).toNat=i-1:=by omega
  rw[this,List.getD,List.getElem?_eq_getElem (by omega)]
  rfl
 ·rw[if_neg (by simpa using h0),if_neg h0]
theorem Sg {a b:Int}:(([a,b]:List Int).find? fun n=>decide (¬n=0)).getD 0=if ¬(a=0)then a else b:=by
 by_cases ha:a=0
 ·by_cases hb:b=0<;>simp [ha,hb,List.find?]
 ·simp [ha,List.find?]
end
theorem FD (s:ByteArray):s.toList=s.data.toList:=ByteArray.toList_eq s
theorem JH:∀(a b:List UInt8),Lib.compareBytes a b<0↔Op.bytesLess a b=true
 |[],[]=>by simp [Lib.compareBytes,Op.bytesLess]
 |[],_::_=>by simp [Lib.compareBytes,Op.bytesLess]
 |_::_,[]=>by simp [Lib.compareBytes,Op.bytesLess]
 |a::x,b::y=>by
  rw[Lib.compareBytes,Op.bytesLess]
  by_cases h1:a<b
  ·simp [h1]
  ·by_cases h2:b<a
   ·have:a≠b:=by rintro rfl;exact h1 h2
    simp [h1,h2,this]
   ·have:a=b:=UInt8.le_antisymm (UInt8.not_lt.1 h2) (UInt8.not_lt.1 h1)
    subst this
    simp [UInt8.lt_irrefl,JH x y]
theorem JG:∀(a b:List UInt8),Lib.compareBytes a b=0↔a=b
 |[],[]=>by simp [Lib.compareBytes]
 |[],_::_=>by simp [Lib.compareBytes]
 |_::_,[]=>by simp [Lib.compareBytes]
 |a::x,b::y=>by
  rw[Lib.compareBytes]
  by_cases h1:a<b
  ·have:a≠b:=by rintro rfl;exact UInt8.lt_irrefl _ h1
   simp [h1,this]
  ·by_cases h2:b<a
   ·have:a≠b:=by rintro rfl;exact UInt8.lt_irrefl _ h2
    simp [h1,h2,this]
   ·have:a=b:=UInt8.le_antisymm (UInt8.not_lt.1 h2) (UInt8.not_lt.1 h1)
    subst this
    simp [UInt8.lt_irrefl,JG x y]
def dr (a b:az):Bool:=decide (a.unit<b.unit)||(decide (a.unit=b.unit)&&Op.bytesLess a.param.toList b.param.toList)
def nJ (a b:az):Int:=if ¬(a.unit=b.unit)then(if a.unit<b.unit then -1 else 1)else Lib.compareBytes a.param.data.toList b.param.data.toList
theorem JI (a b:az):nJ a b<0↔dr a b=true:=by
 unfold nJ dr
 by_cases h:a.unit=b.unit
 ·simp [h,FD,JH]
 ·by_cases h2:a.unit<b.unit<;>simp [h,h2]
theorem ZZ (a b:az):decide (0≤nJ a b)=!dr a b:=by
 have:=JI a b
 cases h:dr a b
 ·rw[h]at this;simp at this;simp [this]
 ·rw[h]at this;simp at this;simp [this]
theorem Qr (a b:az):nJ a b=0↔a=b:=by
 obtain⟨u,p⟩:=a
 obtain⟨v,q⟩:=b
 unfold nJ
 by_cases h:u=v
 ·subst h
  simp only[not_true_eq_false,if_false,JG,az.mk.injEq,true_and]
  exact⟨fun e=>by obtain⟨⟨p⟩⟩:=p;obtain⟨⟨q⟩⟩:=q;simp at e;subst e;rfl,fun e=>by rw[e]⟩
 ·by_cases h2:u<v<;>simp [h,h2]
end
def aZ (n lo hi:Int):Bool:=decide (lo≤n∧n≤hi)
def G2 (c:UInt8):Bool:=decide (97≤c.toNat∧c.toNat≤122)||decide (48≤c.toNat∧c.toNat≤57)||decide (c.toNat=45)
def AY (s:ByteArray):Bool:=s.data.toList.all G2&&decide (0<s.size)
def qq (s:ByteArray):Bool:=AY s&&decide (s.size≤20)&&decide (97≤(s.data.toList.getD 0 0).toNat)&&decide ((s.data.toList.getD 0 0).toNat≤122)
def pc (c:UInt8):Bool:=decide (32≤c.toNat∧c.toNat≤126)
def Gj (s:ByteArray):Bool:=decide (0<s.size)&&decide (s.size≤60)&&(decide ((s.data.toList.getD 0 0).toNat≠32)&&decide ((s.data.toList.getD (s.size-1) 0).toNat≠32))
def Co (s:ByteArray):Bool:=s.data.toList.all pc&&Gj s
theorem Ya (s:ByteArray) (i:Nat) (h:i<s.size):s.data.toList.getD i 0=s[i]:=by
 rw[List.getD_eq_getElem?_getD,List.getElem?_eq_getElem (by simpa using h)];rfl
def Gw (pre:List lX):List lX→Int
 |[]=>0
 |r::rest=>
  if aZ r.low 0 65535=false∨aZ r.high 0 65535=false∨r.high<r.low then 1
  else if 0<pre.length∧r.low≤(pre.getLast?.map (·.high)).getD 0 then 7
  else if qq r.name=false then 5
  else if fQ r.name (pre.map (·.name))=true then 6
  else Gw (pre++[r]) rest
def Ar (l:List lX):Int:=if 30<l.length then 2 else Gw [] l
def slotsOf (l:List eu):List Int:=l.flatMap fun x=>if 0<x.lK then[x.mq,x.lK]else[x.mq]
theorem Np (l:List eu) (x:eu):slotsOf (l++[x])=slotsOf l++(if 0<x.lK then[x.mq,x.lK]else[x.mq]):=by simp [slotsOf]
def wM (size:Int) (pre:List eu):List eu→Int
 |[]=>0
 |x::rest=>
  if qq x.name=false then 5
  else if fQ x.name (pre.map (·.name))=true then 6
  else if aZ x.group 1 4=false then 4
  else if aZ x.mq 1 size=false∨aZ x.lK 0 size=false∨aZ x.default 0 65535=false then 1
  else if x.mq=x.lK∨fQ x.mq (slotsOf pre)=true∨(0<x.lK∧fQ x.lK (slotsOf pre)=true)then 12
  else if Ar x.ranges=0 then wM size (pre++[x]) rest else Ar x.ranges
def mJ (p:bG):Int:=
 if qq p.name=false then 5 else if aZ p.size 1 512=false then 1 else if p.params.length=0 then 8 else if 40<p.params.length then 2 else wM p.size [] p.params
def wL (pre:List bG):List bG→Int
 |[]=>0
 |p::rest=>if mJ p=0 then(if fQ p.name (pre.map (·.name))=true then 6 else wL (pre++[p]) rest)else mJ p
def tD (l:List bG):Int:=if 60<l.length then 2 else wL [] l
def dD (nm:ByteArray):List bG→bG×Bool
 |[]=>(⟨⟨#[]⟩,0,[]⟩,false)
 |p::rest=>if p.name=nm then(p,true)else dD nm rest
def qp (f:Nat→Bool):Nat→Nat→Bool
 |0,_=>true
 |n+1,a=>if 512<a∨f a=true then false else qp f n (a+1)
def kN (f:Int→Nat→Bool) (u:Int) (a s:Nat):Int→Nat→Bool:=fun v k=>if v=u∧a≤k∧k<a+s then true else f v k
def yH (pre:List Int) (n:Int):Bool:=match pre.getLast? with|some m=>decide (n≤m)|none=>false
def l9 (ey:List bG) (u:bE):Int:=u.address+(dD u.profile ey).1.size-1
def Au (ey:List bG) (u:bE) (pre:List bE):Bool:=pre.any fun x=>decide (x.univ=u.univ∧x.address≤l9 ey u∧u.address≤l9 ey x)
def wN (ey:List bG) (pre:List bE):List bE→Int
 |[]=>0
 |u::rest=>
  if aZ u.number 1 9999=false then 1
  else if yH (pre.map (·.number)) u.number=true then 7
  else if(dD u.profile ey).2=false then 5
  else if aZ u.univ 1 64=false∨aZ u.address 1 512=false∨512<l9 ey u then 1
  else if Au ey u pre=true then 12
  else wN ey (pre++[u]) rest
def cN (r:aV):Int:=if tD r.bp=0 then(if 400<r.units.length then 2 else wN r.bp [] r.units)else tD r.bp
def B5 (ey:List bG) (pre:List bE):Prop:=∀x∈pre,1≤x.address∧x.address≤l9 ey x∧l9 ey x≤512
def vU (ey:List bG) (pre:List bE) (f:Int→Nat→Bool):Prop:=∀v k,f v k=true↔∃x∈pre,x.univ=v∧x.address≤(k:Int)∧(k:Int)≤l9 ey x
theorem vU.nil (ey:List bG):vU ey [] (fun _ _=>false):=fun v k=>by simp
theorem vU.snoc {ey:List bG} {pre:List bE} {f:Int→Nat→Bool} (h:vU ey pre f) (u:bE) (a s:Nat) (ha:u.address=a) (hs:l9 ey u=(a:Int)+s-1):vU ey (pre++[u]) (kN f u.univ a s):=by
 intro v k
 unfold kN
 by_cases e:v=u.univ∧a≤k∧k<a+s
 ·rw[if_pos e]
  refine⟨fun _=>⟨u,by simp,e.1.symm,by omega,by omega⟩,fun _=>rfl⟩
 ·rw[if_neg e,h v k]
  constructor
  ·rintro⟨x,hx,h1⟩
   exact⟨x,by simp [hx],h1⟩
  ·rintro⟨x,hx,h1,h2,h3⟩
   simp only[List.mem_append,List.mem_singleton]at hx
   rcases hx with hx|rfl
   ·exact⟨x,hx,h1,h2,h3⟩
   ·exact absurd ⟨h1.symm,by omega,by omega⟩ e
theorem IW (f:Nat→Bool):∀(s a:Nat),qp f s a=true↔∀k,a≤k→k<a+s→k≤512∧f k=false
 |0,a=>by simp [qp];intro k h1 h2;omega
 |s+1,a=>by
  rw[qp]
  by_cases e:512<a∨f a=true
  ·rw[if_pos e]
   simp only[Bool.false_eq_true,false_iff]
   intro h
   have:=h a (Nat.le_refl _) (by omega)
   rcases e with e|e
   ·omega
   ·rw[e]at this;simp at this
  ·rw[if_neg e,IW f s (a+1)]
   constructor
   ·intro h k h1 h2
    by_cases hk:k=a
    ·subst hk
     refine⟨by omega,?_⟩
     cases hf:f k
     ·rfl
     ·exact absurd (.inr hf) e
    ·exact h k (by omega) (by omega)
   ·intro h k h1 h2
    exact h k (by omega) (by omega)
theorem W9 {ey:List bG} {pre:List bE} {f:Int→Nat→Bool} (h:vU ey pre f) (hok:B5 ey pre) (u:bE) (a s:Nat) (ha:u.address=a) (h1:1≤s) (hs:l9 ey u=(a:Int)+s-1) (h2:l9 ey u≤512):qp (f u.univ) s a=!Au ey u pre:=by
 rw[Bool.eq_iff_iff,IW]
 simp only[Bool.not_eq_true',Au,List.any_eq_false,decide_eq_true_eq,not_and]
 constructor
 ·intro hf x hx e1 e2 e3
  have hx':=hok x hx
  obtain⟨k,hk⟩:∃k:Nat,(k:Int)=max x.address a:=⟨(max x.address (a:Int)).toNat,by omega⟩
  have hf':=(hf k (by omega) (by omega)).2
  have:f u.univ k=true:=(h u.univ k).2 ⟨x,hx,e1,by omega,by omega⟩
  rw[this]at hf';simp at hf'
 ·intro hf k h3 h4
  refine⟨by omega,?_⟩
  cases hfk:f u.univ k
  ·rfl
  ·obtain⟨x,hx,e1,e2,e3⟩:=(h u.univ k).1 hfk
   exact absurd (show u.address≤l9 ey x by omega) (hf x hx e1 (by omega))
theorem VN {p:bG} (h:mJ p=0):1≤p.size∧p.size≤512:=by
 unfold mJ at h
 by_cases h1:qq p.name=false
 ·rw[if_pos h1]at h;simp at h
 ·rw[if_neg h1]at h
  by_cases h2:aZ p.size 1 512=false
  ·rw[if_pos h2]at h;simp at h
  ·simpa [aZ]using h2
theorem NP:∀(l pre:List bG),wL pre l=0→∀p∈l,1≤p.size∧p.size≤512
 |[],pre,h,p,hp=>by simp at hp
 |q::rest,pre,h,p,hp=>by
  rw[wL]at h
  by_cases e:mJ q=0
  ·rw[if_pos e]at h
   by_cases e2:fQ q.name (pre.map (·.name))=true
   ·rw[if_pos e2]at h;simp at h
   ·rw[if_neg e2]at h
    simp only[List.mem_cons]at hp
    rcases hp with rfl|hp
    ·exact VN e
    ·exact NP rest _ h p hp
  ·rw[if_neg e]at h;exact absurd h e
theorem Xe {l:List bG} (h:tD l=0):∀p∈l,1≤p.size∧p.size≤512:=by
 unfold tD at h
 by_cases e:60<l.length
 ·rw[if_pos e]at h;simp at h
 ·rw[if_neg e]at h;exact NP l [] h
theorem IM (nm:ByteArray):∀(l:List bG),(dD nm l).2=true→(dD nm l).1∈l
 |[],h=>by simp [dD]at h
 |p::r,h=>by
  rw[dD]at h ⊢
  by_cases e:p.name=nm
  ·rw[if_pos e];simp
  ·rw[if_neg e]at h ⊢
   exact List.mem_cons_of_mem _ (IM nm r h)
theorem B5.snoc {ey:List bG} {pre:List bE} (h:B5 ey pre) {u:bE} (h1:1≤u.address∧u.address≤l9 ey u∧l9 ey u≤512):B5 ey (pre++[u]):=fun x hx=>by
 simp only[List.mem_append,List.mem_singleton]at hx
 rcases hx with hx|rfl
 ·exact h x hx
 ·exact h1
theorem j0 (n lo hi:Int) (σ:Heap):jF [.int .i64 n,.int .i64 lo,.int .i64 hi] σ=some (.bool (aZ n lo hi),σ):=by
 refine wrap_eq rfl ?_ rfl
 show HX _ _ _ σ=_
 unfold HX aZ
 by_cases h:lo≤n<;>simp only[aI,reduceCtorEq,h,true_and,false_and]
theorem FG (b:Bool) (n:Int) (σ:Heap):BC [.bool b,.int .i64 n] σ=some (.int .i64 (if b=true then n else 0),σ):=by
 refine wrap_eq rfl ?_ rfl
 show Iv _ _ σ=_
 unfold Iv
 cases b<;>simp [aI,reduceCtorEq]
theorem JW (s:ByteArray) {i:Nat} (h:i<s.size):A.oz (.str s) (.int .i64 (i:Int))=some (.int .u8 (s.data.toList.getD i 0).toNat):=by
 have h1:s[i]? =some s[i]:=by simp [h]
 simp [A.oz,A.idx,h,Ya s i h]
 rfl
theorem NZ (s:ByteArray):(decide (¬s=⟨#[]⟩))=decide (0<s.size):=by
 rw[decide_eq_decide]
 constructor
 ·intro h
  rcases Nat.eq_zero_or_pos s.size with e|e
  ·exact absurd (ByteArray.ext (Array.eq_empty_of_size_eq_zero e)) h
  ·exact e
 ·rintro h rfl;exact absurd h (by decide)
theorem abj (s:ByteArray) (hs:fK s) (σ:Heap):IJ [.str s] σ=some (.bool (AY s),σ):=by
 refine wrap_eq rfl ?_ rfl
 show IS _ σ=_
 unfold IS
 simp only[aI,reduceCtorEq]
 refine(Pd (p:=G2) s (some (.bool false,σ)) ?_ ?_ ?_).trans ?_
 ·intro i c hi hc
  have h1:aS ((i:Int)+1):=by unfold fK br at hs;unfold aS;omega
  have h2:(i:Int)<s.size:=by omega
  simp only[aI,reduceCtorEq,h2,hc,wrap64 h1,G2]
  clear hc h1
  repeat' ((first|rw[qG]|rw[qF]|rw[qD]|rw[qw]|rw[qC]|rw[qB]);split<;>try simp only[aI,reduceCtorEq, *])
  all_goals first|rfl|(refine(if_pos ?_).symm;simp;omega)|(refine(if_neg ?_).symm;simp;omega)|(refine congrArg some (congrArg (fun b=>(U.bool b,σ)) ?_);rw[Bool.eq_iff_iff];simp;omega)
 ·simp only[aI,reduceCtorEq,Int.lt_irrefl]
 ·intro i;simp only[aI,reduceCtorEq]
 ·simp only[aI,reduceCtorEq,NZ,AY]
  cases s.data.toList.all G2<;>simp
theorem Zz {s:ByteArray} (h:AY s=true):0<s.size:=by
 simp only[AY,Bool.and_eq_true,decide_eq_true_eq]at h;exact h.2
theorem FF (s:ByteArray) (hs:fK s) (σ:Heap):zP [.str s] σ=some (.bool (qq s),σ):=by
 refine wrap_eq rfl ?_ rfl
 show Iu _ σ=_
 unfold Iu
 simp only[aI,reduceCtorEq,abj s hs]
 cases h:AY s
 ·simp [aI,reduceCtorEq,qq,h]
 ·have h0:=Zz h
  have:=JW s h0
  simp only[Int.ofNat_zero]at this
  simp only[aI,reduceCtorEq,this]
  simp only[qq,h,Bool.true_and]
  generalize s.data.toList.getD 0 0=c0 at *
  repeat' ((first|rw[qG]|rw[qF]|rw[qD]|rw[qw]|rw[qC]|rw[qB]);split<;>try simp only[aI,reduceCtorEq, *])
  all_goals first|rfl|(refine(if_pos ?_).symm;simp;omega)|(refine(if_neg ?_).symm;simp;omega)|(refine congrArg some (congrArg (fun b=>(U.bool b,σ)) ?_);rw[Bool.eq_iff_iff];simp;omega)
theorem Pc (s:ByteArray) (hs:fK s) (σ:Heap):EC [.str s] σ=some (.bool (Co s),σ):=by
 refine wrap_eq rfl ?_ rfl
 show Ik _ σ=_
 unfold Ik
 simp only[aI,reduceCtorEq]
 refine(Pd (p:=pc) s (some (.bool false,σ)) ?_ ?_ ?_).trans ?_
 ·intro i c hi hc
  have h1:aS ((i:Int)+1):=by unfold fK br at hs;unfold aS;omega
  have h2:(i:Int)<s.size:=by omega
  simp only[aI,reduceCtorEq,h2,hc,wrap64 h1,pc]
  clear h1
  repeat' ((first|rw[qG]|rw[qF]|rw[qD]|rw[qw]|rw[qC]|rw[qB]);split<;>try simp only[aI,reduceCtorEq, *])
  all_goals first|rfl|(refine(if_pos ?_).symm;simp;omega)|(refine(if_neg ?_).symm;simp;omega)|(refine congrArg some (congrArg (fun b=>(U.bool b,σ)) ?_);rw[Bool.eq_iff_iff];simp;omega)
 ·simp only[aI,reduceCtorEq,Int.lt_irrefl]
 ·intro i;simp only[aI,reduceCtorEq]
 ·simp only[aI,reduceCtorEq,NZ,Co]
  cases s.data.toList.all pc
  ·simp
  ·simp only[if_true,Bool.true_and]
   by_cases h0:0<s.size
   ·by_cases A6:s.size≤60
    ·have e0:=JW s h0
     have e1:=JW s (i:=s.size-1) (by omega)
     simp only[Int.ofNat_zero]at e0
     rw[show((s.size-1:Nat):Int)=(s.size:Int) -1 by omega]at e1
     have h1:aS ((s.size:Int) -1):=by unfold fK br at hs;unfold aS;omega
     have wP:(s.size:Int)≤60:=by omega
     have hw:=wrap64 h1
     simp only[Gj,h0,A6]
     generalize s.data.toList.getD 0 0=c0 at *
     generalize s.data.toList.getD (s.size-1) 0=c1 at *
     simp only[aI,reduceCtorEq,h0,wP,e0,e1,hw]
     repeat' ((first|rw[qG]|rw[qF]|rw[qD]|rw[qw]|rw[qC]|rw[qB]);split<;>try simp only[aI,reduceCtorEq, *])
     all_goals first|rfl|(refine(if_pos ?_).symm;simp;omega)|(refine(if_neg ?_).symm;simp;omega)|(refine congrArg some (congrArg (fun b=>(U.bool b,σ)) ?_);rw[Bool.eq_iff_iff];simp;omega)
    ·have wP:¬(s.size:Int)≤60:=by omega
     simp [aI,reduceCtorEq,h0,wP,Gj,A6]
   ·simp [aI,reduceCtorEq,h0,Gj]
theorem Yh {γ:Type} {f:List U→Heap→Option (AX×List U×Heap)} (a n:Nat) (p:Nat→Bool) (vs:Nat→List U) (σ:Heap) (fin:AX×List U×Heap) (ret:Nat→AX×List U×Heap) {k:AX×List U×Heap→Option γ} (K1 K2:Option γ)
  (hstep:∀(i:Nat),a≤i→i<a+n→f (vs i) σ=if p i=true then some (ret i)else some (.normal,vs (i+1),σ)) (hend:f (vs (a+n)) σ=some fin) (hk1:k fin=K1) (hk2:∀i,k (ret i)=K2)
  (uI:fin.1≠.normal:=by simp) (yE:∀i,(ret i).1≠.normal:=by intros;simp) {v:List U} {σ':Heap} (hv:v=vs a:=by rfl) (dO:σ'=σ:=by rfl):
  (A.loop f v σ').bind k=if(List.range' a n).any p=true then K2 else K1:=by
 refine PS (List.range' a n) p (fun i=>vs (a+i)) σ fin (fun i=>ret (a+i)) K1 K2 ?_ (by rw[List.length_range'];exact hend) hk1 (fun i=>hk2 _) uI (fun i=>yE _) hv dO
 intro i x hx
 obtain⟨h1,h2⟩:=List.getElem?_eq_some_iff.1 hx
 rw[List.length_range']at h1
 obtain rfl:a+i=x:=by simpa [List.getElem_range']using h2
 exact hstep (a+i) (by omega) (by omega)
def jH:kK:=⟨0,0⟩
def Gv (p:kK):Bool:=!(aZ p.time 0 1000)||!(aZ p.way 0 1000)
def CQ (l:List kK) (i:Nat):Bool:=decide ((l.getD i jH).time≤(l.getD (i-1) jH).time∨(l.getD i jH).way<(l.getD (i-1) jH).way)
def S6 (l:List kK):Int:=
 if l.any Gv=true then 1
 else if ¬((l.getD 0 jH).time=0∧(l.getD 0 jH).way=0)then 3
 else if ¬((l.getD (l.length-1) jH).time=1000∧(l.getD (l.length-1) jH).way=1000)then 3
 else if(List.range' 1 (l.length-1)).any (CQ l)=true then 7 else 0
def ur (c:nZ):Int:=
 if aZ c.kind 1 6=false then 4
 else if c.kind=6 then(if c.points.length<2 then 8 else if 20<c.points.length then 2 else S6 c.points)
 else if 0<c.points.length then 3 else 0
theorem Jr (x:kK) (a b:Int):A.neq (.s [0,0]) (.agg (eS x)) (.agg [.int .i64 a,.int .i64 b])=some (.bool (decide (¬(x.time=a∧x.way=b)))):=by
 simp only[A.neq,A.dG,eS,A.fJ,A.rY,A.mz,if_true,Option.bind_some,Option.map_some]
 congr 2
 rw[Bool.eq_iff_iff]
 simp
theorem SA (a b c:U):A.splice 0 [a] [b,c]=some [a,c]:=rfl
theorem SB (a b c:U):A.splice 1 [a] [b,c]=some [b,a]:=rfl
theorem FP {l:List kK} {i:Nat} (h:i<l.length):l[i]? =some (l.getD i jH):=by simp [h]
theorem VJ (c:nZ) (σ:Heap):HC [.agg (ru c)] σ=some (.int .i64 (ur c),σ):=by
 refine wrap_eq rfl ?_ rfl
 show HE (.agg (ru c)) σ=_
 unfold HE ur
 simp only[aI,reduceCtorEq,qS,qT,qV,qU,qW,j0]
 cases hk:aZ c.kind 1 6
 ·simp only[aI,reduceCtorEq]
 by_cases h6:c.kind=6
 case neg=>
  by_cases h0:0<c.points.length
  ·simp only[aI,reduceCtorEq,qS,qT,qV,qU,qW,h6,h0,FG,show(0:Int)<c.points.length by omega]
  ·simp only[aI,reduceCtorEq,qS,qT,qV,qU,qW,h6,h0,FG,show ¬(0:Int)<c.points.length by omega]
 by_cases h2:c.points.length<2
 ·simp only[aI,reduceCtorEq,qS,qT,qV,qU,qW,h6,h2,show(c.points.length:Int)<2 by omega]
 by_cases TA:20<c.points.length
 ·simp only[aI,reduceCtorEq,qS,qT,qV,qU,qW,h6,h2,TA,show ¬(c.points.length:Int)<2 by omega,show(20:Int)<c.points.length by omega]
 simp only[aI,reduceCtorEq,qS,qT,qV,qU,qW,h6,h2,TA,show ¬(c.points.length:Int)<2 by omega,show ¬(20:Int)<c.points.length by omega]
 have Ba:c.points.length≤br:=by unfold br;omega
 refine(PS c.points Gv (fun i=>[.int .i64 0,.int .i64 (i:Int)]) σ (.exit 0,[.int .i64 0,.int .i64 (c.points.length:Int)],σ) (fun i=>(.ret,[.int .i64 1,.int .i64 (i:Int)],σ))
  (some (.int .i64 (if ¬((c.points.getD 0 jH).time=0∧(c.points.getD 0 jH).way=0)then 3
 else if ¬((c.points.getD (c.points.length-1) jH).time=1000∧(c.points.getD (c.points.length-1) jH).way=1000)then 3
 else if(List.range' 1 (c.points.length-1)).any (CQ c.points)=true then 7 else 0),σ)) (some (.int .i64 1,σ)) ?_ ?_ ?_ ?_).trans ?_
 ·intro i x hx
  obtain⟨g1,g2,g3⟩:=Ft 2 eS hx
  have g3:=g3 Ba
  simp only[aI,reduceCtorEq,BD,BE,BN,BL,BQ,g1,g2,g3,j0,Gv]
  rcases Bool.eq_false_or_eq_true (aZ x.time 0 1000)with e|e
  ·rcases Bool.eq_false_or_eq_true (aZ x.way 0 1000)with e'|e'<;>simp only[aI,reduceCtorEq,j0,e,e',Bool.false_or,Bool.or_false]
  ·simp only[aI,reduceCtorEq,e,Bool.true_or]
 ·exact vL _ _ _
 ·have g0:=iS 2 eS c.points (FP (l:=c.points) (i:=0) (by omega))
  have gl:=EO 2 eS c.points (k:=c.points.length) (by omega) (FP (by omega))
  have hw:IntKind.i64.wrap ((c.points.length:Int) -1)=(c.points.length:Int) -1:=wrap64 (by unfold aS;omega)
  simp only[Int.ofNat_zero,Int.natCast_zero]at g0
  simp only[aI,reduceCtorEq,qS,qT,qV,qU,qW,BD,BE,BN,BL,BQ,g0,Jr]
  by_cases e1:(c.points.getD 0 jH).time=0∧(c.points.getD 0 jH).way=0
  case neg=>simp only[aI,reduceCtorEq,e1]
  simp only[aI,reduceCtorEq,qS,qT,qV,qU,qW,e1,hw,gl,BD,BE,BN,BL,BQ]
  by_cases e2:(c.points.getD (c.points.length-1) jH).time=1000∧(c.points.getD (c.points.length-1) jH).way=1000
  case neg=>
   simp only[SA,SB,aI,reduceCtorEq,Jr,e2]
  simp only[SA,SB,aI,reduceCtorEq,Jr,e2]
  refine(Yh 1 (c.points.length-1) (CQ c.points) (fun i=>[.int .i64 0,.int .i64 (i:Int)]) σ (.exit 2,[.int .i64 0,.int .i64 (c.points.length:Int)],σ) (fun i=>(.ret,[.int .i64 7,.int .i64 (i:Int)],σ)) (some (U.int .i64 0,σ)) (some (U.int .i64 7,σ)) ?_ ?_ ?_ ?_).trans ?_
  ·intro i hi1 hi2
   have k1:=iS 2 eS c.points (FP (l:=c.points) (i:=i) (by omega))
   have k2:=EO 2 eS c.points (k:=i) (by omega) (FP (by omega))
   have k3:IntKind.i64.wrap ((i:Int) -1)=(i:Int) -1:=wrap64 (by unfold aS;omega)
   have k4:IntKind.i64.wrap ((i:Int)+1)=((i+1:Nat):Int):=by rw[wrap64 (by unfold aS;omega)];omega
   have k5:(i:Int)<c.points.length:=by omega
   simp only[aI,reduceCtorEq,qS,qT,qV,qU,qW,BD,BE,BN,BL,BQ,k1,k2,k3,k5,CQ]
   by_cases q1:(c.points.getD i jH).time≤(c.points.getD (i-1) jH).time
   ·simp only[aI,reduceCtorEq,q1]
   ·by_cases q2:(c.points.getD i jH).way<(c.points.getD (i-1) jH).way<;>simp only[aI,reduceCtorEq,qS,qT,qV,qU,qW,BD,BE,BN,BL,BQ,k1,k2,k3,k4,q1,q2]
  ·rw[show 1+(c.points.length-1)=c.points.length by omega]
   simp only[aI,reduceCtorEq,qS,qT,qV,qU,qW,Int.lt_irrefl]
  ·simp only[aI,reduceCtorEq]
  ·intro i;simp only[aI,reduceCtorEq]
  ·cases(List.range' 1 (c.points.length-1)).any (CQ c.points)<;>rfl
 ·intro i;simp only[aI,reduceCtorEq]
 ·unfold S6
  cases c.points.any Gv<;>rfl
theorem Pa (l:List Int) (hl:l.length≤br) (σ:Heap):EB [sl 1 AK l] σ=some (.int .i64 ((l.find? fun n=>decide (¬n=0)).getD 0),σ):=by
 refine wrap_eq rfl ?_ rfl
 show Ij (sl 1 AK l) σ=_
 unfold Ij
 simp only[aI,reduceCtorEq]
 refine(OH l (fun n=>decide (¬n=0)) (fun i=>[.int .i64 0,.int .i64 (i:Int)]) σ (.exit 0,[.int .i64 0,.int .i64 (l.length:Int)],σ) (fun i n=>(.ret,[.int .i64 n,.int .i64 (i:Int)],σ)) (some (U.int .i64 0,σ)) (fun n=>some (U.int .i64 n,σ)) ?_ ?_ ?_ ?_).trans ?_
 ·intro i x hx
  obtain⟨g1,g2,g3⟩:=Ft 1 AK hx
  have g3:=g3 hl
  simp only[aI,reduceCtorEq,g1,g2,g3]
  repeat' ((first|rw[qG]|rw[qF]|rw[qD]|rw[qw]|rw[qC]|rw[qB]);split<;>try simp only[aI,reduceCtorEq, *])
  all_goals first|with_reducible rfl|(simp [*];done)|(simp_all;done)|(simp_all;omega)|rfl
 ·exact vL _ _ _
 ·simp only[aI,reduceCtorEq]
 ·intro i n;simp only[aI,reduceCtorEq]
 ·cases l.find? (fun n=>decide (¬n=0))<;>rfl
theorem zO (n:Int) (σ:Heap):Bs [.int .i64 n] σ=some (.bool (aZ n 0 65535),σ):=by
 refine wrap_eq rfl ?_ rfl
 show HF _ σ=_
 unfold HF
 simp only[aI,reduceCtorEq,j0]
theorem Vx (l:List lX) (hok:cB JT l) (σ:Heap):Hv [sl 3 lE l] σ=some (.int .i64 (Ar l),σ):=by
 refine wrap_eq rfl ?_ rfl
 show Hx (sl 3 lE l) σ=_
 unfold Hx Ar
 simp only[aI,reduceCtorEq]
 by_cases GP:30<l.length
 ·have CF:(30:Int)<l.length:=by omega
  simp only[aI,reduceCtorEq,GP,CF]
 ·have CF:¬(30:Int)<l.length:=by omega
  simp only[aI,reduceCtorEq,GP,CF]
  refine(mI (S:=Unit) (R:=Int) l (fun pre x _=>
    if aZ x.low 0 65535=false∨aZ x.high 0 65535=false∨x.high<x.low then .out 1
    else if 0<pre.length∧x.low≤(pre.getLast?.map (·.high)).getD 0 then .out 7
    else if qq x.name=false then .out 5
    else if fQ x.name (pre.map (·.name))=true then .out 6 else .go ())
   (fun pre _=>[.int .i64 0,.int .i64 (pre.length:Int)]) (fun pre _=>σ++[aO.map (jB (·.name) pre)])
   (fun _=>(.exit 0,[.int .i64 0,.int .i64 (l.length:Int)],σ++[aO.map (jB (·.name) l)])) (fun pre _ r=>(.ret,[.int .i64 r,.int .i64 (pre.length:Int)],σ++[aO.map (jB (·.name) pre)]))
   (fun _ _=>True) () (fun _=>some (U.int .i64 0,σ)) (fun r=>some (U.int .i64 r,σ)) ?_ ?_ trivial (fun _ _ _ _ _ _ _ _=>trivial) ?_ ?_).trans ?_
  ·intro pre x rest u hl _
   have hx:=mM hl
   have hlt:=oZ hl
   have hi1:IntKind.i64.wrap ((pre.length:Int)+1)=(pre.length:Int)+1:=wrap64 (by unfold aS;omega)
   have hi2:IntKind.i64.wrap ((pre.length:Int) -1)=(pre.length:Int) -1:=wrap64 (by unfold aS;omega)
   have hlt':(pre.length:Int)<(l.length:Int):=by omega
   have hnm:=(hok.2 x (by rw[hl];simp)).2.2
   have gf:=iS 3 lE l hx
   have hN:=FF _ hnm
   by_cases h0:0<pre.length
   ·obtain⟨y,hy,hy2⟩:=PZ hl h0
    have Lf:=EO 3 lE l h0 hy2
    have nq:(0:Int)<pre.length:=by omega
    clear hl hx hlt hok GP CF hy2 hnm
    simp only[aI,reduceCtorEq,EI,EJ,EL,E9,EZ,Fc,hlt',gf,zO,hi1,hi2,hN,nq,hy,h0]
    repeat' ((first|rw[qG]|rw[qF]|rw[qD]|rw[qw]|rw[qC]|rw[qB]);split<;>try simp only[aI,reduceCtorEq,EI,EJ,EL,E9,EZ,Fc,zO, *])
    all_goals first|with_reducible rfl|(simp [*];done)|(simp_all;done)|(simp_all;omega)|rfl
   ·have nq:¬(0:Int)<pre.length:=by omega
    clear hl hx hlt hok GP CF hnm
    simp only[aI,reduceCtorEq,EI,EJ,EL,E9,EZ,Fc,hlt',gf,zO,hi1,hi2,hN,nq,h0]
    repeat' ((first|rw[qG]|rw[qF]|rw[qD]|rw[qw]|rw[qC]|rw[qB]);split<;>try simp only[aI,reduceCtorEq,EI,EJ,EL,E9,EZ,Fc,zO, *])
    all_goals first|with_reducible rfl|(simp [*];done)|(simp_all;done)|(simp_all;omega)|rfl
  ·intro u _
   simp only[aI,reduceCtorEq,Int.lt_irrefl]
  ·intro u _;simp only[aI,reduceCtorEq]
  ·intros;simp only[aI,reduceCtorEq]
  ·refine(EW (pS:=Gw) ?_ ?_ (fun n=>some (U.int .i64 n,σ)) l []).trans ?_
   ·intro pre;rfl
   ·intro pre x rest;rw[Gw];simp only[Av,vW,wk]
   ·rfl
theorem Vq (p:bG) (hok:BM p) (σ:Heap):Hr [.agg (ct p)] σ=some (.int .i64 (mJ p),σ):=by
 refine wrap_eq rfl ?_ rfl
 show Hu (.agg (ct p)) σ=_
 obtain⟨pn,ps,l⟩:=p
 obtain⟨hnm,hps,Li⟩:=hok
 simp only at hnm hps Li
 have hN:=FF _ hnm
 unfold Hu mJ
 simp only[aI,reduceCtorEq,jT,jU,jV,jX,jW,jY,hN,j0]
 cases hn:qq pn
 ·simp only[aI,reduceCtorEq]
 cases hz:aZ ps 1 512
 ·simp only[aI,reduceCtorEq]
 by_cases h0:l.length=0
 ·obtain rfl:l=[]:=List.eq_nil_of_length_eq_zero h0
  simp [aI,reduceCtorEq]
 have nq:¬(l.length:Int)=0:=by omega
 by_cases LQ:40<l.length
 ·have Gz:(40:Int)<l.length:=by omega
  simp only[aI,reduceCtorEq,h0,nq,LQ,Gz]
 have Gz:¬(40:Int)<l.length:=by omega
 simp only[aI,reduceCtorEq,h0,nq,LQ,Gz]
 refine(mI (S:=Unit) (R:=Int) l (fun pre x _=>
   if qq x.name=false then .out 5
   else if fQ x.name (pre.map (·.name))=true then .out 6
   else if aZ x.group 1 4=false then .out 4
   else if aZ x.mq 1 ps=false∨aZ x.lK 0 ps=false∨aZ x.default 0 65535=false then .out 1
   else if x.mq=x.lK∨fQ x.mq (slotsOf pre)=true∨(0<x.lK∧fQ x.lK (slotsOf pre)=true)then .out 12
   else if Ar x.ranges=0 then .go ()else .out (Ar x.ranges))
  (fun pre _=>[.lbx (ct ⟨pn,ps,l⟩),.int .i64 0,.int .i64 (pre.length:Int)]) (fun pre _=>σ++[aO.map (jB (·.name) pre),aO.map (mY id (slotsOf pre))])
  (fun _=>(.exit 1,[.lbx (ct ⟨pn,ps,l⟩),.int .i64 0,.int .i64 (l.length:Int)],σ++[aO.map (jB (·.name) l),aO.map (mY id (slotsOf l))]))
  (fun pre _ r=>(.ret,[.lbx (ct ⟨pn,ps,l⟩),.int .i64 r,.int .i64 (pre.length:Int)],σ++[aO.map (jB (·.name) pre),aO.map (mY id (slotsOf pre))]))
  (fun _ _=>True) () (fun _=>some (U.int .i64 0,σ)) (fun r=>some (U.int .i64 r,σ)) ?_ ?_ trivial (fun _ _ _ _ _ _ _ _=>trivial) ?_ ?_).trans ?_
 ·intro pre x rest u hl _
  have hx:=mM hl;have hlt:=oZ hl;have hi1:IntKind.i64.wrap ((pre.length:Int)+1)=(pre.length:Int)+1:=wrap64 (by unfold aS;omega);have hi2:IntKind.i64.wrap ((pre.length:Int) -1)=(pre.length:Int) -1:=wrap64 (by unfold aS;omega);have hlt':(pre.length:Int)<(l.length:Int):=by omega
  obtain⟨k1,k2,k3,k4,k5,k6⟩:=Li.2 x (by rw[hl];simp)
  have hNx:=FF _ k1
  have hRx:=Vx _ k6
  have gf:=iS 7 eA l hx
  clear hl hx hlt Li LQ Gz h0 nq k1 k2 k3 k4 k5 k6 hnm hps hN hn hz
  simp only[aI,reduceCtorEq,xE,xF,xG,xH,xI,xJ,xK,vK,vI,qX,jT,jU,jV,jX,jW,jY,hlt',gf,j0,zO,hi1,hi2,hNx,hRx,List.map_id]
  repeat' ((first|rw[qG]|rw[qF]|rw[qD]|rw[qw]|rw[qC]|rw[qB]);split<;>try simp only[aI,reduceCtorEq,xE,xF,xG,xH,xI,xJ,xK,vK,vI,qX,jT,jU,jV,jX,jW,jY,j0,zO,List.map_id,OU,Yl,Bool.or_false, *])
  all_goals first|rfl|(simp_all;done)|(simp_all [Np,OU];done)|(simp only[Np,ite_false,ite_true,if_false,if_true, *]<;>simp_all)
 ·intro u _
  simp only[aI,reduceCtorEq,Int.lt_irrefl]
 ·intro u _;simp only[aI,reduceCtorEq]
 ·intros;simp only[aI,reduceCtorEq]
 ·refine(EW (pS:=wM ps) ?_ ?_ (fun n=>some (U.int .i64 n,σ)) l []).trans ?_
  ·intro pre;rfl
  ·intro pre x rest;rw[wM];simp only[Av,vW,wk]
  ·rfl
theorem Vp (l:List bG) (hok:cB BM l) (σ:Heap):Hq [sl 3 ct l] σ=some (.int .i64 (tD l),σ):=by
 refine wrap_eq rfl ?_ rfl
 show Ht (sl 3 ct l) σ=_
 unfold Ht tD
 simp only[aI,reduceCtorEq]
 by_cases A6:60<l.length
 ·have wP:(60:Int)<l.length:=by omega
  simp only[aI,reduceCtorEq,A6,wP]
 have wP:¬(60:Int)<l.length:=by omega
 simp only[aI,reduceCtorEq,A6,wP]
 refine(mI (S:=Unit) (R:=Int) l (fun pre x _=>if mJ x=0 then(if fQ x.name (pre.map (·.name))=true then .out 6 else .go ())else .out (mJ x))
  (fun pre _=>[.int .i64 0,.int .i64 (pre.length:Int)]) (fun pre _=>σ++[aO.map (jB (·.name) pre)])
  (fun _=>(.exit 0,[.int .i64 0,.int .i64 (l.length:Int)],σ++[aO.map (jB (·.name) l)])) (fun pre _ r=>(.ret,[.int .i64 r,.int .i64 (pre.length:Int)],σ++[aO.map (jB (·.name) pre)]))
  (fun _ _=>True) () (fun _=>some (U.int .i64 0,σ)) (fun r=>some (U.int .i64 r,σ)) ?_ ?_ trivial (fun _ _ _ _ _ _ _ _=>trivial) ?_ ?_).trans ?_
 ·intro pre x rest u hl _
  have hx:=mM hl;have hlt:=oZ hl;have hi1:IntKind.i64.wrap ((pre.length:Int)+1)=(pre.length:Int)+1:=wrap64 (by unfold aS;omega);have hi2:IntKind.i64.wrap ((pre.length:Int) -1)=(pre.length:Int) -1:=wrap64 (by unfold aS;omega);have hlt':(pre.length:Int)<(l.length:Int):=by omega
  have hP:=Vq x (hok.2 x (by rw[hl];simp))
  have gf:=iS 3 ct l hx
  clear hl hx hlt hok A6 wP
  simp only[aI,reduceCtorEq,jT,jU,jV,jX,jW,jY,hlt',gf,hi1,hP]
  repeat' ((first|rw[qG]|rw[qF]|rw[qD]|rw[qw]|rw[qC]|rw[qB]);split<;>try simp only[aI,reduceCtorEq,jT,jU,jV,jX,jW,jY, *])
  all_goals first|with_reducible rfl|(simp [*];done)|(simp_all;done)|(simp_all;omega)|rfl
 ·intro u _
  simp only[aI,reduceCtorEq,Int.lt_irrefl]
 ·intro u _;simp only[aI,reduceCtorEq]
 ·intros;simp only[aI,reduceCtorEq]
 ·refine(EW (pS:=wL) ?_ ?_ (fun n=>some (U.int .i64 n,σ)) l []).trans ?_
  ·intro pre;rfl
  ·intro pre x rest;rw[wL];simp only[Av,vW,wk]
  ·rfl
theorem PJ {α:Type} (p:α→Bool) (l:List α):decide (0≤kP p l)=l.any p:=by
 rcases xM p l with⟨h1,h2,_⟩|⟨k,x,h1,h2,h3,_⟩
 ·rw[h1,Bool.eq_iff_iff]
  simp only[decide_eq_true_eq,List.any_eq_true]
  exact⟨fun h=>by omega,fun⟨x,hx,hp⟩=>by rw[h2 x hx]at hp;cases hp⟩
 ·rw[h3,Bool.eq_iff_iff]
  simp only[decide_eq_true_eq,List.any_eq_true]
  exact⟨fun _=>⟨x,List.mem_of_getElem? h1,h2⟩,fun _=>by omega⟩
theorem Hi (dyn:Nat→List U→Heap→Option (U×Heap)) (l:List bG) (hl:l.length≤br) (n:Nat) (caps:List U) (p:bG→Bool) (σ:Heap) (hd:∀x∈l,dyn n ((.agg (ct x):U)::caps) σ=some (.bool (p x),σ)):tY dyn [sl 3 ct l,.fn n caps] σ=some (.int .i64 (kP p l),σ):=by
 refine wrap_eq rfl ?_ rfl
 show D1 dyn (sl 3 ct l) (.fn n caps) σ=_
 unfold D1
 simp only[aI,reduceCtorEq]
 refine(mI (S:=Unit) (R:=Int) l (fun pre x _=>if p x=true then .out (pre.length:Int)else .go ())
  (fun pre _=>[.int .i64 0,.int .i64 (pre.length:Int)]) (fun _ _=>σ) (fun _=>(.exit 0,[.int .i64 0,.int .i64 (l.length:Int)],σ)) (fun pre _ r=>(.ret,[.int .i64 (pre.length:Int),.int .i64 (pre.length:Int)],σ))
  (fun _ _=>True) () (fun _=>some (U.int .i64 (-1),σ)) (fun r=>some (U.int .i64 r,σ)) ?_ ?_ trivial (fun _ _ _ _ _ _ _ _=>trivial) ?_ ?_).trans ?_
 ·intro pre x rest u hl' _
  have hx:=mM hl'
  have hlt:=oZ hl'
  have hi1:IntKind.i64.wrap ((pre.length:Int)+1)=(pre.length:Int)+1:=wrap64 (by unfold aS;unfold br at hl;omega)
  have hlt':(pre.length:Int)<(l.length:Int):=by omega
  have gf:=iS 3 ct l hx
  have mB:=hd x (by rw[hl'];simp)
  simp only[aI,reduceCtorEq,jT,jU,jV,jX,jW,jY,hlt',gf,A.fO,List.cons_append,List.nil_append,mB,hi1]
  cases p x<;>simp [aI,reduceCtorEq]
 ·intro u _;simp only[aI,reduceCtorEq,Int.lt_irrefl]
 ·intro u _;simp only[aI,reduceCtorEq]
 ·intro pre x rest s q hl' _ hb
  have:q=(pre.length:Int):=by
   cases hpx:p x
   ·rw[hpx]at hb;cases hb
   ·rw[hpx]at hb;simp at hb;exact hb.symm
  simp only[aI,reduceCtorEq,this]
 ·rw[BY p _ _ l [] (by simp)]
  simp only[List.nil_append]
  split
  ·rename_i h;rw[h]
  ·rfl
theorem Ut (dyn:Nat→List U→Heap→Option (U×Heap)) (l:List az) (hl:l.length≤br) (n:Nat) (caps:List U) (p:az→Bool) (σ:Heap) (hd:∀x∈l,dyn n ((.agg (aH x):U)::caps) σ=some (.bool (p x),σ)):D6 dyn [sl 2 aH l,.fn n caps] σ=some (.int .i64 (kP p l),σ):=by
 refine wrap_eq rfl ?_ rfl
 show D7 dyn (sl 2 aH l) (.fn n caps) σ=_
 unfold D7
 simp only[aI,reduceCtorEq]
 refine(mI (S:=Unit) (R:=Int) l (fun pre x _=>if p x=true then .out (pre.length:Int)else .go ())
  (fun pre _=>[.int .i64 0,.int .i64 (pre.length:Int)]) (fun _ _=>σ) (fun _=>(.exit 0,[.int .i64 0,.int .i64 (l.length:Int)],σ)) (fun pre _ r=>(.ret,[.int .i64 (pre.length:Int),.int .i64 (pre.length:Int)],σ))
  (fun _ _=>True) () (fun _=>some (U.int .i64 (-1),σ)) (fun r=>some (U.int .i64 r,σ)) ?_ ?_ trivial (fun _ _ _ _ _ _ _ _=>trivial) ?_ ?_).trans ?_
 ·intro pre x rest u hl' _
  have hx:=mM hl'
  have hlt:=oZ hl'
  have hi1:IntKind.i64.wrap ((pre.length:Int)+1)=(pre.length:Int)+1:=wrap64 (by unfold aS;unfold br at hl;omega)
  have hlt':(pre.length:Int)<(l.length:Int):=by omega
  have gf:=iS 2 aH l hx
  have mB:=hd x (by rw[hl'];simp)
  simp only[aI,reduceCtorEq,I3,I4,FV,JE,yc,hlt',gf,A.fO,List.cons_append,List.nil_append,mB,hi1]
  cases p x<;>simp [aI,reduceCtorEq]
 ·intro u _;simp only[aI,reduceCtorEq,Int.lt_irrefl]
 ·intro u _;simp only[aI,reduceCtorEq]
 ·intro pre x rest s q hl' _ hb
  have:q=(pre.length:Int):=by
   cases hpx:p x
   ·rw[hpx]at hb;cases hb
   ·rw[hpx]at hb;simp at hb;exact hb.symm
  simp only[aI,reduceCtorEq,this]
 ·rw[BY p _ _ l [] (by simp)]
  simp only[List.nil_append]
  split
  ·rename_i h;rw[h]
  ·rfl
theorem Ul (dyn:Nat→List U→Heap→Option (U×Heap)) (l:List az) (hl:l.length≤br) (n:Nat) (caps:List U) (p:az→Bool) (σ:Heap) (hd:∀x∈l,dyn n ((.agg (aH x):U)::caps) σ=some (.bool (p x),σ)):D2 dyn [sl 2 aH l,.fn n caps] σ=some (.bool (l.any p),σ):=by
 refine wrap_eq rfl ?_ rfl
 show D3 dyn (sl 2 aH l) (.fn n caps) σ=_
 unfold D3
 simp only[aI,reduceCtorEq,Ut dyn l hl n caps p σ hd]
 refine congrArg some (congrArg (fun b=>(U.bool b,σ)) ?_)
 exact PJ p l
theorem Um (dyn:Nat→List U→Heap→Option (U×Heap)) (l:List aM) (hl:l.length≤br) (n:Nat) (caps:List U) (p:aM→Bool) (σ:Heap) (hd:∀x∈l,dyn n ((.agg (aK x):U)::caps) σ=some (.bool (p x),σ)):D4 dyn [sl 8 aK l,.fn n caps] σ=some (.int .i64 (kP p l),σ):=by
 refine wrap_eq rfl ?_ rfl
 show D5 dyn (sl 8 aK l) (.fn n caps) σ=_
 unfold D5
 simp only[aI,reduceCtorEq]
 refine(mI (S:=Unit) (R:=Int) l (fun pre x _=>if p x=true then .out (pre.length:Int)else .go ())
  (fun pre _=>[.int .i64 0,.int .i64 (pre.length:Int)]) (fun _ _=>σ) (fun _=>(.exit 0,[.int .i64 0,.int .i64 (l.length:Int)],σ)) (fun pre _ r=>(.ret,[.int .i64 (pre.length:Int),.int .i64 (pre.length:Int)],σ))
  (fun _ _=>True) () (fun _=>some (U.int .i64 (-1),σ)) (fun r=>some (U.int .i64 r,σ)) ?_ ?_ trivial (fun _ _ _ _ _ _ _ _=>trivial) ?_ ?_).trans ?_
 ·intro pre x rest u hl' _
  have hx:=mM hl'
  have hlt:=oZ hl'
  have hi1:IntKind.i64.wrap ((pre.length:Int)+1)=(pre.length:Int)+1:=wrap64 (by unfold aS;unfold br at hl;omega)
  have hlt':(pre.length:Int)<(l.length:Int):=by omega
  have gf:=iS 8 aK l hx
  have mB:=hd x (by rw[hl'];simp)
  simp only[aI,reduceCtorEq,Xm,Xn,Xo,Xp,Xq,Xr,Xt,Xu,Ia,Vz,xV,Fh,xX,hlt',gf,A.fO,List.cons_append,List.nil_append,mB,hi1]
  cases p x<;>simp [aI,reduceCtorEq]
 ·intro u _;simp only[aI,reduceCtorEq,Int.lt_irrefl]
 ·intro u _;simp only[aI,reduceCtorEq]
 ·intro pre x rest s q hl' _ hb
  have:q=(pre.length:Int):=by
   cases hpx:p x
   ·rw[hpx]at hb;cases hb
   ·rw[hpx]at hb;simp at hb;exact hb.symm
  simp only[aI,reduceCtorEq,this]
 ·rw[BY p _ _ l [] (by simp)]
  simp only[List.nil_append]
  split
  ·rename_i h;rw[h]
  ·rfl
theorem Uk (dyn:Nat→List U→Heap→Option (U×Heap)) (l:List aM) (hl:l.length≤br) (n:Nat) (caps:List U) (p:aM→Bool) (σ:Heap) (hd:∀x∈l,dyn n ((.agg (aK x):U)::caps) σ=some (.bool (p x),σ)):Bm dyn [sl 8 aK l,.fn n caps] σ=some (.bool (l.any p),σ):=by
 refine wrap_eq rfl ?_ rfl
 show D0 dyn (sl 8 aK l) (.fn n caps) σ=_
 unfold D0
 simp only[aI,reduceCtorEq,Um dyn l hl n caps p σ hd]
 refine congrArg some (congrArg (fun b=>(U.bool b,σ)) ?_)
 exact PJ p l
theorem sJ (nm:ByteArray):∀(l:List bG),dD nm l=match l.find? (fun x:bG=>decide (x.name=nm))with|some p=>(p,true)|none=>(⟨⟨#[]⟩,0,[]⟩,false)
 |[]=>rfl
 |p::l=>by
  rw[dD]
  by_cases h:p.name=nm
  ·simp [h]
  ·simp [h,sJ nm l]
theorem VA (x:bG) (nm:ByteArray) (σ:Heap):vB [.agg (ct x),.rp [.str nm]] σ=some (.bool (decide (x.name=nm)),σ):=by
 refine wrap_eq rfl ?_ rfl
 show Hy (.agg (ct x)) (.rp [.str nm]) σ=_
 unfold Hy
 simp only[aI,reduceCtorEq,jT,jU,jV,jX,jW,jY]
 show(some (U.str nm)).bind _=_
 simp only[aI,reduceCtorEq]
theorem nnP (x:eu):A.bI yx (eA x)=eA x:=rfl
theorem Rz (p:bG) (b:Bool):A.nn (.t [(.a jL),.k]) (.aA [.agg (ct p),.bool b])=.aA [.agg (ct p),.bool b]:=by
 show U.aA [.agg [.str p.name,.int .i64 p.size,A.nn (.e 7 yx) (sl 7 eA p.params)],.bool b]=_
 rw[gM nnP];rfl
theorem N5 (l:List bG) (hl:l.length≤br) (nm:ByteArray) (σ:Heap):Eh [sl 3 ct l,.str nm] σ=some (.aA [.agg (ct (dD nm l).1),.bool (dD nm l).2],σ):=by
 have key:∃w,El (sl 3 ct l) (.str nm) σ=some (w,σ)∧A.nn (.t [(.a jL),.k]) w=.aA [.agg (ct (dD nm l).1),.bool (dD nm l).2]:=by
  unfold El
  simp only[aI,reduceCtorEq]
  rw[Hi _ l hl 64 [.rp [.str nm]] (fun x=>decide (x.name=nm)) σ (fun x _=>VA x nm σ)]
  simp only[aI,reduceCtorEq]
  rw[sJ]
  rcases xM (fun x:bG=>decide (x.name=nm)) l with⟨h1,_,h3⟩|⟨k,x,h1,h2,h3,h4,_⟩
  ·refine⟨.aA [.agg [.str ⟨#[]⟩,.int .i64 0,.aB],.bool false],?_,?_⟩
   ·rw[h1]
    simp only[aI,reduceCtorEq,show((-1:Int)<0)from by decide]
    rfl
   ·rw[h3];rfl
  ·refine⟨.aA [.agg (ct x),.bool true],?_,?_⟩
   ·rw[h3]
    simp only[aI,reduceCtorEq,jT,jU,jV,jX,jW,jY,show ¬((k:Int)<0)from by omega,iS 3 ct l h1]
   ·rw[h4];exact Rz x true
 obtain⟨w,h1,h2⟩:=key
 exact wrap_eq rfl h1 h2
theorem Wq (l:List bG) (hl:l.length≤br) (nm:ByteArray) (σ:Heap):H6 [sl 3 ct l,.str nm] σ=some (.aA [.agg (ct (dD nm l).1),.bool (dD nm l).2],σ):=by
 refine wrap_eq (v:=.aA [.agg (match l.find? (fun x:bG=>decide (x.name=nm))with|some p=>ct p|none=>[.str ⟨#[]⟩,.int .i64 0,.aB]),.bool (dD nm l).2]) rfl ?_ ?_
 ·show Ic (sl 3 ct l) (.str nm) σ=_
  rw[sJ]
  unfold Ic
  simp only[aI,reduceCtorEq]
  refine(mI (S:=Unit) (R:=bG) l (fun pre x _=>if x.name=nm then .out x else .go ())
   (fun pre _=>[.lbx [.str ⟨#[]⟩,.int .i64 0,.aB],.bool false,.int .i64 (pre.length:Int)]) (fun _ _=>σ)
   (fun _=>(.exit 0,[.lbx [.str ⟨#[]⟩,.int .i64 0,.aB],.bool false,.int .i64 (l.length:Int)],σ)) (fun pre _ r=>(.ret,[.lbx (ct r),.bool true,.int .i64 (pre.length:Int)],σ))
   (fun _ _=>True) () (fun _=>some (U.aA [.agg [.str ⟨#[]⟩,.int .i64 0,.aB],.bool false],σ)) (fun r=>some (U.aA [.agg (ct r),.bool true],σ)) ?_ ?_ trivial (fun _ _ _ _ _ _ _ _=>trivial) ?_ ?_).trans ?_
  ·intro pre x rest u hl' _
   have hx:=mM hl'
   have hlt:=oZ hl'
   have hi1:IntKind.i64.wrap ((pre.length:Int)+1)=(pre.length:Int)+1:=wrap64 (by unfold aS;unfold br at hl;omega)
   have hlt':(pre.length:Int)<(l.length:Int):=by omega
   have gf:=iS 3 ct l hx
   clear hl' hx hlt hl
   simp only[aI,reduceCtorEq,jT,jU,jV,jX,jW,jY,hlt',gf,hi1]
   repeat' ((first|rw[qG]|rw[qF]|rw[qD]|rw[qw]|rw[qC]|rw[qB]);split<;>try simp only[aI,reduceCtorEq,jT,jU,jV,jX,jW,jY, *])
   all_goals first|with_reducible rfl|(simp [*];done)|(simp_all;done)|(simp_all;omega)|rfl
  ·intro u _;simp only[aI,reduceCtorEq,Int.lt_irrefl]
  ·intro u _;simp only[aI,reduceCtorEq];rfl
  ·intros;simp only[aI,reduceCtorEq,jT,jU,jV,jX,jW,jY]
  ·have key:∀(l pre:List bG),(gr (fun(_:List bG) (x:bG) (_:Unit)=>if x.name=nm then(Rd.out x:Rd Unit bG)else .go ()) pre l ()).el (fun _=>some (U.aA [.agg [.str ⟨#[]⟩,.int .i64 0,.aB],.bool false],σ)) (fun r=>some (U.aA [.agg (ct r),.bool true],σ))=some (.aA [.agg (match l.find? (fun x:bG=>decide (x.name=nm))with|some p=>ct p|none=>[.str ⟨#[]⟩,.int .i64 0,.aB]),.bool (match l.find? (fun x:bG=>decide (x.name=nm))with|some p=>(p,true)|none=>(⟨⟨#[]⟩,0,[]⟩,false)).2],σ):=by
    intro l
    induction l with
    |nil=>intro pre;rfl
    |cons x l ih=>
     intro pre
     rw[gr]
     by_cases h:x.name=nm
     ·simp [h,Rd.el]
     ·simp only[if_neg h,ih]
      simp [h]
   exact key l []
 ·rw[sJ]
  cases hf:l.find? (fun x:bG=>decide (x.name=nm))with
  |none=>rfl
  |some p=>exact Rz p true
def marks (f:Nat→Bool):List U:=(List.range 513).map fun k=>.bool (f k)
theorem zZ (f:Nat→Bool) {k:Nat} (h:k<513):(marks f)[k]? =some (.bool (f k)):=by simp [marks,h]
theorem xQ (f:Nat→Bool):(marks f).length=513:=by simp [marks]
theorem Oz (f:Nat→Bool) {γ:Type} (K1 K2:γ):∀(s a:Nat) (pre:List Nat),(gr (fun _ k (_:Unit)=>if 512<k∨f k=true then(Rd.out ():Rd Unit Unit)else .go ()) pre (List.range' a s) ()).el (fun _=>K1) (fun _=>K2)=if qp f s a=true then K1 else K2
 |0,a,pre=>by simp [gr,qp,Rd.el]
 |s+1,a,pre=>by
  rw[List.range'_succ,gr,qp]
  by_cases h:512<a∨f a=true
  ·simp only[if_pos h,Rd.el];simp
  ·simp only[if_neg h]
   exact Oz f K1 K2 s (a+1) _
theorem Z9 (a s:Int) (h:aS (a+s)) (h':aS (a+s-1)) (σ:Heap):zG [.np,.int .i64 a,.int .i64 s] σ=some (.bool (decide (a+s-1≤512)),σ):=by
 refine wrap_eq rfl ?_ rfl
 show Br .np (.int .i64 a) (.int .i64 s) σ=_
 unfold Br
 simp only[aI,reduceCtorEq,show A.eql .p U.np U.np=some (.bool true)from rfl,wrap64 h,wrap64 h']
theorem YQ (cs:List U) {k:Nat} (h:k<513):A.sZ 513 1 (.rp cs) (.int .i64 (k:Int))=some (.rp (cs.drop k)):=by
 have h1:A.idx 513 (.int .i64 (k:Int))=some k:=by
  show(if(0:Int)≤(k:Int)∧(k:Int)<((513:Nat):Int)then some (k:Int).toNat else none)=some k
  rw[if_pos ⟨by omega,by omega⟩];rfl
 unfold A.sZ
 rw[h1]
 simp only[Option.bind_some,Nat.mul_one]
theorem aab (f:Nat→Bool) (a s:Nat) (hs:a≤1024∧s≤1024) (σ:Heap):zG [.rp (marks f),.int .i64 (a:Int),.int .i64 (s:Int)] σ=some (.bool (qp f s a),σ):=by
 refine wrap_eq rfl ?_ rfl
 show Br (.rp (marks f)) (.int .i64 (a:Int)) (.int .i64 (s:Int)) σ=_
 unfold Br
 have hw:IntKind.i64.wrap ((a:Int)+s)=(a:Int)+s:=wrap64 (by unfold aS;omega)
 simp only[aI,reduceCtorEq,show A.eql .p (U.rp (marks f)) U.np=some (.bool false)from rfl,hw]
 refine(mI (S:=Unit) (R:=Unit) (List.range' a s) (fun _ k (_:Unit)=>if 512<k∨f k=true then(Rd.out ():Rd Unit Unit)else .go ())
  (fun pre _=>[.bool false,.int .i64 ((a:Int)+(pre.length:Int))]) (fun _ _=>σ) (fun _=>(.exit 0,[.bool false,.int .i64 ((a:Int)+s)],σ)) (fun pre _ _=>(.ret,[.bool false,.int .i64 ((a:Int)+(pre.length:Int))],σ))
  (fun _ _=>True) () (fun _=>some (U.bool true,σ)) (fun _=>some (U.bool false,σ)) ?_ ?_ trivial (fun _ _ _ _ _ _ _ _=>trivial) ?_ ?_ (hv:=by simp)).trans ?_
 ·intro pre k rest u hl _
  have hx:=mM hl
  have hlt:=oZ hl
  rw[List.length_range']at hlt
  obtain rfl:a+pre.length=k:=by
   have:=(List.getElem?_eq_some_iff.1 hx).2
   simpa [List.getElem_range']using this
  have hlt':(a:Int)+(pre.length:Int)<(a:Int)+s:=by omega
  have hi1:IntKind.i64.wrap ((a:Int)+(pre.length:Int)+1)=(a:Int)+((pre.length:Int)+1):=by rw[wrap64 (by unfold aS;omega)];omega
  have ecast:(a:Int)+(pre.length:Int)=((a+pre.length:Nat):Int):=by omega
  clear hl hx
  by_cases h5:512<a+pre.length
  ·have LR:(512:Int)<(a:Int)+(pre.length:Int):=by omega
   simp only[aI,reduceCtorEq,hlt',h5,LR]
  have LR:¬(512:Int)<(a:Int)+(pre.length:Int):=by omega
  have hp:A.aq 0 ((marks f).drop (a+pre.length))=some (.bool (f (a+pre.length))):=by
   rw[Mi];simp only[A.aq,Nat.add_zero,zZ f (show a+pre.length<513 by omega)];rfl
  simp only[aI,reduceCtorEq,hlt',h5,LR,show A.eT (U.rp (marks f))=some (.rp (marks f))from rfl]
  rw[ecast,YQ _ (by omega)]
  simp only[aI,reduceCtorEq,hp]
  cases hf:f (a+pre.length)
  ·simp only[aI,reduceCtorEq,←ecast,hi1]
  ·simp only[aI,reduceCtorEq,←ecast]
 ·intro u _
  rw[List.length_range']
  exact vL _ _ _
 ·intro u _;simp only[aI,reduceCtorEq]
 ·intros;simp only[aI,reduceCtorEq]
 ·rw[Oz]
  cases qp f s a<;>rfl
theorem aaa (f:Nat→Bool) (a s:Nat) (hs:a≤1024∧s≤1024) {σ:Heap} {id:Nat} (h:σ[id]? =some (.box (marks f))):zG [.op id 0,.int .i64 (a:Int),.int .i64 (s:Int)] σ=some (.bool (qp f s a),σ):=by
 refine B4 (args':=[.rp (marks f),.int .i64 (a:Int),.int .i64 (s:Int)]) rfl ?_ rfl (aab f a s hs []) rfl
 have e:A.oc σ 0 7 (marks f)=some (marks f):=by
  have key:∀(l:List Nat),A.oc σ 0 7 (l.map fun k=>U.bool (f k))=some (l.map fun k=>U.bool (f k)):=by
   intro l
   induction l with
   |nil=>simp [A.oc]
   |cons x l ih=>simp [A.oc,A.bn,ih]
  exact key _
 simp [A.dm,A.bn,h,e]
def oM (b:Nat):List Int→List (U×U)
 |[]=>[]
 |v::r=>(.int .i64 v,.op b 0)::oM (b+1) r
def eY (σ:Heap) (vs:List Int) (f:Int→Nat→Bool):Heap:=σ++(aO.map (oM (σ.length+1) vs)::vs.map fun v=>aO.box (marks (f v)))
theorem Qi (v:Int):∀(vs:List Int) (b:Nat),oM b (vs++[v])=oM b vs++[(.int .i64 v,.op (b+vs.length) 0)]
 |[],b=>rfl
 |w::r,b=>by
  simp only[List.cons_append,oM,Qi v r (b+1),List.length_cons]
  rw[show b+1+r.length=b+(r.length+1) by omega]
theorem FE (v:Int):∀(vs:List Int) (b:Nat),A.find .i (.int .i64 v) (oM b vs)=some (if v∈vs then some (.op (b+vs.idxOf v) 0)else none)
 |[],b=>rfl
 |w::r,b=>by
  simp only[oM,A.find,A.dG,A.mz,if_true,Option.bind_some]
  by_cases h:v=w
  ·subst h;simp
  ·have h1:(v==w)=false:=by simpa using h
   have h2:(w==v)=false:=by simpa using fun e:w=v=>h e.symm
   simp only[h1,cond_false,FE v r (b+1),List.mem_cons,h,false_or,List.idxOf_cons,h2]
   rw[show b+1+r.idxOf v=b+(r.idxOf v+1) by omega]
theorem Rc (v:Int) (w:U):∀(vs:List Int) (b:Nat),v∉vs→A.upd .i (.int .i64 v) w (oM b vs)=some (oM b vs++[(.int .i64 v,w)])
 |[],b,_=>rfl
 |x::r,b,h=>by
  simp only[List.mem_cons,not_or]at h
  have h1:(v==x)=false:=by simpa using h.1
  simp only[oM,A.upd,A.dG,A.mz,if_true,Option.bind_some,h1,cond_false,Rc v w r (b+1) h.2,Option.map_some,List.cons_append]
theorem Rg (σ:Heap) (vs:List Int) (f:Int→Nat→Bool):(eY σ vs f).length=σ.length+1+vs.length:=by simp [eY];omega
theorem F4 (σ:Heap) (vs:List Int) (f:Int→Nat→Bool):(eY σ vs f)[σ.length]? =some (.map (oM (σ.length+1) vs)):=by simp [eY]
theorem Re (σ:Heap) {vs:List Int} (f:Int→Nat→Bool) {v:Int} (h:v∈vs):(eY σ vs f)[σ.length+1+vs.idxOf v]? =some (.box (marks (f v))):=by
 unfold eY
 rw[List.getElem?_append_right (by omega),show σ.length+1+vs.idxOf v-σ.length=vs.idxOf v+1 by omega,List.getElem?_cons_succ,List.getElem?_map]
 have:vs[vs.idxOf v]? =some v:=by
  have hl:=List.idxOf_lt_length_of_mem h
  rw[List.getElem?_eq_getElem hl,List.getElem_idxOf hl]
 rw[this];rfl
theorem abf (σ:Heap) {vs:List Int} (hn:vs.Nodup) {f f':Int→Nat→Bool} {v:Int} (h:v∈vs) (ho:∀w,w≠v→f' w=f w):(eY σ vs f).set (σ.length+1+vs.idxOf v) (.box (marks (f' v)))=eY σ vs f':=by
 unfold eY
 rw[List.set_append_right _ _ (by omega),show σ.length+1+vs.idxOf v-σ.length=vs.idxOf v+1 by omega,List.set_cons_succ]
 refine congrArg (fun z=>σ++(aO.map (oM (σ.length+1) vs)::z)) ?_
 clear σ
 induction vs with
 |nil=>cases h
 |cons w r ih=>
  rw[List.nodup_cons]at hn
  rw[List.idxOf_cons]
  by_cases e:w=v
  ·subst e
   simp only[beq_self_eq_true,cond_true,List.map_cons,List.set_cons_zero]
   exact congrArg (aO.box (marks (f' w))::·) (List.map_congr_left fun x hx=>by rw[ho x (fun e=>hn.1 (e▸hx))])
  ·have e2:(w==v)=false:=by simpa using e
   simp only[e2,cond_false,List.map_cons,List.set_cons_succ]
   rw[ih hn.2 ((List.mem_cons.1 h).resolve_left fun q=>e q.symm),ho w e]
theorem abe (σ:Heap) (vs:List Int) {f:Int→Nat→Bool} {v:Int} (h:∀k,f v k=false):((eY σ vs f)++[aO.box (List.replicate 513 aP)]).set σ.length (.map (oM (σ.length+1) (vs++[v])))=eY σ (vs++[v]) f:=by
 have e:marks (f v)=List.replicate 513 aP:=by
  rw[show f v=fun _=>false from funext h]
  refine List.eq_replicate_iff.2 ⟨xQ _,fun b hb=>?_⟩
  obtain⟨k,_,rfl⟩:=List.mem_map.1 hb
  rfl
 unfold eY
 simp only[List.append_assoc,List.cons_append]
 rw[List.set_append_right _ _ (Nat.le_refl _),Nat.sub_self,List.set_cons_zero,List.map_append,List.map_cons,e]
 rfl
theorem Yj (g g':Nat→Bool) {k:Nat} (hk:k<513) (h1:g' k=true) (h2:∀j,j≠k→g' j=g j):A.splice k [U.bool true] (marks g)=some (marks g'):=by
 unfold A.splice
 rw[if_pos (by rw[xQ];simp;omega)]
 refine congrArg some (List.ext_getElem? fun j=>?_)
 simp only[List.append_assoc,List.cons_append,List.nil_append,List.length_cons,List.length_nil]
 by_cases hj:j<k
 ·rw[List.getElem?_append_left (by rw[List.length_take,xQ];omega),List.getElem?_take_of_lt hj,zZ _ (by omega),zZ _ (by omega),h2 j (by omega)]
 ·rw[List.getElem?_append_right (by rw[List.length_take,xQ];omega),List.length_take,xQ,Nat.min_eq_left (by omega)]
  by_cases e:j=k
  ·subst e
   rw[Nat.sub_self,List.getElem?_cons_zero,zZ _ hk,h1]
  ·rw[show j-k=(j-k-1)+1 by omega,List.getElem?_cons_succ,List.getElem?_drop,show k+(0+1)+(j-k-1)=j by omega]
   by_cases hj2:j<513
   ·rw[zZ _ hj2,zZ _ hj2,h2 j e]
   ·rw[List.getElem?_eq_none (by rw[xQ];omega),List.getElem?_eq_none (by rw[xQ];omega)]
theorem Gf {α γ:Type} (K1:Unit→γ) (K2:Unit→γ):∀(l pre:List α),(gr (fun _ (x:α) (_:Unit)=>(Rd.go ():Rd Unit Unit)) pre l ()).el K1 K2=K1 ()
 |[],pre=>rfl
 |x::l,pre=>by rw[gr];exact Gf K1 K2 l _
theorem N6 {α S:Type} {body:List α→α→S→Rd S Int} {pS:List α→List α→Int} (h0:∀pre,pS pre []=0) (h:∀pre x rest s,pS pre (x::rest)=(body pre x s).el (fun _=>pS (pre++[x]) rest) (fun r=>r)) {γ:Type} (K:Int→γ):
  ∀(l pre:List α) (s:S),(gr body pre l s).el (fun _=>K 0) K=K (pS pre l)
 |[],pre,s=>by rw[gr,h0];rfl
 |x::l,pre,s=>by
  rw[gr,h pre x l s]
  cases body pre x s with
  |go s'=>exact N6 h0 h K l (pre++[x]) s'
  |out r=>rfl
theorem Xh (f:Int→Nat→Bool) (v:Int) (a:Nat):kN f v a 0=f:=by
 funext w k
 unfold kN
 rw[if_neg (by omega)]
theorem O5 {γ:Type} (σ:Heap) {vs:List Int} (hn:vs.Nodup) (f:Int→Nat→Bool) (u:bE) (a s:Nat) (ha:u.address=a) (hs:a+s≤513) (hm:u.univ∈vs) (K:List U→Heap→Option γ):
  (A.loop (fun v11 nB=>
   ((A.lb (v11.getD 0 U.undef)).bind fun _=>some (3)).bind fun Mh=>
   ((A.lb (v11.getD 0 U.undef)).bind fun jC=>A.aq Mh jC).bind fun dR=>
   (A.add dR (.int .i64 (s:Int))).bind fun bM=>
   (A.lss (v11.getD 1 U.undef) bM).bind fun dI=>
   A.cond dI (
    ((A.lb (v11.getD 0 U.undef)).bind fun _=>some (2)).bind fun p18=>
    ((A.lb (v11.getD 0 U.undef)).bind fun kT=>A.aq p18 kT).bind fun dJ=>
    (A.look .i (.om σ.length) dJ U.np nB).bind fun bC=>
    (A.eT bC).bind fun bT=>
    (A.sZ 513 1 bT (v11.getD 1 U.undef)).bind fun eE=>
    (A.storeAt eE [U.bool true] nB).bind fun jD=>
    (A.add (v11.getD 1 U.undef) aR).bind fun dY=>
    some (AX.normal,[(v11.getD 0 U.undef),dY],jD)) (
    some (AX.exit 0,[(v11.getD 0 U.undef),(v11.getD 1 U.undef)],nB))) [.lbx (bX u),.int .i64 (a:Int)] (eY σ vs f)).bind (fun vq=>
 bif decide (vq.1=AX.exit 0)then K vq.2.1 vq.2.2 else none)=K [.lbx (bX u),.int .i64 ((a:Int)+s)] (eY σ vs (kN f u.univ a s)):=by
 have hw:IntKind.i64.wrap ((a:Int)+s)=(a:Int)+s:=wrap64 (by unfold aS;omega)
 refine(mI (S:=Unit) (R:=Unit) (List.range' a s) (fun _ k (_:Unit)=>(Rd.go ():Rd Unit Unit))
  (fun pre _=>[.lbx (bX u),.int .i64 ((a:Int)+(pre.length:Int))]) (fun pre _=>eY σ vs (kN f u.univ a pre.length)) (fun _=>(.exit 0,[.lbx (bX u),.int .i64 ((a:Int)+s)],eY σ vs (kN f u.univ a s))) (fun pre _ _=>(.ret,[],σ))
  (fun _ _=>True) () (fun _=>K [.lbx (bX u),.int .i64 ((a:Int)+s)] (eY σ vs (kN f u.univ a s))) (fun _=>none) ?_ ?_ trivial (fun _ _ _ _ _ _ _ _=>trivial) ?_ ?_ (hv:=by simp) (dO:=by rw[List.length_nil,Xh])).trans (Gf _ _ _ _)
 ·intro pre k rest t hl _
  have hx:=mM hl
  have hlt:=oZ hl
  rw[List.length_range']at hlt
  obtain rfl:a+pre.length=k:=by
   have:=(List.getElem?_eq_some_iff.1 hx).2
   simpa [List.getElem_range']using this
  have hlt':(a:Int)+(pre.length:Int)<(a:Int)+s:=by omega
  have hi1:IntKind.i64.wrap ((a:Int)+(pre.length:Int)+1)=(a:Int)+((pre.length:Int)+1):=by rw[wrap64 (by unfold aS;omega)];omega
  have ecast:(a:Int)+(pre.length:Int)=((a+pre.length:Nat):Int):=by omega
  clear hl hx
  have Kq:A.look .i (.om σ.length) (.int .i64 u.univ) U.np (eY σ vs (kN f u.univ a pre.length))=some (.op (σ.length+1+vs.idxOf u.univ) 0):=by
   rw[vP .i rfl (F4 σ vs _),FE,if_pos hm];rfl
  have ac9:A.sZ 513 1 (.op (σ.length+1+vs.idxOf u.univ) 0) (.int .i64 ((a+pre.length:Nat):Int))=some (.op (σ.length+1+vs.idxOf u.univ) (a+pre.length)):=by
   have h1:A.idx 513 (.int .i64 ((a+pre.length:Nat):Int))=some (a+pre.length):=by
    show(if(0:Int)≤((a+pre.length:Nat):Int)∧((a+pre.length:Nat):Int)<((513:Nat):Int)then some ((a+pre.length:Nat):Int).toNat else none)=_
    rw[if_pos ⟨by omega,by omega⟩];rfl
   unfold A.sZ
   rw[h1]
   simp only[Option.bind_some,Nat.mul_one,Nat.zero_add]
  have hst:A.storeAt (.op (σ.length+1+vs.idxOf u.univ) (a+pre.length)) [.bool true] (eY σ vs (kN f u.univ a pre.length))=some (eY σ vs (kN f u.univ a (pre.length+1))):=by
   simp only[A.storeAt,Re σ _ hm]
   rw[Yj _ (kN f u.univ a (pre.length+1) u.univ) (by omega) (by unfold kN;rw[if_pos ⟨rfl,by omega,by omega⟩]) (fun j hj=>by
    unfold kN
    by_cases q:a≤j∧j<a+pre.length
    ·rw[if_pos ⟨rfl,by omega,by omega⟩,if_pos ⟨rfl,q.1,q.2⟩]
    ·rw[if_neg (by omega),if_neg (by omega)])]
   simp only[Option.map_some]
   rw[abf σ hn hm (fun w hw=>by funext j;unfold kN;rw[if_neg (fun q=>hw q.1),if_neg (fun q=>hw q.1)])]
  simp only[aI,reduceCtorEq,lp,lq,lu,lz,kg,kf,kj,ha,hw,hlt',Kq,show A.eT (.op (σ.length+1+vs.idxOf u.univ) 0)=some (.op (σ.length+1+vs.idxOf u.univ) 0)from rfl]
  rw[ecast,ac9]
  simp only[aI,reduceCtorEq,hst,←ecast,hi1]
 ·intro t _
  rw[List.length_range']
  simp only[aI,reduceCtorEq,lp,lq,lu,lz,kg,kf,kj,ha,hw,Int.lt_irrefl]
 ·intro t _;simp only[aI,reduceCtorEq]
 ·intro pre x rest t r _ _ hb;cases hb
theorem abc (σ:Heap) {vs:List Int} (hn:vs.Nodup) (f:Int→Nat→Bool) (u:bE) (a s:Nat) (ha:u.address=a) (hs:a+s≤513) (hf:u.univ∉vs→∀k,f u.univ k=false):
  Er [.om σ.length,.agg (bX u),.int .i64 (s:Int)] (eY σ vs f)=some (.aA [],eY σ (if u.univ∈vs then vs else vs++[u.univ]) (kN f u.univ a s)):=by
 have e:Bz (.om σ.length) (.agg (bX u)) (.int .i64 (s:Int)) (eY σ vs f)=some (.aA [],eY σ (if u.univ∈vs then vs else vs++[u.univ]) (kN f u.univ a s)):=by
  unfold Bz
  have Kq:A.look .i (.om σ.length) (.int .i64 u.univ) U.np (eY σ vs f)=some (if u.univ∈vs then .op (σ.length+1+vs.idxOf u.univ) 0 else .np):=by
   rw[vP .i rfl (F4 σ vs _),FE]
   by_cases hm:u.univ∈vs<;>simp [hm]
  simp only[aI,reduceCtorEq,lp,lq,lu,lz,kg,kf,kj,Kq]
  by_cases hm:u.univ∈vs
  ·simp only[if_pos hm,show A.eql .p (.op (σ.length+1+vs.idxOf u.univ) 0) U.np=some (.bool false)from rfl,aI,reduceCtorEq,lp,lq,lu,lz,kg,kf,kj,ha]
   exact O5 σ hn f u a s ha hs hm fun _ h=>some (U.aA [],h)
  ·have L8:A.eU .i (.om σ.length) (.int .i64 u.univ) (.op (eY σ vs f).length 0) (eY σ vs f++[aO.box (List.replicate 513 aP)])=some (eY σ (vs++[u.univ]) f):=by
    rw[Ca .i rfl (es:=oM (σ.length+1) vs) (by rw[List.getElem?_append_left (by rw[Rg];omega)];exact F4 σ vs f),Rc _ _ _ _ hm]
    rw[Option.map_some,Rg,←Qi,abe σ vs (hf hm)]
   simp only[if_neg hm,show A.eql .p U.np U.np=some (.bool true)from rfl,aI,reduceCtorEq,lp,lq,lu,lz,kg,kf,kj,L8,ha]
   exact O5 σ (by rw[List.nodup_append];exact⟨hn,by simp,fun x hx y hy e=>hm (by simp at hy;rw[←hy,←e];exact hx)⟩) f u a s ha hs (by simp) fun _ h=>some (U.aA [],h)
 unfold Er A.wrap
 rw[Bool.false_and,cond_false]
 show(Bz (.om σ.length) (.agg (bX u)) (.int .i64 (s:Int)) (eY σ vs f)).map _=_
 rw[e];rfl
theorem Xk {α:Type} (f:α→Int) {l pre rest:List α} {x:α} (h:l=pre++x::rest) (n:Int):(∃y,0<pre.length∧l[pre.length-1]? =some y∧yH (pre.map f) n=decide (n≤f y))∨(¬0<pre.length∧yH (pre.map f) n=false):=by
 by_cases h0:0<pre.length
 ·obtain⟨y,hy,hy2⟩:=PZ h h0
  exact .inl ⟨y,h0,hy2,by simp [yH,List.getLast?_map,hy]⟩
 ·obtain rfl:pre=[]:=List.eq_nil_of_length_eq_zero (by omega)
  exact .inr ⟨h0,rfl⟩
theorem ZN (σ:Heap) (vs:List Int) (f:Int→Nat→Bool) (v:Int):A.look .i (.om σ.length) (.int .i64 v) U.np (eY σ vs f)=some (if v∈vs then .op (σ.length+1+vs.idxOf v) 0 else .np):=by
 rw[vP .i rfl (F4 σ vs _),FE]
 by_cases hm:v∈vs<;>simp [hm]
theorem QA (σ:Heap) (vs:List Int) (f:Int→Nat→Bool) (n:Int):A.fin σ (.int .i64 n) (eY σ vs f)=some (.int .i64 n,σ):=JL _ _ _ _
theorem Ip (r:aV) (hok:gK r) (σ:Heap):Ef [.agg (bh r)] σ=some (.int .i64 (cN r),σ):=by
 refine wrap_eq rfl ?_ rfl
 show HD (.agg (bh r)) σ=_
 obtain⟨Lh,hus⟩:=hok
 have Ba:=Lh.1
 unfold HD cN
 simp only[aI,reduceCtorEq,oP,oQ,oU,oT,oV,Vp _ Lh]
 by_cases hf:tD r.bp=0
 case neg=>simp only[aI,reduceCtorEq,hf]
 by_cases h4:400<r.units.length
 ·have h4':(400:Int)<r.units.length:=by omega
  simp only[aI,reduceCtorEq,oP,oQ,oU,oT,oV,hf,h4,h4']
 have h4':¬(400:Int)<r.units.length:=by omega
 simp only[aI,reduceCtorEq,oP,oQ,oU,oT,oV,hf,h4,h4']
 have Rs:=Xe hf
 generalize GV:r.units=l at *
 refine(mI (S:=List Int×(Int→Nat→Bool)) (R:=Int) l (fun pre u s=>if aZ u.number 1 9999=false then .out 1
    else if yH (pre.map (·.number)) u.number=true then .out 7
    else if(dD u.profile r.bp).2=false then .out 5
    else if aZ u.univ 1 64=false∨aZ u.address 1 512=false∨512<l9 r.bp u then .out 1
    else if Au r.bp u pre=true then .out 12 else .go (if u.univ∈s.1 then s.1 else s.1++[u.univ],kN s.2 u.univ u.address.toNat (dD u.profile r.bp).1.size.toNat))
  (fun pre _=>[.lbx (bh r),.int .i64 0,.int .i64 (pre.length:Int)]) (fun pre s=>eY σ s.1 s.2)
  (fun s=>(.exit 0,[.lbx (bh r),.int .i64 0,.int .i64 (l.length:Int)],eY σ s.1 s.2)) (fun pre s n=>(.ret,[.lbx (bh r),.int .i64 n,.int .i64 (pre.length:Int)],eY σ s.1 s.2))
  (fun pre s=>B5 r.bp pre∧vU r.bp pre s.2∧s.1.Nodup∧∀v,v∉s.1→∀k,s.2 v k=false) ([],fun _ _=>false) (fun _=>some (U.int .i64 0,σ)) (fun n=>some (U.int .i64 n,σ)) ?_ ?_ ⟨(by intro x hx;simp at hx),vU.nil _,List.nodup_nil,fun _ _ _=>rfl⟩ ?_ ?_ ?_).trans ?_
 ·intro pre u rest s hl hP
  have hx:=mM hl;have hlt:=oZ hl;have hi1:IntKind.i64.wrap ((pre.length:Int)+1)=(pre.length:Int)+1:=wrap64 (by unfold aS;omega);have hi2:IntKind.i64.wrap ((pre.length:Int) -1)=(pre.length:Int) -1:=wrap64 (by unfold aS;omega);have hlt':(pre.length:Int)<(l.length:Int):=by omega
  have hmp:pre.length≤br:=by unfold br;omega
  have gf:=iS 4 bX l hx
  have GR:=N5 r.bp Ba u.profile
  have ho:=Xk (·.number) hl u.number
  obtain⟨vs,f⟩:=s
  obtain⟨De,Df,A7,A8⟩:=hP
  dsimp only at De Df A7 A8 ⊢
  clear hus h4 h4' hl hx
  simp only[aI,reduceCtorEq,lp,lq,lu,lz,kg,kf,kj,oP,oQ,oU,oT,oV,GV,hlt',gf,GR,jT,jU,jV,jX,jW,jY,j0]
  cases h1:aZ u.number 1 9999
  ·simp only[aI,reduceCtorEq]
  simp only[aI,reduceCtorEq]
  rcases ho with⟨y,h0,hy,ho⟩|⟨h0,ho⟩
  case' inl=>
   have nq:(0:Int)<pre.length:=by omega
   have Lf:=EO 4 bX l h0 hy
   by_cases hq:u.number≤y.number
   ·simp only[aI,reduceCtorEq,lp,lq,lu,lz,kg,kf,kj,oP,oQ,oU,oT,oV,GV,nq,hi2,Lf,ho,hq]
   simp only[aI,reduceCtorEq,lp,lq,lu,lz,kg,kf,kj,oP,oQ,oU,oT,oV,GV,nq,hi2,Lf,ho,hq]
  case' inr=>
   have nq:¬(0:Int)<pre.length:=by omega
   simp only[aI,reduceCtorEq,nq,ho]
  all_goals
   try simp only[aI,reduceCtorEq,lp,lq,lu,lz,kg,kf,kj,oP,oQ,oU,oT,oV,GV,GR]
   cases hp:(dD u.profile r.bp).2
   ·simp only[aI,reduceCtorEq,jT,jU,jV,jX,jW,jY]
   have hsz:=Rs _ (IM _ _ hp)
   try simp only[aI,reduceCtorEq,lp,lq,lu,lz,kg,kf,kj,jT,jU,jV,jX,jW,jY,j0]
   cases hu:aZ u.univ 1 64
   ·simp only[aI,reduceCtorEq]
   cases ha:aZ u.address 1 512
   ·simp only[aI,reduceCtorEq,lp,lq,lu,lz,kg,kf,kj,j0,ha]
   have ha':1≤u.address∧u.address≤512:=by simpa [aZ]using ha
   have hw1:IntKind.i64.wrap (u.address+(dD u.profile r.bp).1.size)=u.address+(dD u.profile r.bp).1.size:=wrap64 (by unfold aS;omega)
   have TV:IntKind.i64.wrap (u.address+(dD u.profile r.bp).1.size-1)=l9 r.bp u:=wrap64 (by unfold aS;omega)
   have hlu:l9 r.bp u=u.address+(dD u.profile r.bp).1.size-1:=rfl
   by_cases h5:512<l9 r.bp u
   ·simp only[aI,reduceCtorEq,lp,lq,lu,lz,kg,kf,kj,jT,jU,jV,jX,jW,jY,j0,ha,hw1,TV,h5]
   obtain⟨a,LV⟩:∃a:Nat,u.address=a:=⟨u.address.toNat,by omega⟩
   obtain⟨n,hne⟩:∃n:Nat,(dD u.profile r.bp).1.size=n:=⟨(dD u.profile r.bp).1.size.toNat,by omega⟩
   have GU:=W9 Df De u a n LV (by omega) (by omega) (by omega)
   have hfree:zG [if u.univ∈vs then .op (σ.length+1+vs.idxOf u.univ) 0 else .np,.int .i64 (a:Int),.int .i64 (n:Int)] (eY σ vs f)=some (.bool (!Au r.bp u pre),eY σ vs f):=by
    by_cases hm:u.univ∈vs
    ·rw[if_pos hm,aaa (f u.univ) a n (by omega) (Re σ f hm),GU]
    ·rw[if_neg hm,Z9 a n (by unfold aS;omega) (by unfold aS;omega),←GU]
     have e:qp (f u.univ) n a=true:=(IW _ _ _).2 fun k h1 h2=>⟨by omega,A8 _ hm k⟩
     rw[e,show decide ((a:Int)+n-1≤512)=true from decide_eq_true (by omega)]
   have vk:=abc σ A7 f u a n LV (by omega) (A8 u.univ)
   simp only[aI,reduceCtorEq,lp,lq,lu,lz,kg,kf,kj,jT,jU,jV,jX,jW,jY,j0,ha,hw1,TV,h5,ZN]
   rw[LV,hne]
   simp only[aI,reduceCtorEq,hfree]
   cases hc:Au r.bp u pre
   ·simp only[aI,reduceCtorEq,lp,lq,lu,lz,kg,kf,kj,jT,jU,jV,jX,jW,jY,hne,vk,hi1,Int.toNat_natCast]
   ·simp only[aI,reduceCtorEq]
 ·intro s _
  exact vL _ _ _
 ·intro pre u rest s s' hl hP hb
  obtain⟨vs,f⟩:=s
  obtain⟨De,Df,A7,A8⟩:=hP
  dsimp only at De Df A7 A8 hb
  split at hb
  ·cases hb
  split at hb
  ·cases hb
  split at hb
  ·cases hb
  rename_i hp
  split at hb
  ·cases hb
  rename_i hw
  split at hb
  ·cases hb
  injection hb with hb
  subst hb
  simp only[not_or,Bool.not_eq_false,aZ,Bool.and_eq_true,decide_eq_true_eq]at hw hp
  have hsz:=Rs _ (IM _ _ (by simpa using hp))
  have hlu:l9 r.bp u=u.address+(dD u.profile r.bp).1.size-1:=rfl
  refine⟨De.snoc ⟨hw.2.1.1,by omega,by omega⟩,Df.snoc u u.address.toNat _ (by omega) (by omega),?_,?_⟩
  ·dsimp only
   split
   ·exact A7
   ·rename_i hm
    rw[List.nodup_append];exact⟨A7,by simp,fun x hx y hy e=>hm (by simp at hy;rw[←hy,←e];exact hx)⟩
  ·intro v hv k
   dsimp only at hv ⊢
   have h1:v≠u.univ∧v∉vs:=by
    split at hv
    ·rename_i hm
     exact⟨fun e=>hv (e▸hm),hv⟩
    ·simp only[List.mem_append,List.mem_singleton,not_or]at hv
     exact⟨hv.2,hv.1⟩
   unfold kN
   rw[if_neg (fun q=>h1.1 q.1)]
   exact A8 v h1.2 k
 ·intro s _;simp only[aI,reduceCtorEq,QA]
 ·intros;simp only[aI,reduceCtorEq,QA]
 ·refine(N6 (pS:=wN r.bp) ?_ ?_ (fun n=>some (U.int .i64 n,σ)) l [] _).trans ?_
  ·intro pre;rfl
  ·intro pre x rest s;rw[wN];simp only[Av,vW,wk]
  ·rfl
def iU (ey:List bG) (u:bE):List az:=(dD u.profile ey).1.params.map fun x=>⟨u.number,x.name⟩
def ig (r:aV):List az:=r.units.flatMap (iU r.bp)
theorem Vs {p:bG} (h:mJ p=0):p.params.length≤40:=by
 unfold mJ at h
 repeat' split at h
 all_goals first|(simp at h;done)|omega
theorem NO:∀(l pre:List bG),wL pre l=0→∀p∈l,mJ p=0
 |[],pre,h,p,hp=>by simp at hp
 |q::rest,pre,h,p,hp=>by
  rw[wL]at h
  by_cases e:mJ q=0
  ·rw[if_pos e]at h
   by_cases e2:fQ q.name (pre.map (·.name))=true
   ·rw[if_pos e2]at h;simp at h
   ·rw[if_neg e2]at h
    simp only[List.mem_cons]at hp
    rcases hp with rfl|hp
    ·exact e
    ·exact NO rest _ h p hp
  ·rw[if_neg e]at h;exact absurd h e
theorem Jv {r:aV} (h:cN r=0):tD r.bp=0:=by
 unfold cN at h
 split at h
 ·assumption
 ·rename_i h2;exact absurd h h2
theorem IF {l:List bG} (h:tD l=0):∀p∈l,mJ p=0:=by
 unfold tD at h
 by_cases e:60<l.length
 ·rw[if_pos e]at h;simp at h
 ·rw[if_neg e]at h;exact NO l [] h
theorem BK {r:aV} (h:cN r=0) (nm:ByteArray):(dD nm r.bp).1.params.length≤40:=by
 rw[sJ]
 cases hf:r.bp.find? (fun x:bG=>decide (x.name=nm))with
 |none=>exact Nat.zero_le _
 |some p=>exact Vs (IF (Jv h) p (List.mem_of_find?_eq_some hf))
theorem Io {r:aV} (h:cN r=0):∀(l:List bE),(l.flatMap (iU r.bp)).length≤l.length*40
 |[]=>by simp
 |u::l=>by
  have h1:=BK h u.profile
  have h2:=Io h l
  rw[List.flatMap_cons,List.length_append,List.length_cons,Nat.succ_mul]
  have h3:(iU r.bp u).length=(dD u.profile r.bp).1.params.length:=by simp [iU]
  omega
theorem abG (l:List az) (n:Int):A.nn (.t [(.s 2),.k]) (.aA [if l=[]then .aB else sl 2 aH l,.int .i64 n])=.aA [sl 2 aH l,.int .i64 n]:=by
 show U.aA [A.nn (.s 2) (if l=[]then .aB else sl 2 aH l),.int .i64 n]=_
 rw[abH]
theorem xO {r:aV} (h:cN r=0):r.units.length≤400:=by
 unfold cN at h
 split at h
 ·split at h
  ·cases h
  ·omega
 ·rename_i h2;exact absurd h h2
theorem Qm (r:aV) (hok:gK r) (σ:Heap):Ep [.agg (bh r)] σ=some (.aA [sl 2 aH (if cN r=0 then ig r else[]),.int .i64 (cN r)],σ):=by
 by_cases hf:cN r=0
 ·refine wrap_eq rfl (v:=.aA [if ig r=[]then .aB else sl 2 aH (ig r),.int .i64 0]) ?_ (by rw[if_pos hf,hf];exact abG _ _)
  show By (.agg (bh r)) σ=_
  unfold By
  have hu:=xO hf
  have Lh:=hok.1.2
  simp only[aI,reduceCtorEq,oP,oQ,oU,oT,oV,Ip r hok,hf]
  refine(mI (S:=Unit) (R:=Unit) r.units (fun pre u _=>(Rd.go ():Rd Unit Unit))
   (fun pre _=>[.lbx (bh r),qx σ.length 2 (pre.flatMap (iU r.bp)),.int .i64 (pre.length:Int)]) (fun pre _=>σ++nM 2 aH (pre.flatMap (iU r.bp)))
   (fun _=>(.exit 0,[.lbx (bh r),qx σ.length 2 (ig r),.int .i64 (r.units.length:Int)],σ++nM 2 aH (ig r))) (fun pre _ _=>(.ret,[],σ))
   (fun _ _=>True) () (fun _=>some (U.aA [if ig r=[]then .aB else sl 2 aH (ig r),.int .i64 0],σ)) (fun _=>none) ?_ ?_ trivial (fun _ _ _ _ _ _ _ _=>trivial) ?_ ?_ (dO:=by simp [Zt])).trans (Gf _ _ _ _)
  ·intro pre u rest s hl _
   have hx:=mM hl
   have hlt:=oZ hl
   have hi1:IntKind.i64.wrap ((pre.length:Int)+1)=(pre.length:Int)+1:=wrap64 (by unfold aS;omega)
   have hlt':(pre.length:Int)<(r.units.length:Int):=by omega
   have gf:=iS 4 bX r.units hx
   have GR:=N5 r.bp hok.1.1 u.profile
   have hps:=BK hf u.profile
   have nS:=Io hf pre
   have hsn:(pre++[u]).flatMap (iU r.bp)=pre.flatMap (iU r.bp)++iU r.bp u:=by simp
   have adX:pre.length≤399:=by omega
   generalize hK:pre.flatMap (iU r.bp)=K at *
   generalize hq:(dD u.profile r.bp).1=p at *
   simp only[aI,reduceCtorEq,lp,lq,lu,lz,kg,kf,kj,oP,oQ,oU,oT,oV,hlt',gf,GR,hq,jT,jU,jV,jX,jW,jY]
   refine(mI (S:=Unit) (R:=Unit) p.params (fun pre u _=>(Rd.go ():Rd Unit Unit))
    (fun sk _=>[.lbx (bh r),qx σ.length 2 (K++sk.map fun x=>(⟨u.number,x.name⟩:az)),.lbx (bX u),.int .i64 (sk.length:Int)]) (fun sk _=>σ++nM 2 aH (K++sk.map fun x=>(⟨u.number,x.name⟩:az)))
    (fun _=>(.exit 2,[.lbx (bh r),qx σ.length 2 (K++iU r.bp u),.lbx (bX u),.int .i64 (p.params.length:Int)],σ++nM 2 aH (K++iU r.bp u))) (fun pre _ _=>(.ret,[],σ))
    (fun _ _=>True) () (fun _=>some (.normal,[.lbx (bh r),qx σ.length 2 (K++iU r.bp u),.int .i64 ((pre.length:Int)+1)],σ++nM 2 aH (K++iU r.bp u))) (fun _=>none) ?_ ?_ trivial (fun _ _ _ _ _ _ _ _=>trivial) ?_ ?_ (hv:=by simp) (dO:=by simp)).trans ((Gf _ _ _ _).trans ?_)
   ·intro sk x rest' s hl' _
    have gx:=mM hl'
    have glt:=oZ hl'
    have Tz:IntKind.i64.wrap ((sk.length:Int)+1)=(sk.length:Int)+1:=wrap64 (by unfold aS;omega)
    have ac8:(sk.length:Int)<(p.params.length:Int):=by omega
    have gia:=iS 7 eA p.params gx
    have hap:=Xl (most:=140737488355328 / 24) (sz:=2) aH (K++sk.map fun x=>(⟨u.number,x.name⟩:az)) ⟨u.number,x.name⟩ σ (by
     rw[List.length_append,List.length_map]
     omega)
    have adv:(K++(sk++[x]).map fun x=>(⟨u.number,x.name⟩:az))=(K++sk.map fun x=>(⟨u.number,x.name⟩:az))++[⟨u.number,x.name⟩]:=by simp
    clear hl gx glt hx hlt nS hl'
    rw[adv]
    have hch:U.sl 2 (chunks 2 1 [U.int .i64 u.number,U.str x.name])=.sl 2 [aH ⟨u.number,x.name⟩]:=rfl
    simp only[aI,reduceCtorEq,xE,xF,xG,xH,xI,xJ,xK,vK,vI,qX,lp,lq,lu,lz,kg,kf,kj,ac8,gia,Tz]
    show(A.append 2 _ _ (U.sl 2 [aH ⟨u.number,x.name⟩]) _).bind _=_
    rw[hap]
    simp only[aI,reduceCtorEq,Tz]
   ·intro s _
    refine(vL _ _ _).trans ?_
    subst hq
    rfl
   ·intro s _;simp only[aI,reduceCtorEq,hi1]
   ·intros;rename_i hb;cases hb
   ·rw[hsn]
  ·intro s _
   exact vL _ _ _
  ·intro s _
   simp only[aI,reduceCtorEq,Y6 uq]
  ·intros;rename_i hb;cases hb
 ·refine wrap_eq rfl (v:=.aA [.aB,.int .i64 (cN r)]) ?_ (by rw[if_neg hf];rfl)
  show By (.agg (bh r)) σ=_
  unfold By
  simp only[aI,reduceCtorEq,oP,oQ,oU,oT,oV,Ip r hok,hf]
theorem NC (n:Int) (σ:Heap):Es [.int .i64 n] σ=some (.bool (aZ n 0 65535),σ):=by
 refine wrap_eq rfl ?_ rfl
 show HO (.int .i64 n) σ=_
 unfold HO
 simp only[aI,reduceCtorEq,j0]
def yf (s:ByteArray):Bool:=if s=⟨#[]⟩then true else Co s
theorem YR (s:ByteArray) (hs:fK s) (σ:Heap):H8 [.str s] σ=some (.bool (yf s),σ):=by
 refine wrap_eq rfl ?_ rfl
 show Ii (.str s) σ=_
 unfold Ii yf
 by_cases h:s=⟨#[]⟩
 ·simp only[aI,reduceCtorEq,h]
 ·simp only[aI,reduceCtorEq,h,Pc s hs]
end Go.Proofs.Ytphgchakmkankaa
