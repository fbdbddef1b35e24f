/- Parts of the proof of CueMarksMatchSpec, in order. -/
import Derived.Orders
import Derived.Below
import Derived.WalkKit
import Derived.Laws.StructEq
import Derived.Laws.Append
import Derived.Laws.AppendOwn
import Derived.Test.YtphgchakmkankaaGreatRows
import Derived.KernelRfl
import Derived.Lib.Bytealg
import Derived.Sort.Defs
import Derived.Lib.BitFns
import Derived.Test.YtphgchakmkankaaGreatShelf
import Derived.Lib.Overlaps
import Derived.IntWalk
import Derived.Test.YtphgchakmkankaaGreatKCueMarksMatchSpec2
namespace Go.Proofs.YtphgchakmkankaaGreat
set_option linter.unusedVariables false
set_option linter.unusedSimpArgs false
set_option linter.unusedSectionVars false
section
set_option maxRecDepth 100000
noncomputable def Nf (a0:U) (σ:Heap):Option (U×Heap):=
 (mR [a0,ah,(U.int .i64 36000000)] σ).bind fun r1=>
 A.fin σ r1.1 r1.2
noncomputable def zZ:List U→Heap→Option (U×Heap):=A.wrap true [] .k (A.dU Nf)
noncomputable def MX (a0 a1:U) (σ:Heap):Option (U×Heap):=
 (A.cells 2 a0).bind fun c1=>
 (A.cells 2 a1).bind fun c2=>
 (A.an 0 c1).bind fun x3=>
 (A.an 0 c2).bind fun x4=>
 (A.neq .i x3 x4).bind fun x5=>
 A.cond x5 (
  (A.an 0 c1).bind fun x6=>
  (A.an 0 c2).bind fun x7=>
  (A.lss x6 x7).bind fun x8=>
  A.cond x8 (
   A.fin σ (U.int .i64 (-1)) σ) (
   A.fin σ aI σ)) (
  (A.an 1 c1).bind fun x9=>
  (A.an 1 c2).bind fun bf=>
  (IN [x9,bf] σ).bind fun cD=>
  A.fin σ cD.1 cD.2)
noncomputable def I1:List U→Heap→Option (U×Heap):=A.wrap true [] .k (A.cM MX)
noncomputable def Mw (a0:U) (σ:Heap):Option (U×Heap):=
 (A.aT a0).bind fun x1=>
 (A.loop (fun v2 s3=>
   (A.lss (v2.getD 1 U.undef) x1).bind fun x5=>
   A.cond x5 (
    (A.aN 8 a0 (v2.getD 1 U.undef)).bind fun x6=>
    ((A.deref x6 s3).bind fun c7=>A.az 0 8 c7).bind fun x8=>
    (A.cells 8 x8).bind fun c9=>
    (A.splice 0 c9 [ah,aW,ah,ah,aD,aD,ah,ah]).bind fun dr=>
    (A.an 0 dr).bind fun bN=>
    (mR [bN,aI,(U.int .i64 9999)] s3).bind fun pS=>
    (A.not pS.1).bind fun bF=>
    A.cond bF (
     some (AX.ret,[aI,(v2.getD 1 U.undef)],pS.2)) (
     (A.an 1 dr).bind fun bw=>
     (DA [bw] pS.2).bind fun dG=>
     (A.not dG.1).bind fun bl=>
     A.cond bl (
      some (AX.ret,[(U.int .i64 5),(v2.getD 1 U.undef)],dG.2)) (
      (A.an 4 dr).bind fun bZ=>
      (A.guard bZ true (A.az 2 2 dr) aj).bind fun cU=>
      (A.guard bZ true (some (U.agg [ah,ah])) aj).bind fun cg=>
      (A.guard bZ true (A.neq (.s [0,0]) cU cg) aj).bind fun bI=>
      (A.pick bZ bI aD).bind fun bg=>
      (A.guard bg false (A.an 2 dr) aj).bind fun bB=>
      (A.guard bg false (A.neq .i bB ah) aj).bind fun ct=>
      (A.guard bg false (some ct) aj).bind fun x24=>
      (A.guard x24 true (A.an 3 dr) aj).bind fun x25=>
      (A.guard x24 true (A.neq .i x25 ah) aj).bind fun cN=>
      (A.guard bg false (A.pick x24 cN aD) aj).bind fun cR=>
      (A.pick bg br cR).bind fun x28=>
      A.cond x28 (
       some (AX.ret,[(U.int .i64 3),(v2.getD 1 U.undef)],dG.2)) (
       (A.an 2 dr).bind fun x29=>
       (mR [x29,ah,(U.int .i64 65535)] dG.2).bind fun nB=>
       (A.not nB.1).bind fun x31=>
       (A.guard x31 false (A.an 3 dr) aj).bind fun x32=>
       (A.guard x31 false (A.quiet (mR [x32,ah,(U.int .i64 999)] nB.2) nB.2) aj).bind fun gj=>
       (A.guard x31 false (A.not gj) aj).bind fun x34=>
       (A.pick x31 br x34).bind fun fB=>
       A.cond fB (
        some (AX.ret,[aI,(v2.getD 1 U.undef)],nB.2)) (
        (A.an 5 dr).bind fun jG=>
        (A.not jG).bind fun cV=>
        (A.guard cV true (A.an 6 dr) aj).bind fun x38=>
        (A.guard cV true (A.neq .i x38 ah) aj).bind fun gy=>
        (A.guard cV true (some gy) aj).bind fun fG=>
        (A.guard fG false (A.an 7 dr) aj).bind fun fW=>
        (A.guard fG false (A.neq .i fW ah) aj).bind fun fZ=>
        (A.guard cV true (A.pick fG br fZ) aj).bind fun fM=>
        (A.pick cV fM aD).bind fun dH=>
        A.cond dH (
         some (AX.ret,[(U.int .i64 3),(v2.getD 1 U.undef)],nB.2)) (
         (A.an 6 dr).bind fun ew=>
         (zZ [ew] nB.2).bind fun iW=>
         (A.not iW.1).bind fun dK=>
         (A.guard dK false (A.an 7 dr) aj).bind fun gG=>
         (A.guard dK false (A.quiet (zZ [gG] iW.2) iW.2) aj).bind fun ig=>
         (A.guard dK false (A.not ig) aj).bind fun fC=>
         (A.pick dK br fC).bind fun ef=>
         A.cond ef (
          some (AX.ret,[aI,(v2.getD 1 U.undef)],iW.2)) (
          (A.gtr (v2.getD 1 U.undef) ah).bind fun eM=>
          (A.guard eM true (some a0) aj).bind fun kg=>
          (A.guard eM true (some (v2.getD 1 U.undef)) aj).bind fun ga=>
          (A.guard eM true (A.sub ga aI) aj).bind fun iP=>
          (A.guard eM true (A.aN 8 kg iP) aj).bind fun gO=>
          (A.guard eM true (A.bA 0 gO) aj).bind fun jf=>
          (A.guard eM true ((A.deref jf iW.2).bind fun uX=>A.az 0 2 uX) aj).bind fun jv=>
          (A.guard eM true (A.az 0 2 dr) aj).bind fun iQ=>
          (A.guard eM true (A.quiet (I1 [jv,iQ] iW.2) iW.2) aj).bind fun gH=>
          (A.guard eM true (A.geq gH ah) aj).bind fun gW=>
          (A.pick eM gW aD).bind fun dW=>
          A.cond dW (
           some (AX.ret,[(U.int .i64 7),(v2.getD 1 U.undef)],iW.2)) (
           (A.add (v2.getD 1 U.undef) aI).bind fun kT=>
           some (AX.normal,[(v2.getD 0 U.undef),kT],iW.2))))))))) (
    some (AX.exit 0,[(v2.getD 0 U.undef),(v2.getD 1 U.undef)],s3))) [ah,ah] σ).bind fun va=>
 bif va.1==AX.exit 0 then(
  A.fin σ ah va.2.2)else
 bif va.1==AX.ret then(
  A.fin σ (va.2.1.getD 0 U.undef) va.2.2)else
 none
noncomputable def Mv:List U→Heap→Option (U×Heap):=A.wrap true [(.s 8)] .k (A.dU Mw)
noncomputable def Od (a0:U) (σ:Heap):Option (U×Heap):=
 (A.aT a0).bind fun x1=>
 (A.gtr x1 (U.int .i64 300)).bind fun x2=>
 A.cond x2 (
  A.fin σ (U.int .i64 2) σ) (
  (A.aT a0).bind fun x3=>
  (A.loop (fun v4 s5=>
    (A.lss (v4.getD 2 U.undef) x3).bind fun x7=>
    A.cond x7 (
     (A.aN 11 a0 (v4.getD 2 U.undef)).bind fun x8=>
     ((A.deref x8 s5).bind fun c9=>A.az 0 11 c9).bind fun bf=>
     (A.cells 11 bf).bind fun dw=>
     (A.splice 0 dw [ah,aW,ah,ah,ah,ah,ah,U.aH,aD,ah,U.aH]).bind fun bR=>
     (A.an 0 bR).bind fun bF=>
     (mR [bF,aI,(U.int .i64 9999999)] s5).bind fun eL=>
     (A.not eL.1).bind fun bU=>
     A.cond bU (
      some (AX.ret,[aI,(v4.getD 1 U.undef),(v4.getD 2 U.undef)],eL.2)) (
      (A.gtr (v4.getD 2 U.undef) ah).bind fun bl=>
      (A.guard bl true (A.an 0 bR) aj).bind fun bZ=>
      (A.guard bl true (some a0) aj).bind fun cU=>
      (A.guard bl true (some (v4.getD 2 U.undef)) aj).bind fun cg=>
      (A.guard bl true (A.sub cg aI) aj).bind fun bI=>
      (A.guard bl true (A.aN 11 cU bI) aj).bind fun bg=>
      (A.guard bl true (A.bA 0 bg) aj).bind fun bB=>
      (A.guard bl true ((A.deref bB eL.2).bind fun iV=>A.an 0 iV) aj).bind fun x24=>
      (A.guard bl true (A.leq bZ x24) aj).bind fun x25=>
      (A.pick bl x25 aD).bind fun cN=>
      A.cond cN (
       some (AX.ret,[(U.int .i64 7),(v4.getD 1 U.undef),(v4.getD 2 U.undef)],eL.2)) (
       (A.an 1 bR).bind fun cR=>
       (A.neq .z cR aW).bind fun x28=>
       (A.guard x28 true (A.an 1 bR) aj).bind fun x29=>
       (A.guard x28 true (A.quiet (I9 [x29] eL.2) eL.2) aj).bind fun cO=>
       (A.guard x28 true (A.not cO) aj).bind fun x31=>
       (A.pick x28 x31 aD).bind fun x32=>
       A.cond x32 (
        some (AX.ret,[(U.int .i64 3),(v4.getD 1 U.undef),(v4.getD 2 U.undef)],eL.2)) (
        (A.an 2 bR).bind fun gj=>
        (zZ [gj] eL.2).bind fun iB=>
        (A.not iB.1).bind fun fB=>
        (A.guard fB false (A.an 3 bR) aj).bind fun jG=>
        (A.guard fB false (A.quiet (zZ [jG] iB.2) iB.2) aj).bind fun cV=>
        (A.guard fB false (A.not cV) aj).bind fun x38=>
        (A.pick fB br x38).bind fun gy=>
        (A.guard gy false (A.an 4 bR) aj).bind fun fG=>
        (A.guard gy false (A.quiet (zZ [fG] iB.2) iB.2) aj).bind fun fW=>
        (A.guard gy false (A.not fW) aj).bind fun fZ=>
        (A.pick gy br fZ).bind fun fM=>
        (A.guard fM false (A.an 5 bR) aj).bind fun dH=>
        (A.guard fM false (A.quiet (zZ [dH] iB.2) iB.2) aj).bind fun ew=>
        (A.guard fM false (A.not ew) aj).bind fun ia=>
        (A.pick fM br ia).bind fun dK=>
        (A.guard dK false (A.an 9 bR) aj).bind fun gG=>
        (A.guard dK false (A.quiet (mR [gG,(U.int .i64 (-1)),(U.int .i64 36000000)] iB.2) iB.2) aj).bind fun ig=>
        (A.guard dK false (A.not ig) aj).bind fun fC=>
        (A.pick dK br fC).bind fun ef=>
        A.cond ef (
         some (AX.ret,[aI,(v4.getD 1 U.undef),(v4.getD 2 U.undef)],iB.2)) (
         (A.az 6 2 bR).bind fun eM=>
         (Mj [eM] iB.2).bind fun iX=>
         (A.neq .i iX.1 ah).bind fun ga=>
         A.cond ga (
          some (AX.ret,[iX.1,(v4.getD 1 U.undef),(v4.getD 2 U.undef)],iX.2)) (
          (A.an 10 bR).bind fun iP=>
          (A.aT iP).bind fun gO=>
          (A.gtr gO (U.int .i64 2000)).bind fun jf=>
          A.cond jf (
           some (AX.ret,[(U.int .i64 2),(v4.getD 1 U.undef),(v4.getD 2 U.undef)],iX.2)) (
           (A.an 10 bR).bind fun gb=>
           (Mv [gb] iX.2).bind fun LK=>
           (A.neq .i LK.1 ah).bind fun iQ=>
           A.cond iQ (
            some (AX.ret,[LK.1,(v4.getD 1 U.undef),(v4.getD 2 U.undef)],LK.2)) (
            (A.an 10 bR).bind fun gH=>
            (A.aT gH).bind fun gW=>
            (A.add (v4.getD 1 U.undef) gW).bind fun dW=>
            (A.add (v4.getD 2 U.undef) aI).bind fun kT=>
            some (AX.normal,[(v4.getD 0 U.undef),dW,kT],LK.2))))))))) (
     some (AX.exit 0,[(v4.getD 0 U.undef),(v4.getD 1 U.undef),(v4.getD 2 U.undef)],s5))) [ah,ah,ah] σ).bind fun va=>
  bif va.1==AX.exit 0 then(
   (A.gtr (va.2.1.getD 1 U.undef) (U.int .i64 10000)).bind fun mE=>
   (Fy [mE,(U.int .i64 2)] va.2.2).bind fun ZO=>
   A.fin σ ZO.1 ZO.2)else
  bif va.1==AX.ret then(
   A.fin σ (va.2.1.getD 0 U.undef) va.2.2)else
  none)
noncomputable def DI:List U→Heap→Option (U×Heap):=A.wrap true [(.e 11 eZ)] .k (A.dU Od)
noncomputable def MG (a0 a1 a2:U) (σ:Heap):Option (U×Heap):=
 (A.cells 2 a0).bind fun c1=>
 (A.az 0 2 c1).bind fun x2=>
 (Mh [x2,a1] σ).bind fun r3=>
 (DI [a2] r3.2).bind fun r4=>
 ((((A.cell r3.1).bind fun v=>some [v]).bind fun c5=>(A.splice 0 c5 [ah,ah]).bind fun c6=>((A.cell r4.1).bind fun v=>some [v]).bind fun c7=>(A.splice 1 c7 c6).bind fun c8=>some c8).bind fun cs=>some (U.sl 1 (chunks 1 2 cs))).bind fun x9=>
 (I8 [x9] r4.2).bind fun iz=>
 (A.neq .i iz.1 ah).bind fun bN=>
 A.cond bN (
  A.fin σ iz.1 iz.2) (
  (A.az 0 2 c1).bind fun bC=>
  (IW [bC] iz.2).bind fun fR=>
  (A.ext 0 fR.1).bind fun bw=>
  (A.ext 1 fR.1).bind fun bU=>
  (A.aT bw).bind fun bl=>
  (A.loop (fun v17 vc=>
    (A.lss (v17.getD 0 U.undef) bl).bind fun bI=>
    A.cond bI (
     (A.aN 2 bw (v17.getD 0 U.undef)).bind fun bg=>
     ((A.deref bg vc).bind fun lK=>A.az 0 2 lK).bind fun ct=>
     (A.cells 2 ct).bind fun eH=>
     (A.splice 0 eH [ah,aW]).bind fun jq=>
     (A.az 0 2 jq).bind fun cN=>
     (A.hG (.s [0,2]) (U.om fR.2.length) cN br vc).bind fun h27=>
     (A.add (v17.getD 0 U.undef) aI).bind fun x28=>
     some (AX.normal,[x28],h27)) (
     some (AX.exit 0,[(v17.getD 0 U.undef)],vc))) [ah] (fR.2++[aV.map []])).bind fun kI=>
  bif kI.1==AX.exit 0 then(
   (A.aT a2).bind fun cO=>
   (A.loop (fun v31 nC=>
     (A.lss (v31.getD 1 U.undef) cO).bind fun x34=>
     A.cond x34 (
      (A.aN 11 a2 (v31.getD 1 U.undef)).bind fun fB=>
      ((A.deref fB nC).bind fun jF=>A.az 0 11 jF).bind fun cV=>
      (A.cells 11 cV).bind fun qh=>
      (A.splice 0 qh [ah,aW,ah,ah,ah,ah,ah,U.aH,aD,ah,U.aH]).bind fun jX=>
      (A.an 10 jX).bind fun fG=>
      (A.aT fG).bind fun fW=>
      (A.loop (fun je zR=>
        (A.lss (je.getD 1 U.undef) fW).bind fun ew=>
        A.cond ew (
         (A.aN 8 fG (je.getD 1 U.undef)).bind fun ia=>
         ((A.deref ia zR).bind fun rS=>A.az 0 8 rS).bind fun gG=>
         (A.cells 8 gG).bind fun vR=>
         (A.splice 0 vR [ah,aW,ah,ah,aD,aD,ah,ah]).bind fun kG=>
         (A.az 0 2 kG).bind fun ef=>
         (A.look (.s [0,2]) (U.om fR.2.length) ef aD zR).bind fun eM=>
         (A.not eM).bind fun kg=>
         A.cond kg (
          some (AX.ret,[(U.int .i64 8),(je.getD 1 U.undef)],zR)) (
          (A.az 0 2 kG).bind fun ga=>
          (A.az 2 2 kG).bind fun iP=>
          (Fm [a1,ga,iP] zR).bind fun zP=>
          (A.ext 0 zP.1).bind fun jf=>
          (A.ext 1 zP.1).bind fun gb=>
          (A.neq .i gb ah).bind fun jv=>
          A.cond jv (
           some (AX.ret,[gb,(je.getD 1 U.undef)],zP.2)) (
           (A.add (je.getD 1 U.undef) aI).bind fun iQ=>
           some (AX.normal,[(je.getD 0 U.undef),iQ],zP.2)))) (
         some (AX.exit 4,[(je.getD 0 U.undef),(je.getD 1 U.undef)],zR))) [(v31.getD 0 U.undef),ah] nC).bind fun mP=>
      bif mP.1==AX.exit 4 then(
       (A.add (v31.getD 1 U.undef) aI).bind fun gW=>
       some (AX.normal,[(mP.2.1.getD 0 U.undef),gW],mP.2.2))else
      bif mP.1==AX.ret then(
       some (AX.ret,[(mP.2.1.getD 0 U.undef),(v31.getD 1 U.undef)],mP.2.2))else
      none) (
      some (AX.exit 2,[(v31.getD 0 U.undef),(v31.getD 1 U.undef)],nC))) [ah,ah] kI.2.2).bind fun HW=>
   bif HW.1==AX.exit 2 then(
    A.fin σ ah HW.2.2)else
   bif HW.1==AX.ret then(
    A.fin σ (HW.2.1.getD 0 U.undef) HW.2.2)else
   none)else
  none)
noncomputable def Ff:List U→Heap→Option (U×Heap):=A.wrap true [lJ,qL,(.e 11 eZ)] .k (A.eG MG)
noncomputable def MY (a0 a1:U) (σ:Heap):Option (U×Heap):=
 (A.cells 3 a0).bind fun c1=>
 (A.an 0 c1).bind fun x2=>
 (A.bA 1 a1).bind fun x3=>
 ((A.deref x3 σ).bind fun c4=>A.an 0 c4).bind fun x5=>
 (A.eql .z x2 x5).bind fun x6=>
 A.fin σ x6 σ
noncomputable def uA:List U→Heap→Option (U×Heap):=A.wrap true [(.a [.k,.k,(.e 7 qK)])] .k (A.cM MY)
noncomputable def NJ (a0:U) (σ:Heap):Option (U×Heap):=
 (A.aT a0).bind fun x1=>
 (A.loop (fun v2 s3=>
   (A.lss (v2.getD 0 U.undef) x1).bind fun x5=>
   A.cond x5 (
    (A.aN 11 a0 (v2.getD 0 U.undef)).bind fun x6=>
    ((A.deref x6 s3).bind fun c7=>A.az 0 11 c7).bind fun x8=>
    (A.cells 11 x8).bind fun c9=>
    (A.splice 0 c9 [ah,aW,ah,ah,ah,ah,ah,U.aH,aD,ah,U.aH]).bind fun dr=>
    (A.an 10 dr).bind fun bN=>
    (A.aT bN).bind fun bC=>
    (A.loop (fun n9 zQ=>
      (A.lss (n9.getD 1 U.undef) bC).bind fun bl=>
      A.cond bl (
       (A.aN 8 bN (n9.getD 1 U.undef)).bind fun bZ=>
       ((A.deref bZ zQ).bind fun eu=>A.az 0 8 eu).bind fun cg=>
       (A.cells 8 cg).bind fun i7=>
       (A.splice 0 i7 [ah,aW,ah,ah,aD,aD,ah,ah]).bind fun iu=>
       (A.an 4 iu).bind fun bB=>
       (A.cond bB (
        (A.az 0 2 iu).bind fun x24=>
        (A.Cm (.s [0,2]) (U.om σ.length) x24 zQ).bind fun h25=>
        some ([(n9.getD 0 U.undef)],h25)) (
        (A.az 0 2 iu).bind fun cN=>
        (A.az 0 2 iu).bind fun cR=>
        (A.az 2 2 iu).bind fun x28=>
        ((A.lb (n9.getD 0 U.undef)).bind fun _=>some (0)).bind fun Sb=>
        ((A.lb (n9.getD 0 U.undef)).bind fun rQ=>A.an Sb rQ).bind fun x31=>
        (((A.cells 2 cR).bind fun vQ=>(A.splice 0 vQ [ah,aW,ah,ah,ah]).bind fun qV=>(A.cells 2 x28).bind fun tZ=>(A.splice 2 tZ qV).bind fun lE=>((A.cell x31).bind fun v=>some [v]).bind fun jF=>(A.splice 4 jF lE).bind fun uc=>some uc).bind fun cs=>some (U.agg cs)).bind fun x38=>
        (A.hG (.s [0,2]) (U.om σ.length) cN x38 zQ).bind fun h39=>
        some ([(n9.getD 0 U.undef)],h39))).bind fun kS=>
       (A.add (n9.getD 1 U.undef) aI).bind fun fG=>
       some (AX.normal,[(kS.1.getD 0 U.undef),fG],kS.2)) (
       some (AX.exit 2,[(n9.getD 0 U.undef),(n9.getD 1 U.undef)],zQ))) [(U.lbx dr),ah] s3).bind fun CX=>
    bif CX.1==AX.exit 2 then(
     (A.add (v2.getD 0 U.undef) aI).bind fun fZ=>
     some (AX.normal,[fZ],CX.2.2))else
    none) (
    some (AX.exit 0,[(v2.getD 0 U.undef)],s3))) [ah] (σ++[aV.map []])).bind fun Bg=>
 bif Bg.1==AX.exit 0 then(
  A.fin σ (U.om σ.length) Bg.2.2)else
 none
noncomputable def Dz:List U→Heap→Option (U×Heap):=A.wrap true [(.e 11 eZ)] .k (A.dU NJ)
noncomputable def Mx (a0 a1:U) (σ:Heap):Option (U×Heap):=
 (A.cells 3 a0).bind fun c1=>
 (A.an 0 c1).bind fun x2=>
 (A.bA 1 a1).bind fun x3=>
 ((A.deref x3 σ).bind fun c4=>A.an 0 c4).bind fun x5=>
 (A.eql .z x2 x5).bind fun x6=>
 A.fin σ x6 σ
noncomputable def zV:List U→Heap→Option (U×Heap):=A.wrap true [(.a [.k,.k,(.e 7 qK)])] .k (A.cM Mx)
noncomputable def Jc (a0 a1 a2:U) (σ:Heap):Option (U×Heap):=
 (A.cells 2 a0).bind fun c1=>
 (A.an 1 c1).bind fun x2=>
 (A.aT x2).bind fun x3=>
 (A.loop (fun v4 s5=>
   (A.lss (v4.getD 2 U.undef) x3).bind fun x7=>
   A.cond x7 (
    (A.aN 4 x2 (v4.getD 2 U.undef)).bind fun x8=>
    ((A.deref x8 s5).bind fun c9=>A.az 0 4 c9).bind fun bf=>
    (A.cells 4 bf).bind fun dw=>
    (A.storeAt (U.op s5.length 0) dw (s5++[aV.box [ah,aW,ah,ah]])).bind fun bR=>
    ((A.lb (v4.getD 0 U.undef)).bind fun _=>some (0)).bind fun HS=>
    ((A.lb (v4.getD 0 U.undef)).bind fun gh=>A.an HS gh).bind fun bU=>
    (yp (A.tab (fun _ _=>none) [(226,zV),(226,zV)]) [bU,(U.fn 226 [(U.op s5.length 0)])] bR).bind fun u0=>
    ((A.lb (v4.getD 0 U.undef)).bind fun _=>some (0)).bind fun p17=>
    ((A.lb (v4.getD 0 U.undef)).bind fun eu=>A.an p17 eu).bind fun cg=>
    (A.aN 3 cg u0.1).bind fun bI=>
    (A.bA 2 bI).bind fun bg=>
    ((A.deref bg u0.2).bind fun lK=>A.an 0 lK).bind fun ct=>
    (A.aT ct).bind fun x24=>
    (A.loop (fun v25 wq=>
      (A.lss (v25.getD 2 U.undef) x24).bind fun x28=>
      A.cond x28 (
       (A.aN 7 ct (v25.getD 2 U.undef)).bind fun x29=>
       ((A.deref x29 wq).bind fun rQ=>A.az 0 7 rQ).bind fun x31=>
       (A.cells 7 x31).bind fun vQ=>
       (A.splice 0 vQ [aW,ah,ah,ah,ah,aD,U.aH]).bind fun qV=>
       (A.bA 0 (U.op s5.length 0)).bind fun x34=>
       ((A.deref x34 wq).bind fun lE=>A.an 0 lE).bind fun jG=>
       (A.an 0 qV).bind fun cV=>
       ((((A.cell jG).bind fun v=>some [v]).bind fun qh=>(A.splice 0 qh [ah,aW]).bind fun jX=>((A.cell cV).bind fun v=>some [v]).bind fun l7=>(A.splice 1 l7 jX).bind fun nw=>some nw).bind fun cs=>some (U.agg cs)).bind fun fZ=>
       (A.cells 2 fZ).bind fun mw=>
       (A.splice 0 mw [ah,aW]).bind fun qW=>
       (A.an 4 qV).bind fun ew=>
       (A.az 0 2 qW).bind fun ia=>
       (A.Eg (.s [0,2]) a2 ia (U.agg [ah,aW,ah,ah,ah]) wq).bind fun dK=>
       (A.ext 0 dK).bind fun gG=>
       (A.ext 1 dK).bind fun ig=>
       (A.cells 5 gG).bind fun kG=>
       (A.splice 0 kG [ah,aW,ah,ah,ah]).bind fun Cx=>
       (A.cond ig (
        (A.az 0 2 qW).bind fun kg=>
        (A.az 2 2 Cx).bind fun ga=>
        (Fm [a1,kg,ga] wq).bind fun wk=>
        (A.ext 0 wk.1).bind fun gO=>
        (A.ext 1 wk.1).bind fun jf=>
        some ([(v25.getD 0 U.undef),(U.lbx qW),gO],wk.2)) (
        some ([(v25.getD 0 U.undef),(U.lbx qW),ew],wq))).bind fun Bh=>
       ((A.lb (Bh.1.getD 1 U.undef)).bind fun uX=>A.az 0 2 uX).bind fun jv=>
       (((A.cells 2 jv).bind fun CB=>(A.splice 0 CB [ah,aW,ah]).bind fun G6=>((A.cell (Bh.1.getD 2 U.undef)).bind fun v=>some [v]).bind fun G7=>(A.splice 2 G7 G6).bind fun zq=>some zq).bind fun cs=>some (U.agg cs)).bind fun kT=>
       (((A.cells 3 kT).bind fun CC=>(A.splice 0 CC [ah,aW,ah]).bind fun oK=>some oK).bind fun cs=>some (U.sl 3 (chunks 3 1 cs))).bind fun gX=>
       (A.append 3 (140737488355328 / 32) (v25.getD 1 U.undef) gX Bh.2).bind fun yh=>
       (A.add (v25.getD 2 U.undef) aI).bind fun jg=>
       some (AX.normal,[(Bh.1.getD 0 U.undef),yh.1,jg],yh.2)) (
       some (AX.exit 2,[(v25.getD 0 U.undef),(v25.getD 1 U.undef),(v25.getD 2 U.undef)],wq))) [(v4.getD 0 U.undef),(v4.getD 1 U.undef),ah] u0.2).bind fun CY=>
    bif CY.1==AX.exit 2 then(
     (A.add (v4.getD 2 U.undef) aI).bind fun uw=>
     some (AX.normal,[(CY.2.1.getD 0 U.undef),(CY.2.1.getD 1 U.undef),uw],CY.2.2))else
    none) (
    some (AX.exit 0,[(v4.getD 0 U.undef),(v4.getD 1 U.undef),(v4.getD 2 U.undef)],s5))) [(U.lbx c1),U.aH,ah] σ).bind fun EX=>
 bif EX.1==AX.exit 0 then(
  A.fin σ (EX.2.1.getD 1 U.undef) EX.2.2)else
 none
noncomputable def Du:List U→Heap→Option (U×Heap):=A.wrap true [lJ,qL] (.s 3) (A.eG Jc)
noncomputable def JS (a0 a1 a2:U) (σ:Heap):Option (U×Heap):=
 (A.cells 2 a0).bind fun c1=>
 ((((A.cell (U.om σ.length)).bind fun v=>some [v]).bind fun c2=>(A.splice 0 c2 [U.nm,U.aH,U.nm]).bind fun c3=>((A.cell (U.om (σ++[aV.map []]).length)).bind fun v=>some [v]).bind fun c4=>(A.splice 2 c4 c3).bind fun c5=>some c5).bind fun cs=>some (U.agg cs)).bind fun x6=>
 (A.cells 3 x6).bind fun c7=>
 (A.an 1 c1).bind fun x8=>
 (A.aT x8).bind fun x9=>
 (A.loop (fun v10 gL=>
   (A.lss (v10.getD 1 U.undef) x9).bind fun bF=>
   A.cond bF (
    (A.aN 4 x8 (v10.getD 1 U.undef)).bind fun bw=>
    ((A.deref bw gL).bind fun fV=>A.az 0 4 fV).bind fun bl=>
    (A.cells 4 bl).bind fun iN=>
    (A.storeAt (U.op gL.length 0) iN (gL++[aV.box [ah,aW,ah,ah]])).bind fun eu=>
    ((A.lb (v10.getD 0 U.undef)).bind fun _=>some (0)).bind fun CV=>
    ((A.lb (v10.getD 0 U.undef)).bind fun i7=>A.an CV i7).bind fun bg=>
    (yp (A.tab (fun _ _=>none) [(225,uA),(225,uA)]) [bg,(U.fn 225 [(U.op gL.length 0)])] eu).bind fun uo=>
    ((A.lb (v10.getD 0 U.undef)).bind fun _=>some (0)).bind fun HT=>
    ((A.lb (v10.getD 0 U.undef)).bind fun eH=>A.an HT eH).bind fun x25=>
    (A.aN 3 x25 uo.1).bind fun cN=>
    (A.bA 2 cN).bind fun cR=>
    ((A.deref cR uo.2).bind fun mu=>A.an 0 mu).bind fun x29=>
    (A.aT x29).bind fun cO=>
    (A.loop (fun v31 nC=>
      (A.lss (v31.getD 1 U.undef) cO).bind fun x34=>
      A.cond x34 (
       (A.aN 7 x29 (v31.getD 1 U.undef)).bind fun fB=>
       ((A.deref fB nC).bind fun jF=>A.az 0 7 jF).bind fun cV=>
       (A.cells 7 cV).bind fun qh=>
       (A.splice 0 qh [aW,ah,ah,ah,ah,aD,U.aH]).bind fun jX=>
       (A.bA 0 (U.op gL.length 0)).bind fun fG=>
       ((A.deref fG nC).bind fun nw=>A.an 0 nw).bind fun fZ=>
       (A.an 0 jX).bind fun fM=>
       ((((A.cell fZ).bind fun v=>some [v]).bind fun qW=>(A.splice 0 qW [ah,aW]).bind fun rR=>((A.cell fM).bind fun v=>some [v]).bind fun qj=>(A.splice 1 qj rR).bind fun rS=>some rS).bind fun cs=>some (U.agg cs)).bind fun gG=>
       (A.cells 2 gG).bind fun vR=>
       (A.splice 0 vR [ah,aW]).bind fun kG=>
       (A.gZ (U.op ((σ++[aV.map []])++[aV.map []]).length 0)).bind fun ef=>
       (A.bA 0 ef).bind fun eM=>
       ((A.deref eM nC).bind fun Cz=>A.an 0 Cz).bind fun ga=>
       (A.az 0 2 kG).bind fun iP=>
       (A.an 1 jX).bind fun gO=>
       (A.hG (.s [0,2]) ga iP gO nC).bind fun mA=>
       (A.an 1 jX).bind fun gb=>
       (A.eql .i gb aI).bind fun jv=>
       (A.cond jv (
        (A.gZ (U.op ((σ++[aV.map []])++[aV.map []]).length 0)).bind fun gH=>
        (A.bA 2 gH).bind fun gW=>
        ((A.deref gW mA).bind fun zq=>A.an 0 zq).bind fun kT=>
        (A.bA 0 (U.op gL.length 0)).bind fun fH=>
        ((A.deref fH mA).bind fun oK=>A.an 0 oK).bind fun gX=>
        (A.gZ (U.op ((σ++[aV.map []])++[aV.map []]).length 0)).bind fun kj=>
        (A.bA 2 kj).bind fun jg=>
        ((A.deref jg mA).bind fun CD=>A.an 0 CD).bind fun uw=>
        (A.bA 0 (U.op gL.length 0)).bind fun kV=>
        ((A.deref kV mA).bind fun zw=>A.an 0 zw).bind fun gY=>
        (A.look .i uw gY U.aH mA).bind fun gP=>
        (A.az 0 2 kG).bind fun gI=>
        (((A.cells 2 gI).bind fun nA=>(A.splice 0 nA [ah,aW]).bind fun ud=>some ud).bind fun cs=>some (U.sl 2 (chunks 2 1 cs))).bind fun lP=>
        (A.append 2 (140737488355328 / 24) gP lP mA).bind fun jd=>
        (A.hG .i kT gX jd.1 jd.2).bind fun Hl=>
        some ([(v31.getD 0 U.undef)],Hl)) (
        some ([(v31.getD 0 U.undef)],mA))).bind fun sS=>
       (A.add (v31.getD 1 U.undef) aI).bind fun nD=>
       some (AX.normal,[(sS.1.getD 0 U.undef),nD],sS.2)) (
       some (AX.exit 2,[(v31.getD 0 U.undef),(v31.getD 1 U.undef)],nC))) [(v10.getD 0 U.undef),ah] uo.2).bind fun uq=>
    bif uq.1==AX.exit 2 then(
     (A.add (v10.getD 1 U.undef) aI).bind fun sX=>
     some (AX.normal,[(uq.2.1.getD 0 U.undef),sX],uq.2.2))else
    none) (
    some (AX.exit 0,[(v10.getD 0 U.undef),(v10.getD 1 U.undef)],gL))) [(U.lbx c1),ah] (((σ++[aV.map []])++[aV.map []])++[aV.box c7])).bind fun Sp=>
 bif Sp.1==AX.exit 0 then(
  (A.aT a2).bind fun oS=>
  (A.loop (fun v87 oP=>
    (A.lss (v87.getD 1 U.undef) oS).bind fun x90=>
    A.cond x90 (
     ((A.lb (v87.getD 0 U.undef)).bind fun zy=>A.az 0 2 zy).bind fun wC=>
     (A.add (v87.getD 1 U.undef) aI).bind fun x93=>
     (A.bG 11 a2 none (some x93) (oP++[aV.map []])).bind fun ux=>
     (A.quiet (Dz [ux] (oP++[aV.map []])) (oP++[aV.map []])).bind fun x95=>
     (A.quiet (Du [wC,a1,x95] (oP++[aV.map []])) (oP++[aV.map []])).bind fun x96=>
     (A.aT x96).bind fun SG=>
     (A.loop (fun oc wv=>
       (A.lss (oc.getD 1 U.undef) SG).bind fun x101=>
       A.cond x101 (
        (A.aN 3 x96 (oc.getD 1 U.undef)).bind fun x102=>
        ((A.deref x102 wv).bind fun yU=>A.az 0 3 yU).bind fun x104=>
        (A.cells 3 x104).bind fun p6=>
        (A.splice 0 p6 [ah,aW,ah]).bind fun vD=>
        (A.az 0 2 vD).bind fun xR=>
        (A.an 2 vD).bind fun xS=>
        (A.hG (.s [0,2]) (U.om oP.length) xR xS wv).bind fun GH=>
        (A.add (oc.getD 1 U.undef) aI).bind fun lI=>
        some (AX.normal,[(oc.getD 0 U.undef),lI],GH)) (
        some (AX.exit 6,[(oc.getD 0 U.undef),(oc.getD 1 U.undef)],wv))) [(v87.getD 0 U.undef),ah] (oP++[aV.map []])).bind fun zj=>
     bif zj.1==AX.exit 6 then(
      (A.gZ (U.op ((σ++[aV.map []])++[aV.map []]).length 0)).bind fun x112=>
      (A.bA 1 x112).bind fun x113=>
      ((A.deref x113 zj.2.2).bind fun QI=>A.an 0 QI).bind fun x115=>
      ((((A.cell (U.om oP.length)).bind fun v=>some [v]).bind fun Gw=>(A.splice 0 Gw [U.nm]).bind fun rE=>some rE).bind fun cs=>some (U.sl 1 (chunks 1 1 cs))).bind fun rK=>
      (A.append 1 (140737488355328 / 8) x115 rK zj.2.2).bind fun GV=>
      (A.gZ (U.op ((σ++[aV.map []])++[aV.map []]).length 0)).bind fun GY=>
      (A.bA 1 GY).bind fun rM=>
      ((A.cell GV.1).bind fun v=>some [v]).bind fun QJ=>
      (A.storeAt rM QJ GV.2).bind fun QK=>
      (A.add (v87.getD 1 U.undef) aI).bind fun tW=>
      some (AX.normal,[(zj.2.1.getD 0 U.undef),tW],QK))else
     none) (
     some (AX.exit 4,[(v87.getD 0 U.undef),(v87.getD 1 U.undef)],oP))) [(Sp.2.1.getD 0 U.undef),ah] Sp.2.2).bind fun YY=>
  bif YY.1==AX.exit 4 then(
   A.fin σ (U.op ((σ++[aV.map []])++[aV.map []]).length 0) YY.2.2)else
  none)else
 none
noncomputable def FL:List U→Heap→Option (U×Heap):=A.wrap true [lJ,qL,(.e 11 eZ)] .k (A.eG JS)
noncomputable def Mg (a0 a1 a2:U) (σ:Heap):Option (U×Heap):=
 (A.cells 2 a0).bind fun c1=>
 ((A.deref a1 σ).bind fun c2=>A.an 0 c2).bind fun x3=>
 (A.gZ x3).bind fun x4=>
 (A.bA 1 x4).bind fun x5=>
 ((A.deref x5 σ).bind fun c6=>A.an 0 c6).bind fun x7=>
 ((A.deref a2 σ).bind fun c8=>A.an 0 c8).bind fun x9=>
 (A.aN 1 x7 x9).bind fun bf=>
 ((A.deref bf σ).bind fun dw=>A.an 0 dw).bind fun bC=>
 (A.az 0 2 c1).bind fun bF=>
 (A.look (.s [0,2]) bC bF ah σ).bind fun bw=>
 (A.gtr bw ah).bind fun bU=>
 A.fin σ bU σ
noncomputable def uz:List U→Heap→Option (U×Heap):=A.wrap true [] .k (A.eG Mg)
noncomputable def IT (a0 a1 a2:U) (σ:Heap):Option (U×Heap):=
 (((A.cell a0).bind fun v=>some [v]).bind fun cs=>some (U.rp cs)).bind fun x1=>
 (((A.cell a2).bind fun v=>some [v]).bind fun cs=>some (U.rp cs)).bind fun x2=>
 ((A.deref x1 σ).bind fun c3=>A.an 0 c3).bind fun x4=>
 (A.gZ x4).bind fun x5=>
 (A.bA 2 x5).bind fun x6=>
 ((A.deref x6 σ).bind fun c7=>A.an 0 c7).bind fun x8=>
 (A.look .i x8 a1 U.aH σ).bind fun x9=>
 (A.aT x9).bind fun bf=>
 (A.gtr bf ah).bind fun bN=>
 (A.guard bN true (some x9) aj).bind fun bC=>
 (A.guard bN true (some (U.fn 229 [x1,x2])) aj).bind fun bF=>
 (A.guard bN true (A.quiet (Is (A.tab (fun _ _=>none) [(229,uz),(229,uz)]) [bC,bF] σ) σ) aj).bind fun bw=>
 (A.guard bN true (A.not bw) aj).bind fun bU=>
 (A.pick bN bU aD).bind fun bl=>
 A.fin σ bl σ
noncomputable def sY:List U→Heap→Option (U×Heap):=A.wrap true [] .k (A.eG IT)
noncomputable def IQ (a0 a1 a2:U) (σ:Heap):Option (U×Heap):=
 (A.cells 11 a1).bind fun c1=>
 (A.an 10 c1).bind fun x2=>
 (A.aT x2).bind fun x3=>
 (A.loop (fun v4 s5=>
   (A.lss (v4.getD 1 U.undef) x3).bind fun x7=>
   A.cond x7 (
    (A.aN 8 x2 (v4.getD 1 U.undef)).bind fun x8=>
    ((A.deref x8 s5).bind fun c9=>A.az 0 8 c9).bind fun bf=>
    (A.cells 8 bf).bind fun dw=>
    (A.splice 0 dw [ah,aW,ah,ah,aD,aD,ah,ah]).bind fun bR=>
    (A.an 0 bR).bind fun bF=>
    (A.eql .i bF a2).bind fun bw=>
    (A.guard bw true (some a0) aj).bind fun bU=>
    (A.guard bw true (A.gZ bU) aj).bind fun bl=>
    (A.guard bw true (A.bA 0 bl) aj).bind fun bZ=>
    (A.guard bw true ((A.deref bZ s5).bind fun eu=>A.an 0 eu) aj).bind fun cg=>
    (A.guard bw true (A.az 0 2 bR) aj).bind fun bI=>
    (A.guard bw true (A.look (.s [0,2]) cg bI ah s5) aj).bind fun bg=>
    (A.guard bw true (A.neq .i bg aI) aj).bind fun bB=>
    (A.pick bw bB aD).bind fun ct=>
    (A.cond ct (
     (A.az 0 8 bR).bind fun x25=>
     (((A.cells 8 x25).bind fun jE=>(A.splice 0 jE [ah,aW,ah,ah,aD,aD,ah,ah]).bind fun l6=>some l6).bind fun cs=>some (U.sl 8 (chunks 8 1 cs))).bind fun x28=>
     (A.append 8 (140737488355328 / 64) (v4.getD 0 U.undef) x28 s5).bind fun kI=>
     some ([kI.1],kI.2)) (
     some ([(v4.getD 0 U.undef)],s5))).bind fun gr=>
    (A.add (v4.getD 1 U.undef) aI).bind fun cO=>
    some (AX.normal,[(gr.1.getD 0 U.undef),cO],gr.2)) (
    some (AX.exit 0,[(v4.getD 0 U.undef),(v4.getD 1 U.undef)],s5))) [U.aH,ah] σ).bind fun dQ=>
 bif dQ.1==AX.exit 0 then(
  some ((dQ.2.1.getD 0 U.undef),dQ.2.2))else
 none
noncomputable def rA:List U→Heap→Option (U×Heap):=A.wrap true [.k,(.a eZ)] .k (A.eG IQ)
noncomputable def Mc (a0 a1 a2:U) (σ:Heap):Option (U×Heap):=
 (A.cells 8 a0).bind fun c1=>
 ((A.deref a1 σ).bind fun c2=>A.an 0 c2).bind fun x3=>
 (A.gZ x3).bind fun x4=>
 (A.bA 1 x4).bind fun x5=>
 ((A.deref x5 σ).bind fun c6=>A.an 0 c6).bind fun x7=>
 ((A.deref a2 σ).bind fun c8=>A.an 0 c8).bind fun x9=>
 (A.aN 1 x7 x9).bind fun bf=>
 ((A.deref bf σ).bind fun dw=>A.an 0 dw).bind fun bC=>
 (A.az 0 2 c1).bind fun bF=>
 (A.look (.s [0,2]) bC bF ah σ).bind fun bw=>
 ((A.deref a1 σ).bind fun fV=>A.an 0 fV).bind fun bl=>
 (A.gZ bl).bind fun bZ=>
 (A.bA 1 bZ).bind fun cU=>
 ((A.deref cU σ).bind fun kP=>A.an 0 kP).bind fun bI=>
 ((A.deref a2 σ).bind fun iu=>A.an 0 iu).bind fun bB=>
 (A.sub bB aI).bind fun ct=>
 (A.aN 1 bI ct).bind fun x24=>
 ((A.deref x24 σ).bind fun jq=>A.an 0 jq).bind fun cN=>
 (A.az 0 2 c1).bind fun cR=>
 (A.look (.s [0,2]) cN cR ah σ).bind fun x28=>
 (A.neq .i bw x28).bind fun x29=>
 A.fin σ x29 σ
noncomputable def uy:List U→Heap→Option (U×Heap):=A.wrap true [] .k (A.eG Mc)
noncomputable def IP (a0 a1 a2:U) (σ:Heap):Option (U×Heap):=
 (((A.cell a0).bind fun v=>some [v]).bind fun cs=>some (U.rp cs)).bind fun x1=>
 (A.cells 2 a1).bind fun c2=>
 ((A.cell aI).bind fun v=>some [v]).bind fun c3=>
 (A.storeAt (U.op σ.length 0) c3 (σ++[aV.box [ah]])).bind fun c4=>
 (A.loop (fun v5 s6=>
   ((A.deref (v5.getD 2 U.undef) s6).bind fun c8=>A.an 0 c8).bind fun x9=>
   (A.aT a2).bind fun bf=>
   (A.lss x9 bf).bind fun bN=>
   A.cond bN (
    ((A.lb (v5.getD 0 U.undef)).bind fun _=>some (1)).bind fun p12=>
    ((A.lb (v5.getD 0 U.undef)).bind fun ep=>A.an p12 ep).bind fun bw=>
    (A.aT bw).bind fun bU=>
    (A.loop (fun cC gE=>
      (A.lss (cC.getD 2 U.undef) bU).bind fun cg=>
      A.cond cg (
       (A.aN 4 bw (cC.getD 2 U.undef)).bind fun bI=>
       ((A.deref bI gE).bind fun iu=>A.az 0 4 iu).bind fun bB=>
       (A.cells 4 bB).bind fun iV=>
       (A.splice 0 iV [ah,aW,ah,ah]).bind fun eH=>
       (A.an 0 eH).bind fun x25=>
       ((A.deref x1 gE).bind fun jE=>A.an 0 jE).bind fun cR=>
       ((A.deref (v5.getD 2 U.undef) gE).bind fun mu=>A.an 0 mu).bind fun x29=>
       (A.sub x29 aI).bind fun cO=>
       (sY [cR,x25,cO] gE).bind fun dQ=>
       (A.not dQ.1).bind fun x32=>
       (A.guard x32 false ((A.deref x1 dQ.2).bind fun qV=>A.an 0 qV) aj).bind fun x34=>
       (A.guard x32 false (some x25) aj).bind fun fB=>
       (A.guard x32 false ((A.deref (v5.getD 2 U.undef) dQ.2).bind fun jF=>A.an 0 jF) aj).bind fun cV=>
       (A.guard x32 false (A.quiet (sY [x34,fB,cV] dQ.2) dQ.2) aj).bind fun x38=>
       (A.pick x32 br x38).bind fun gy=>
       A.cond gy (
        (A.add (cC.getD 2 U.undef) aI).bind fun fG=>
        some (AX.normal,[(cC.getD 0 U.undef),(cC.getD 1 U.undef),fG],dQ.2)) (
        ((A.deref x1 dQ.2).bind fun nw=>A.an 0 nw).bind fun fZ=>
        ((A.deref (v5.getD 2 U.undef) dQ.2).bind fun mw=>A.an 0 mw).bind fun dH=>
        (A.aN 11 a2 dH).bind fun ew=>
        ((A.deref ew dQ.2).bind fun qj=>A.az 0 11 qj).bind fun dK=>
        (A.quiet ((A.ij (.s 8) rA) [fZ,dK,x25] dQ.2) dQ.2).bind fun gG=>
        (A.quiet (E3 (A.tab (fun _ _=>none) [(234,uy),(234,uy)]) [gG,(U.fn 234 [x1,(v5.getD 2 U.undef)])] dQ.2) dQ.2).bind fun ig=>
        (A.not ig).bind fun fC=>
        A.cond fC (
         (A.add (cC.getD 2 U.undef) aI).bind fun ef=>
         some (AX.normal,[(cC.getD 0 U.undef),(cC.getD 1 U.undef),ef],dQ.2)) (
         ((A.deref (v5.getD 2 U.undef) dQ.2).bind fun Cy=>A.an 0 Cy).bind fun kg=>
         (A.sub kg aI).bind fun ga=>
         (A.loop (fun v55 fF=>
           (A.gtr (v55.getD 1 U.undef) ah).bind fun gb=>
           (A.guard gb true ((A.deref x1 fF).bind fun mz=>A.an 0 mz) aj).bind fun iQ=>
           (A.guard gb true (some x25) aj).bind fun gH=>
           (A.guard gb true (some (v55.getD 1 U.undef)) aj).bind fun gW=>
           (A.guard gb true (A.sub gW aI) aj).bind fun dW=>
           (A.guard gb true (A.quiet (sY [iQ,gH,dW] fF) fF) aj).bind fun kT=>
           (A.pick gb kT aD).bind fun fH=>
           (A.guard fH true ((A.deref x1 fF).bind fun oK=>A.an 0 oK) aj).bind fun gX=>
           (A.guard fH true (some a2) aj).bind fun kj=>
           (A.guard fH true (some (v55.getD 1 U.undef)) aj).bind fun jg=>
           (A.guard fH true (A.aN 11 kj jg) aj).bind fun kU=>
           (A.guard fH true ((A.deref kU fF).bind fun kQ=>A.az 0 11 kQ) aj).bind fun kV=>
           (A.guard fH true (some x25) aj).bind fun kn=>
           (A.guard fH true (A.quiet ((A.ij (.s 8) rA) [gX,kV,kn] fF) fF) aj).bind fun gY=>
           (A.guard fH true (A.aT gY) aj).bind fun gP=>
           (A.guard fH true (A.eql .i gP ah) aj).bind fun gI=>
           (A.pick fH gI aD).bind fun qz=>
           A.cond qz (
            (A.sub (v55.getD 1 U.undef) aI).bind fun qA=>
            some (AX.normal,[(v55.getD 0 U.undef),qA],fF)) (
            some (AX.exit 4,[(v55.getD 0 U.undef),(v55.getD 1 U.undef)],fF))) [(cC.getD 0 U.undef),ga] dQ.2).bind fun rX=>
         bif rX.1==AX.exit 4 then(
          (A.aN 11 a2 (rX.2.1.getD 1 U.undef)).bind fun sj=>
          (A.bA 0 sj).bind fun oR=>
          ((A.deref oR rX.2.2).bind fun zx=>A.an 0 zx).bind fun nE=>
          ((A.deref (v5.getD 2 U.undef) rX.2.2).bind fun ue=>A.an 0 ue).bind fun qB=>
          (A.aN 11 a2 qB).bind fun oS=>
          (A.bA 0 oS).bind fun ko=>
          ((A.deref ko rX.2.2).bind fun CF=>A.an 0 CF).bind fun sk=>
          ((((A.cell x25).bind fun v=>some [v]).bind fun Rz=>(A.splice 0 Rz [ah,ah,ah]).bind fun zy=>((A.cell nE).bind fun v=>some [v]).bind fun RA=>(A.splice 1 RA zy).bind fun RB=>((A.cell sk).bind fun v=>some [v]).bind fun G9=>(A.splice 2 G9 RB).bind fun He=>some He).bind fun cs=>some (U.agg cs)).bind fun x96=>
          (((A.cells 3 x96).bind fun CG=>(A.splice 0 CG [ah,ah,ah]).bind fun vS=>some vS).bind fun cs=>some (U.sl 3 (chunks 3 1 cs))).bind fun x99=>
          (A.append 3 (140737488355328 / 24) (cC.getD 1 U.undef) x99 rX.2.2).bind fun tT=>
          (A.add (cC.getD 2 U.undef) aI).bind fun x101=>
          some (AX.normal,[(rX.2.1.getD 0 U.undef),tT.1,x101],tT.2))else
         none))) (
       some (AX.exit 2,[(cC.getD 0 U.undef),(cC.getD 1 U.undef),(cC.getD 2 U.undef)],gE))) [(v5.getD 0 U.undef),(v5.getD 1 U.undef),ah] s6).bind fun zi=>
    bif zi.1==AX.exit 2 then(
     ((A.deref (v5.getD 2 U.undef) zi.2.2).bind fun yU=>A.an 0 yU).bind fun x104=>
     ((A.cell x104).bind fun v=>some [v]).bind fun p6=>
     (A.storeAt (U.op zi.2.2.length 0) p6 (zi.2.2++[aV.box [ah]])).bind fun vD=>
     ((A.deref (U.op zi.2.2.length 0) vD).bind fun akd=>A.an 0 akd).bind fun xS=>
     (A.add xS aI).bind fun tV=>
     ((A.cell tV).bind fun v=>some [v]).bind fun ake=>
     (A.storeAt (U.op zi.2.2.length 0) ake vD).bind fun akf=>
     some (AX.normal,[(zi.2.1.getD 0 U.undef),(zi.2.1.getD 1 U.undef),(U.op zi.2.2.length 0)],akf))else
    none) (
    some (AX.exit 0,[(v5.getD 0 U.undef),(v5.getD 1 U.undef),(v5.getD 2 U.undef)],s6))) [(U.lbx c2),U.aH,(U.op σ.length 0)] c4).bind fun Rc=>
 bif Rc.1==AX.exit 0 then(
  A.fin σ (Rc.2.1.getD 1 U.undef) Rc.2.2)else
 none
noncomputable def Fb:List U→Heap→Option (U×Heap):=A.wrap true [.k,lJ,(.e 11 eZ)] (.s 3) (A.eG IP)
noncomputable def NI (a0 a1 a2:U) (σ:Heap):Option (U×Heap):=
 (A.cells 2 a0).bind fun c1=>
 (A.az 0 2 c1).bind fun x2=>
 (Ff [x2,a1,a2] σ).bind fun r3=>
 (A.neq .i r3.1 ah).bind fun x4=>
 A.cond x4 (
  A.fin σ (U.aL [U.aH,r3.1]) r3.2) (
  (A.az 0 2 c1).bind fun x5=>
  (A.quiet (FL [x5,a1,a2] r3.2) r3.2).bind fun x6=>
  (A.az 0 2 c1).bind fun x7=>
  (A.quiet (Fb [x6,x7,a2] r3.2) r3.2).bind fun x8=>
  A.fin σ (U.aL [x8,ah]) r3.2)
noncomputable def Nx:List U→Heap→Option (U×Heap):=A.wrap true [lJ,qL,(.e 11 eZ)] (.t [(.s 3),.k]) (A.eG NI)
noncomputable def Jb (a0:U) (σ:Heap):Option (U×Heap):=
 (A.aT a0).bind fun x1=>
 (A.loop (fun v2 s3=>
   (A.lss (v2.getD 1 U.undef) x1).bind fun x5=>
   A.cond x5 (
    (A.aN 11 a0 (v2.getD 1 U.undef)).bind fun x6=>
    ((A.deref x6 s3).bind fun c7=>A.az 0 11 c7).bind fun x8=>
    (A.cells 11 x8).bind fun c9=>
    (A.splice 0 c9 [ah,aW,ah,ah,ah,ah,ah,U.aH,aD,ah,U.aH]).bind fun dr=>
    (A.an 7 dr).bind fun bN=>
    (C9 [bN] s3).bind fun pS=>
    ((A.cell pS.1).bind fun v=>some [v]).bind fun ep=>
    (A.splice 7 ep dr).bind fun gh=>
    (A.an 10 gh).bind fun bU=>
    (Dc [bU] pS.2).bind fun u0=>
    ((A.cell u0.1).bind fun v=>some [v]).bind fun iN=>
    (A.splice 10 iN gh).bind fun eu=>
    (A.az 0 11 eu).bind fun cg=>
    (((A.cells 11 cg).bind fun i7=>(A.splice 0 i7 [ah,aW,ah,ah,ah,ah,ah,U.aH,aD,ah,U.aH]).bind fun iu=>some iu).bind fun cs=>some (U.sl 11 (chunks 11 1 cs))).bind fun bB=>
    (A.append 11 (140737488355328 / 128) (v2.getD 0 U.undef) bB u0.2).bind fun kS=>
    (A.add (v2.getD 1 U.undef) aI).bind fun x24=>
    some (AX.normal,[kS.1,x24],kS.2)) (
    some (AX.exit 0,[(v2.getD 0 U.undef),(v2.getD 1 U.undef)],s3))) [U.aH,ah] σ).bind fun jN=>
 bif jN.1==AX.exit 0 then(
  some ((jN.2.1.getD 0 U.undef),jN.2.2))else
 none
noncomputable def I7:List U→Heap→Option (U×Heap):=A.wrap true [(.e 11 eZ)] .k (A.dU Jb)
noncomputable def MH (a0 a1:U) (σ:Heap):Option (U×Heap):=
 (A.cells 11 a0).bind fun c1=>
 (A.an 0 c1).bind fun x2=>
 (A.sub x2 a1).bind fun x3=>
 A.fin σ x3 σ
noncomputable def Bq:List U→Heap→Option (U×Heap):=A.wrap true [(.a eZ)] .k (A.cM MH)
noncomputable def Jr (a0 a1:U) (σ:Heap):Option (U×Heap):=
 (C6 (A.tab (fun _ _=>none) [(177,Bq)]) [a0,a1,(U.fn 177 [])] σ).bind fun r1=>
 (A.ext 0 r1.1).bind fun x2=>
 (A.ext 1 r1.1).bind fun x3=>
 A.fin σ (U.aL [x2,x3]) r1.2
noncomputable def Bw:List U→Heap→Option (U×Heap):=A.wrap true [(.e 11 eZ)] .k (A.cM Jr)
noncomputable def My (a0 a1:U) (σ:Heap):Option (U×Heap):=
 (A.cells 8 a0).bind fun c1=>
 (A.cells 2 a1).bind fun c2=>
 (A.az 0 2 c1).bind fun x3=>
 (A.az 0 2 c2).bind fun x4=>
 (I1 [x3,x4] σ).bind fun r5=>
 A.fin σ r5.1 r5.2
noncomputable def Fe:List U→Heap→Option (U×Heap):=A.wrap true [] .k (A.cM My)
noncomputable def Jd (a0 a1:U) (σ:Heap):Option (U×Heap):=
 (A.cells 11 a0).bind fun c1=>
 (A.cells 2 a1).bind fun c2=>
 (A.an 10 c1).bind fun x3=>
 (A.az 0 2 c2).bind fun x4=>
 (Io (A.tab (fun _ _=>none) [(185,Fe)]) [x3,x4,(U.fn 185 [])] σ).bind fun r5=>
 (A.ext 0 r5.1).bind fun x6=>
 (A.ext 1 r5.1).bind fun x7=>
 A.fin σ (U.aL [x6,x7]) r5.2
noncomputable def Aa:List U→Heap→Option (U×Heap):=A.wrap true [(.a eZ)] .k (A.cM Jd)
noncomputable def FM (a0 a1:U) (σ:Heap):Option (U×Heap):=
 (A.cells 8 a1).bind fun c1=>
 (A.gZ a0).bind fun x2=>
 ((A.deref x2 σ).bind fun c3=>A.az 0 11 c3).bind fun x4=>
 (A.az 0 2 c1).bind fun x5=>
 (A.quiet (Aa [x4,x5] σ) σ).bind fun x6=>
 (A.ext 0 x6).bind fun x7=>
 (A.ext 1 x6).bind fun x8=>
 A.cond x8 (
  (A.gZ a0).bind fun x9=>
  (A.bA 10 x9).bind fun bf=>
  ((A.deref bf σ).bind fun dw=>A.an 0 dw).bind fun bC=>
  (A.az 0 8 c1).bind fun bF=>
  (A.aN 8 bC x7).bind fun bw=>
  (A.cells 8 bF).bind fun fV=>
  (A.storeAt bw fV σ).bind fun jW=>
  some ((U.aL []),jW)) (
  (A.gZ a0).bind fun bZ=>
  (A.bA 10 bZ).bind fun cU=>
  ((A.deref cU σ).bind fun kP=>A.an 0 kP).bind fun bI=>
  (A.az 0 8 c1).bind fun bg=>
  (((A.cells 8 bg).bind fun lK=>(A.splice 0 lK [ah,aW,ah,ah,aD,aD,ah,ah]).bind fun iV=>some iV).bind fun cs=>some (U.sl 8 (chunks 8 1 cs))).bind fun x24=>
  (Bp [bI,x7,x24] σ).bind fun jN=>
  (A.gZ a0).bind fun cN=>
  (A.bA 10 cN).bind fun cR=>
  ((A.cell jN.1).bind fun v=>some [v]).bind fun mu=>
  (A.storeAt cR mu jN.2).bind fun qT=>
  some ((U.aL []),qT))
noncomputable def DP:List U→Heap→Option (U×Heap):=A.wrap false [] .k (A.cM FM)
noncomputable def JD (a0:U) (σ:Heap):Option (U×Heap):=
 (DI [a0] σ).bind fun r1=>
 (A.neq .i r1.1 ah).bind fun x2=>
 A.cond x2 (
  some ((U.aL [U.aH,r1.1]),r1.2)) (
  some ((U.aL [a0,ah]),r1.2))
noncomputable def FH:List U→Heap→Option (U×Heap):=A.wrap false [] .k (A.dU JD)
noncomputable def Ja (a0 a1 a2:U) (σ:Heap):Option (U×Heap):=
 (A.cells 2 a0).bind fun c1=>
 (A.az 0 2 c1).bind fun x2=>
 (Ff [x2,a1,a2] σ).bind fun r3=>
 (A.neq .i r3.1 ah).bind fun x4=>
 A.cond x4 (
  A.fin σ (U.aL [U.aH,r3.1]) r3.2) (
  (A.az 0 2 c1).bind fun x5=>
  (FL [x5,a1,a2] r3.2).bind fun r6=>
  (I7 [a2] r6.2).bind fun r7=>
  (A.az 0 2 c1).bind fun x8=>
  (Fb [r6.1,x8,a2] r7.2).bind fun r9=>
  (A.aT r9.1).bind fun bf=>
  (A.loop (fun v11 lF=>
    (A.lss (v11.getD 0 U.undef) bf).bind fun bw=>
    A.cond bw (
     (A.aN 3 r9.1 (v11.getD 0 U.undef)).bind fun bU=>
     ((A.deref bU lF).bind fun jW=>A.az 0 3 jW).bind fun bZ=>
     (A.cells 3 bZ).bind fun eu=>
     (A.splice 0 eu [ah,ah,ah]).bind fun kP=>
     (A.an 1 kP).bind fun bI=>
     (Bw [r7.1,bI] lF).bind fun dV=>
     (A.ext 0 dV.1).bind fun bB=>
     (A.ext 1 dV.1).bind fun ct=>
     (A.an 2 kP).bind fun x24=>
     (Bw [r7.1,x24] dV.2).bind fun jN=>
     (A.ext 0 jN.1).bind fun cN=>
     (A.ext 1 jN.1).bind fun cR=>
     (A.aN 11 r7.1 cN).bind fun x28=>
     ((A.deref x28 jN.2).bind fun qT=>A.az 0 11 qT).bind fun cO=>
     (A.an 0 kP).bind fun x31=>
     (A.quiet ((A.ij (.s 8) rA) [r6.1,cO,x31] jN.2) jN.2).bind fun x32=>
     (A.aT x32).bind fun gj=>
     (A.loop (fun rZ wu=>
       (A.lss (rZ.getD 0 U.undef) gj).bind fun cV=>
       A.cond cV (
        (A.aN 8 x32 (rZ.getD 0 U.undef)).bind fun x38=>
        ((A.deref x38 wu).bind fun jX=>A.az 0 8 jX).bind fun fG=>
        (A.cells 8 fG).bind fun nw=>
        (A.splice 0 nw [ah,aW,ah,ah,aD,aD,ah,ah]).bind fun qi=>
        (A.aN 11 r7.1 cN).bind fun fM=>
        ((A.deref fM wu).bind fun qW=>A.az 0 11 qW).bind fun ew=>
        (A.az 0 2 qi).bind fun ia=>
        (A.quiet (Aa [ew,ia] wu) wu).bind fun dK=>
        (A.ext 0 dK).bind fun gG=>
        (A.ext 1 dK).bind fun ig=>
        (A.aN 11 r7.1 cN).bind fun fC=>
        (A.bA 10 fC).bind fun ef=>
        ((A.deref ef wu).bind fun Cy=>A.an 0 Cy).bind fun kg=>
        (A.add gG aI).bind fun ga=>
        (Da [kg,gG,ga] wu).bind fun wk=>
        (A.aN 11 r7.1 cN).bind fun gO=>
        (A.bA 10 gO).bind fun jf=>
        ((A.cell wk.1).bind fun v=>some [v]).bind fun uX=>
        (A.storeAt jf uX wk.2).bind fun mz=>
        ((A.cell aD).bind fun v=>some [v]).bind fun CB=>
        (A.splice 5 CB qi).bind fun G6=>
        ((A.cell ah).bind fun v=>some [v]).bind fun G7=>
        (A.splice 6 G7 G6).bind fun zq=>
        ((A.cell ah).bind fun v=>some [v]).bind fun Rv=>
        (A.splice 7 Rv zq).bind fun CC=>
        (A.aN 11 r7.1 bB).bind fun mE=>
        (A.az 0 8 CC).bind fun gX=>
        (DP [mE,gX] mz).bind fun yh=>
        (A.add (rZ.getD 0 U.undef) aI).bind fun jg=>
        some (AX.normal,[jg],yh.2)) (
        some (AX.exit 2,[(rZ.getD 0 U.undef)],wu))) [ah] jN.2).bind fun CY=>
     bif CY.1==AX.exit 2 then(
      (A.add (v11.getD 0 U.undef) aI).bind fun uw=>
      some (AX.normal,[uw],CY.2.2))else
     none) (
     some (AX.exit 0,[(v11.getD 0 U.undef)],lF))) [ah] r9.2).bind fun EX=>
  bif EX.1==AX.exit 0 then(
   (FH [r7.1] EX.2.2).bind fun Sm=>
   (A.ext 0 Sm.1).bind fun gY=>
   (A.ext 1 Sm.1).bind fun gP=>
   A.fin σ (U.aL [gY,gP]) Sm.2)else
  none)
noncomputable def M6:List U→Heap→Option (U×Heap):=A.wrap true [lJ,qL,(.e 11 eZ)] (.t [(.e 11 eZ),.k]) (A.eG Ja)
end
section
set_option maxRecDepth 100000
noncomputable def NB (a0:U) (σ:Heap):Option (U×Heap):=
 (A.tO a0).bind fun x1=>
 (A.loop (fun v2 s3=>
   (A.lss (v2.getD 1 U.undef) x1).bind fun x5=>
   A.cond x5 (
    (A.nr a0 (v2.getD 1 U.undef)).bind fun x6=>
    (A.lss x6 (U.int .u8 97)).bind fun x7=>
    (A.guard x7 false (some x6) aj).bind fun x8=>
    (A.guard x7 false (A.gtr x8 (U.int .u8 122)) aj).bind fun x9=>
    (A.pick x7 br x9).bind fun bf=>
    (A.guard bf true (some x6) aj).bind fun bN=>
    (A.guard bf true (A.lss bN (U.int .u8 48)) aj).bind fun bC=>
    (A.guard bf true (some bC) aj).bind fun bF=>
    (A.guard bF false (some x6) aj).bind fun bw=>
    (A.guard bF false (A.gtr bw (U.int .u8 57)) aj).bind fun bU=>
    (A.guard bf true (A.pick bF br bU) aj).bind fun bl=>
    (A.pick bf bl aD).bind fun bZ=>
    (A.guard bZ true (some x6) aj).bind fun cU=>
    (A.guard bZ true (A.neq .i cU (U.int .u8 45)) aj).bind fun cg=>
    (A.pick bZ cg aD).bind fun bI=>
    A.cond bI (
     some (AX.ret,[aD,(v2.getD 1 U.undef)],s3)) (
     (A.add (v2.getD 1 U.undef) aI).bind fun bg=>
     some (AX.normal,[(v2.getD 0 U.undef),bg],s3))) (
    some (AX.exit 0,[(v2.getD 0 U.undef),(v2.getD 1 U.undef)],s3))) [aD,ah] σ).bind fun uo=>
 bif uo.1==AX.exit 0 then(
  (A.neq .z a0 aW).bind fun ct=>
  A.fin σ ct uo.2.2)else
 bif uo.1==AX.ret then(
  A.fin σ (uo.2.1.getD 0 U.undef) uo.2.2)else
 none
noncomputable def Nu:List U→Heap→Option (U×Heap):=A.wrap true [] .k (A.dU NB)
noncomputable def Nz (a0:U) (σ:Heap):Option (U×Heap):=
 (Nu [a0] σ).bind fun r1=>
 (A.guard r1.1 true (some a0) aj).bind fun x2=>
 (A.guard r1.1 true (A.tO x2) aj).bind fun x3=>
 (A.guard r1.1 true (A.leq x3 (U.int .i64 20)) aj).bind fun x4=>
 (A.pick r1.1 x4 aD).bind fun x5=>
 (A.guard x5 true (some a0) aj).bind fun x6=>
 (A.guard x5 true (A.nr x6 ah) aj).bind fun x7=>
 (A.guard x5 true (A.geq x7 (U.int .u8 97)) aj).bind fun x8=>
 (A.pick x5 x8 aD).bind fun x9=>
 (A.guard x9 true (some a0) aj).bind fun bf=>
 (A.guard x9 true (A.nr bf ah) aj).bind fun bN=>
 (A.guard x9 true (A.leq bN (U.int .u8 122)) aj).bind fun bC=>
 (A.pick x9 bC aD).bind fun bF=>
 A.fin σ bF r1.2
noncomputable def Dx:List U→Heap→Option (U×Heap):=A.wrap true [] .k (A.dU Nz)
noncomputable def NC (a0 a1 a2:U) (σ:Heap):Option (U×Heap):=
 (A.geq a0 a1).bind fun x1=>
 (A.guard x1 true (some a0) aj).bind fun x2=>
 (A.guard x1 true (some a2) aj).bind fun x3=>
 (A.guard x1 true (A.leq x2 x3) aj).bind fun x4=>
 (A.pick x1 x4 aD).bind fun x5=>
 A.fin σ x5 σ
noncomputable def oh:List U→Heap→Option (U×Heap):=A.wrap true [] .k (A.eG NC)
noncomputable def M9 (a0:U) (σ:Heap):Option (U×Heap):=
 (oh [a0,ah,(U.int .i64 65535)] σ).bind fun r1=>
 A.fin σ r1.1 r1.2
noncomputable def zW:List U→Heap→Option (U×Heap):=A.wrap true [] .k (A.dU M9)
noncomputable def Na (a0:U) (σ:Heap):Option (U×Heap):=
 (A.eql .z a0 aW).bind fun x1=>
 (A.guard x1 false (some a0) aj).bind fun x2=>
 (A.guard x1 false (A.tO x2) aj).bind fun x3=>
 (A.guard x1 false (A.gtr x3 (U.int .i64 60)) aj).bind fun x4=>
 (A.pick x1 br x4).bind fun x5=>
 (A.guard x5 false (some a0) aj).bind fun x6=>
 (A.guard x5 false (A.nr x6 ah) aj).bind fun x7=>
 (A.guard x5 false (A.eql .i x7 (U.int .u8 32)) aj).bind fun x8=>
 (A.pick x5 br x8).bind fun x9=>
 (A.guard x9 false (some a0) aj).bind fun bf=>
 (A.guard x9 false (some a0) aj).bind fun bN=>
 (A.guard x9 false (A.tO bN) aj).bind fun bC=>
 (A.guard x9 false (A.sub bC aI) aj).bind fun bF=>
 (A.guard x9 false (A.nr bf bF) aj).bind fun bw=>
 (A.guard x9 false (A.eql .i bw (U.int .u8 32)) aj).bind fun bU=>
 (A.pick x9 br bU).bind fun bl=>
 A.cond bl (
  A.fin σ aD σ) (
  (A.tO a0).bind fun bZ=>
  (A.loop (fun hU wo=>
    (A.lss (hU.getD 1 U.undef) bZ).bind fun bg=>
    A.cond bg (
     (A.nr a0 (hU.getD 1 U.undef)).bind fun bB=>
     (A.lss bB (U.int .u8 32)).bind fun ct=>
     (A.guard ct false (some a0) aj).bind fun x24=>
     (A.guard ct false (some (hU.getD 1 U.undef)) aj).bind fun x25=>
     (A.guard ct false (A.nr x24 x25) aj).bind fun cN=>
     (A.guard ct false (A.gtr cN (U.int .u8 126)) aj).bind fun cR=>
     (A.pick ct br cR).bind fun x28=>
     A.cond x28 (
      some (AX.ret,[aD,(hU.getD 1 U.undef)],wo)) (
      (A.add (hU.getD 1 U.undef) aI).bind fun x29=>
      some (AX.normal,[(hU.getD 0 U.undef),x29],wo))) (
     some (AX.exit 0,[(hU.getD 0 U.undef),(hU.getD 1 U.undef)],wo))) [aD,ah] σ).bind fun nB=>
  bif nB.1==AX.exit 0 then(
   A.fin σ br nB.2.2)else
  bif nB.1==AX.ret then(
   A.fin σ (nB.2.1.getD 0 U.undef) nB.2.2)else
  none)
noncomputable def I6:List U→Heap→Option (U×Heap):=A.wrap true [] .k (A.dU Na)
noncomputable def NA (a0:U) (σ:Heap):Option (U×Heap):=
 (oh [a0,ah,(U.int .i64 36000000)] σ).bind fun r1=>
 A.fin σ r1.1 r1.2
noncomputable def Ac:List U→Heap→Option (U×Heap):=A.wrap true [] .k (A.dU NA)
noncomputable def MD (a0:U) (σ:Heap):Option (U×Heap):=
 (A.cells 2 a0).bind fun c1=>
 (A.an 0 c1).bind fun x2=>
 (oh [x2,aI,(U.int .i64 6)] σ).bind fun r3=>
 (A.not r3.1).bind fun x4=>
 A.cond x4 (
  A.fin σ (U.int .i64 4) r3.2) (
  (A.an 0 c1).bind fun x5=>
  (A.neq .i x5 (U.int .i64 6)).bind fun x6=>
  (A.guard x6 true (A.an 1 c1) aj).bind fun x7=>
  (A.guard x6 true (A.aT x7) aj).bind fun x8=>
  (A.guard x6 true (A.gtr x8 ah) aj).bind fun x9=>
  (A.pick x6 x9 aD).bind fun bf=>
  A.cond bf (
   A.fin σ (U.int .i64 3) r3.2) (
   (A.an 0 c1).bind fun bN=>
   (A.neq .i bN (U.int .i64 6)).bind fun bC=>
   A.cond bC (
    A.fin σ ah r3.2) (
    (A.an 1 c1).bind fun bF=>
    (A.aT bF).bind fun bw=>
    (A.lss bw (U.int .i64 2)).bind fun bU=>
    A.cond bU (
     A.fin σ (U.int .i64 8) r3.2) (
     (A.an 1 c1).bind fun bl=>
     (A.aT bl).bind fun bZ=>
     (A.gtr bZ (U.int .i64 20)).bind fun cU=>
     A.cond cU (
      A.fin σ (U.int .i64 2) r3.2) (
      (A.an 1 c1).bind fun cg=>
      (A.aT cg).bind fun bI=>
      (A.loop (fun v21 Sv=>
        (A.lss (v21.getD 2 U.undef) bI).bind fun x24=>
        A.cond x24 (
         (A.aN 2 cg (v21.getD 2 U.undef)).bind fun x25=>
         ((A.deref x25 Sv).bind fun jE=>A.az 0 2 jE).bind fun cR=>
         (A.cells 2 cR).bind fun mu=>
         (A.splice 0 mu [ah,ah]).bind fun qT=>
         (A.an 0 qT).bind fun cO=>
         (oh [cO,ah,(U.int .i64 1000)] Sv).bind fun dQ=>
         (A.not dQ.1).bind fun x32=>
         (A.guard x32 false (A.an 1 qT) aj).bind fun gj=>
         (A.guard x32 false (A.quiet (oh [gj,ah,(U.int .i64 1000)] dQ.2) dQ.2) aj).bind fun x34=>
         (A.guard x32 false (A.not x34) aj).bind fun fB=>
         (A.pick x32 br fB).bind fun jG=>
         A.cond jG (
          some (AX.ret,[(v21.getD 0 U.undef),aI,(v21.getD 2 U.undef)],dQ.2)) (
          (A.add (v21.getD 2 U.undef) aI).bind fun cV=>
          some (AX.normal,[(v21.getD 0 U.undef),(v21.getD 1 U.undef),cV],dQ.2))) (
         some (AX.exit 1,[(v21.getD 0 U.undef),(v21.getD 1 U.undef),(v21.getD 2 U.undef)],Sv))) [(U.lbx c1),ah,ah] r3.2).bind fun mC=>
      bif mC.1==AX.exit 1 then(
       ((A.lb (mC.2.1.getD 0 U.undef)).bind fun _=>some (1)).bind fun Se=>
       ((A.lb (mC.2.1.getD 0 U.undef)).bind fun l7=>A.an Se l7).bind fun fW=>
       (A.aN 2 fW ah).bind fun fZ=>
       ((A.deref fZ mC.2.2).bind fun mw=>A.az 0 2 mw).bind fun dH=>
       (A.neq (.s [0,0]) dH (U.agg [ah,ah])).bind fun ew=>
       ((A.lb (mC.2.1.getD 0 U.undef)).bind fun _ => some (1)).bind fun p46 =>
              (A.guard ew false ((A.lb (mC.2.1.getD 0 U.undef)).bind fun rS=>A.an p46 rS) aj).bind fun gG=>
       ((A.lb (mC.2.1.getD 0 U.undef)).bind fun _ => some (1)).bind fun p49 =>
              (A.guard ew false ((A.lb (mC.2.1.getD 0 U.undef)).bind fun kG=>A.an p49 kG) aj).bind fun ef=>
       (A.guard ew false (A.aT ef) aj).bind fun eM=>
       (A.guard ew false (A.sub eM aI) aj).bind fun kg=>
       (A.guard ew false (A.aN 2 gG kg) aj).bind fun ga=>
       (A.guard ew false ((A.deref ga mC.2.2).bind fun Rs=>A.az 0 2 Rs) aj).bind fun gO=>
       (A.guard ew false ((((A.cell (U.int .i64 1000)).bind fun v=>some [v]).bind fun Ru=>(A.splice 0 Ru [ah,ah]).bind fun uX=>((A.cell (U.int .i64 1000)).bind fun v=>some [v]).bind fun mz=>(A.splice 1 mz uX).bind fun CB=>some CB).bind fun cs=>some (U.agg cs)) aj).bind fun gH=>
       (A.guard ew false (A.neq (.s [0,0]) gO gH) aj).bind fun gW=>
       (A.pick ew br gW).bind fun dW=>
       A.cond dW (
        A.fin σ (U.int .i64 3) mC.2.2) (
        (A.loop (fun v64 eU=>
          ((A.lb (v64.getD 0 U.undef)).bind fun _=>some (1)).bind fun p67=>
          ((A.lb (v64.getD 0 U.undef)).bind fun G8=>A.an p67 G8).bind fun jg=>
          (A.aT jg).bind fun kU=>
          (A.lss (v64.getD 2 U.undef) kU).bind fun uw=>
          A.cond uw (
           ((A.lb (v64.getD 0 U.undef)).bind fun _=>some (1)).bind fun p72=>
           ((A.lb (v64.getD 0 U.undef)).bind fun zw=>A.an p72 zw).bind fun gY=>
           (A.aN 2 gY (v64.getD 2 U.undef)).bind fun gP=>
           (A.bA 0 gP).bind fun gI=>
           ((A.deref gI eU).bind fun nA=>A.an 0 nA).bind fun qA=>
           ((A.lb (v64.getD 0 U.undef)).bind fun _=>some (1)).bind fun p79=>
           ((A.lb (v64.getD 0 U.undef)).bind fun CE=>A.an p79 CE).bind fun oR=>
           (A.sub (v64.getD 2 U.undef) aI).bind fun nD=>
           (A.aN 2 oR nD).bind fun nE=>
           (A.bA 0 nE).bind fun sX=>
           ((A.deref sX eU).bind fun c85=>A.an 0 c85).bind fun oS=>
           (A.leq qA oS).bind fun ko=>
           ((A.lb (v64.getD 0 U.undef)).bind fun _=>some (1)).bind fun p88=>
                      (A.guard ko false ((A.lb (v64.getD 0 U.undef)).bind fun c89=>A.an p88 c89) aj).bind fun x90=>
           (A.guard ko false (some (v64.getD 2 U.undef)) aj).bind fun x91=>
           (A.guard ko false (A.aN 2 x90 x91) aj).bind fun wC=>
           (A.guard ko false (A.bA 1 wC) aj).bind fun x93=>
           (A.guard ko false ((A.deref x93 eU).bind fun G9=>A.an 0 G9) aj).bind fun x95=>
           ((A.lb (v64.getD 0 U.undef)).bind fun _=>some (1)).bind fun p96=>
                      (A.guard ko false ((A.lb (v64.getD 0 U.undef)).bind fun CG=>A.an p96 CG) aj).bind fun x98=>
           (A.guard ko false (some (v64.getD 2 U.undef)) aj).bind fun x99=>
           (A.guard ko false (A.sub x99 aI) aj).bind fun vM=>
           (A.guard ko false (A.aN 2 x98 vM) aj).bind fun x101=>
           (A.guard ko false (A.bA 1 x101) aj).bind fun x102=>
           (A.guard ko false ((A.deref x102 eU).bind fun yU=>A.an 0 yU) aj).bind fun x104=>
           (A.guard ko false (A.lss x95 x104) aj).bind fun Cp=>
           (A.pick ko br Cp).bind fun sL=>
           A.cond sL (
            some (AX.ret,[(v64.getD 0 U.undef),(U.int .i64 7),(v64.getD 2 U.undef)],eU)) (
            (A.add (v64.getD 2 U.undef) aI).bind fun xR=>
            some (AX.normal,[(v64.getD 0 U.undef),(v64.getD 1 U.undef),xR],eU))) (
           some (AX.exit 3,[(v64.getD 0 U.undef),(v64.getD 1 U.undef),(v64.getD 2 U.undef)],eU))) [(mC.2.1.getD 0 U.undef),(mC.2.1.getD 1 U.undef),aI] mC.2.2).bind fun GU=>
        bif GU.1==AX.exit 3 then(
         A.fin σ ah GU.2.2)else
        bif GU.1==AX.ret then(
         A.fin σ (GU.2.1.getD 1 U.undef) GU.2.2)else
        none))else
      bif mC.1==AX.ret then(
       A.fin σ (mC.2.1.getD 1 U.undef) mC.2.2)else
      none)))))
noncomputable def MA:List U→Heap→Option (U×Heap):=A.wrap true [(.a [.k,(.s 2)])] .k (A.dU MD)
end
section
set_option maxRecDepth 100000
noncomputable def N8 (a0:U) (σ:Heap):Option (U×Heap):=
 (A.cells 7 a0).bind fun c1=>
 (A.an 3 c1).bind fun x2=>
 (A.eql .i x2 ah).bind fun x3=>
 A.cond x3 (
  (A.an 2 c1).bind fun x4=>
  ((((A.cell x4).bind fun v=>some [v]).bind fun c5=>(A.splice 0 c5 [ah]).bind fun c6=>some c6).bind fun cs=>some (U.sl 1 (chunks 1 1 cs))).bind fun x7=>
  A.fin σ x7 σ) (
  (A.an 2 c1).bind fun x8=>
  (A.an 3 c1).bind fun x9=>
  ((((A.cell x8).bind fun v=>some [v]).bind fun dr=>(A.splice 0 dr [ah,ah]).bind fun dw=>((A.cell x9).bind fun v=>some [v]).bind fun bR=>(A.splice 1 bR dw).bind fun ep=>some ep).bind fun cs=>some (U.sl 1 (chunks 1 2 cs))).bind fun bw=>
  A.fin σ bw σ)
noncomputable def Jx:List U→Heap→Option (U×Heap):=A.wrap true [(.a qK)] (.s 1) (A.dU N8)
noncomputable def ME (a0 a1 a2:U) (σ:Heap):Option (U×Heap):=
 (A.cells 7 a0).bind fun c1=>
 (A.an 0 c1).bind fun x2=>
 (Dx [x2] σ).bind fun r3=>
 (A.not r3.1).bind fun x4=>
 A.cond x4 (
  A.fin σ (U.int .i64 5) r3.2) (
  (A.aT a1).bind fun x5=>
  (A.loop (fun v6 s7=>
    (A.lss (v6.getD 2 U.undef) x5).bind fun x9=>
    A.cond x9 (
     (A.aN 7 a1 (v6.getD 2 U.undef)).bind fun bf=>
     ((A.deref bf s7).bind fun dw=>A.az 0 7 dw).bind fun bC=>
     (A.cells 7 bC).bind fun ep=>
     (A.splice 0 ep [aW,ah,ah,ah,ah,aD,U.aH]).bind fun gh=>
     (A.an 0 gh).bind fun bU=>
     ((A.lb (v6.getD 0 U.undef)).bind fun _=>some (0)).bind fun R8=>
     ((A.lb (v6.getD 0 U.undef)).bind fun iN=>A.an R8 iN).bind fun cU=>
     (A.eql .z bU cU).bind fun cg=>
     A.cond cg (
      some (AX.ret,[(v6.getD 0 U.undef),(U.int .i64 6),(v6.getD 2 U.undef)],s7)) (
      (A.add (v6.getD 2 U.undef) aI).bind fun bI=>
      some (AX.normal,[(v6.getD 0 U.undef),(v6.getD 1 U.undef),bI],s7))) (
     some (AX.exit 0,[(v6.getD 0 U.undef),(v6.getD 1 U.undef),(v6.getD 2 U.undef)],s7))) [(U.lbx c1),ah,ah] r3.2).bind fun dV=>
  bif dV.1==AX.exit 0 then(
   ((A.lb (dV.2.1.getD 0 U.undef)).bind fun _=>some (1)).bind fun p22=>
   ((A.lb (dV.2.1.getD 0 U.undef)).bind fun iV=>A.an p22 iV).bind fun x24=>
   (oh [x24,aI,(U.int .i64 4)] dV.2.2).bind fun jN=>
   (A.not jN.1).bind fun cN=>
   A.cond cN (
    A.fin σ (U.int .i64 4) jN.2) (
    ((A.lb (dV.2.1.getD 0 U.undef)).bind fun _=>some (2)).bind fun p27=>
    ((A.lb (dV.2.1.getD 0 U.undef)).bind fun mu=>A.an p27 mu).bind fun x29=>
    (oh [x29,aI,a2] jN.2).bind fun nB=>
    (A.not nB.1).bind fun x31=>
    ((A.lb (dV.2.1.getD 0 U.undef)).bind fun _=>some (3)).bind fun Sc=>
        (A.guard x31 false ((A.lb (dV.2.1.getD 0 U.undef)).bind fun qV=>A.an Sc qV) aj).bind fun x34=>
    (A.guard x31 false (some a2) aj).bind fun fB=>
    (A.guard x31 false (A.quiet (oh [x34,ah,fB] nB.2) nB.2) aj).bind fun jG=>
    (A.guard x31 false (A.not jG) aj).bind fun cV=>
    (A.pick x31 br cV).bind fun x38=>
    ((A.lb (dV.2.1.getD 0 U.undef)).bind fun _=>some (4)).bind fun Se=>
        (A.guard x38 false ((A.lb (dV.2.1.getD 0 U.undef)).bind fun l7=>A.an Se l7) aj).bind fun fW=>
    (A.guard x38 false (A.quiet (zW [fW] nB.2) nB.2) aj).bind fun fZ=>
    (A.guard x38 false (A.not fZ) aj).bind fun fM=>
    (A.pick x38 br fM).bind fun dH=>
    A.cond dH (
     A.fin σ aI nB.2) (
     ((A.lb (dV.2.1.getD 0 U.undef)).bind fun _=>some (2)).bind fun p45=>
     ((A.lb (dV.2.1.getD 0 U.undef)).bind fun qj=>A.an p45 qj).bind fun dK=>
     ((A.lb (dV.2.1.getD 0 U.undef)).bind fun _=>some (3)).bind fun p48=>
     ((A.lb (dV.2.1.getD 0 U.undef)).bind fun vR=>A.an p48 vR).bind fun fC=>
     (A.eql .i dK fC).bind fun ef=>
     A.cond ef (
      A.fin σ (U.int .i64 12) nB.2) (
      (A.aT a1).bind fun eM=>
      (A.loop (fun v53 Sy=>
        (A.lss (v53.getD 2 U.undef) eM).bind fun gO=>
        A.cond gO (
         (A.aN 7 a1 (v53.getD 2 U.undef)).bind fun jf=>
         ((A.deref jf Sy).bind fun uX=>A.az 0 7 uX).bind fun jv=>
         (A.cells 7 jv).bind fun CB=>
         (A.splice 0 CB [aW,ah,ah,ah,ah,aD,U.aH]).bind fun G6=>
         ((A.lb (v53.getD 0 U.undef)).bind fun G7=>A.az 0 7 G7).bind fun dW=>
         (Jx [dW] Sy).bind fun r64=>
         (A.aT r64.1).bind fun fH=>
         (A.loop (fun v66 Sz=>
           (A.lss (v66.getD 3 U.undef) fH).bind fun jg=>
           A.cond jg (
            (A.aN 1 r64.1 (v66.getD 3 U.undef)).bind fun kU=>
            ((A.deref kU Sz).bind fun kQ=>A.an 0 kQ).bind fun kV=>
            ((A.lb (v66.getD 2 U.undef)).bind fun zw=>A.az 0 7 zw).bind fun gY=>
            (Jx [gY] Sz).bind fun ZQ=>
            (IG [ZQ.1,kV] ZQ.2).bind fun Sn=>
            A.cond Sn.1 (
             some (AX.ret,[(v66.getD 0 U.undef),(U.int .i64 12),(v66.getD 2 U.undef),(v66.getD 3 U.undef)],Sn.2)) (
             (A.add (v66.getD 3 U.undef) aI).bind fun qz=>
             some (AX.normal,[(v66.getD 0 U.undef),(v66.getD 1 U.undef),(v66.getD 2 U.undef),qz],Sn.2))) (
            some (AX.exit 5,[(v66.getD 0 U.undef),(v66.getD 1 U.undef),(v66.getD 2 U.undef),(v66.getD 3 U.undef)],Sz))) [(v53.getD 0 U.undef),(v53.getD 1 U.undef),(U.lbx G6),ah] r64.2).bind fun jO=>
         bif jO.1==AX.exit 5 then(
          (A.add (v53.getD 2 U.undef) aI).bind fun lP=>
          some (AX.normal,[(jO.2.1.getD 0 U.undef),(jO.2.1.getD 1 U.undef),lP],jO.2.2))else
         bif jO.1==AX.ret then(
          some (AX.ret,[(jO.2.1.getD 0 U.undef),(jO.2.1.getD 1 U.undef),(v53.getD 2 U.undef)],jO.2.2))else
         none) (
         some (AX.exit 3,[(v53.getD 0 U.undef),(v53.getD 1 U.undef),(v53.getD 2 U.undef)],Sy))) [(dV.2.1.getD 0 U.undef),(dV.2.1.getD 1 U.undef),ah] nB.2).bind fun jd=>
      bif jd.1==AX.exit 3 then(
       ((A.lb (jd.2.1.getD 0 U.undef)).bind fun _=>some (6)).bind fun p81=>
       ((A.lb (jd.2.1.getD 0 U.undef)).bind fun zx=>A.an p81 zx).bind fun nE=>
       (A.aT nE).bind fun sX=>
       (A.gtr sX (U.int .i64 30)).bind fun qB=>
       A.cond qB (
        A.fin σ (U.int .i64 2) jd.2.2) (
        ((A.lb (jd.2.1.getD 0 U.undef)).bind fun _=>some (6)).bind fun p86=>
        ((A.lb (jd.2.1.getD 0 U.undef)).bind fun Ry=>A.an p86 Ry).bind fun ve=>
        (A.aT ve).bind fun sk=>
        (A.loop (fun mQ SA=>
          (A.lss (mQ.getD 2 U.undef) sk).bind fun x93=>
          A.cond x93 (
           (A.aN 3 ve (mQ.getD 2 U.undef)).bind fun ux=>
           ((A.deref ux SA).bind fun He=>A.az 0 3 He).bind fun x96=>
           (A.cells 3 x96).bind fun CG=>
           (A.splice 0 CG [ah,ah,aW]).bind fun vS=>
           (A.an 0 vS).bind fun x99=>
           (zW [x99] SA).bind fun tT=>
           (A.not tT.1).bind fun x101=>
           (A.guard x101 false (A.an 1 vS) aj).bind fun x102=>
           (A.guard x101 false (A.quiet (zW [x102] tT.2) tT.2) aj).bind fun tU=>
           (A.guard x101 false (A.not tU) aj).bind fun x104=>
           (A.pick x101 br x104).bind fun Cp=>
           (A.guard Cp false (A.an 0 vS) aj).bind fun sL=>
           (A.guard Cp false (A.an 1 vS) aj).bind fun xR=>
           (A.guard Cp false (A.gtr sL xR) aj).bind fun xS=>
           (A.pick Cp br xS).bind fun tV=>
           A.cond tV (
            some (AX.ret,[(mQ.getD 0 U.undef),aI,(mQ.getD 2 U.undef)],tT.2)) (
            (A.gtr (mQ.getD 2 U.undef) ah).bind fun lI=>
            (A.guard lI true (A.an 0 vS) aj).bind fun iU=>
            ((A.lb (mQ.getD 0 U.undef)).bind fun _=>some (6)).bind fun akX=>
                        (A.guard lI true ((A.lb (mQ.getD 0 U.undef)).bind fun akg=>A.an akX akg) aj).bind fun x114=>
            (A.guard lI true (some (mQ.getD 2 U.undef)) aj).bind fun x115=>
            (A.guard lI true (A.sub x115 aI) aj).bind fun vN=>
            (A.guard lI true (A.aN 3 x114 vN) aj).bind fun ak7=>
            (A.guard lI true (A.bA 1 ak7) aj).bind fun rK=>
            (A.guard lI true ((A.deref rK tT.2).bind fun akh=>A.an 0 akh) aj).bind fun GY=>
            (A.guard lI true (A.leq iU GY) aj).bind fun rM=>
            (A.pick lI rM aD).bind fun vO=>
            A.cond vO (
             some (AX.ret,[(mQ.getD 0 U.undef),(U.int .i64 7),(mQ.getD 2 U.undef)],tT.2)) (
             (A.an 2 vS).bind fun vP=>
             (Dx [vP] tT.2).bind fun Lp=>
             (A.not Lp.1).bind fun Cq=>
             A.cond Cq (
              some (AX.ret,[(mQ.getD 0 U.undef),(U.int .i64 5),(mQ.getD 2 U.undef)],Lp.2)) (
              ((A.lb (mQ.getD 0 U.undef)).bind fun _=>some (6)).bind fun akY=>
              ((A.lb (mQ.getD 0 U.undef)).bind fun aki=>A.an akY aki).bind fun ak8=>
              (A.bG 3 ak8 none (some (mQ.getD 2 U.undef)) Lp.2).bind fun Y1=>
              (A.aT Y1).bind fun G0=>
              (A.loop (fun v131 Ls=>
                (A.lss (v131.getD 3 U.undef) G0).bind fun G1=>
                A.cond G1 (
                 (A.aN 3 Y1 (v131.getD 3 U.undef)).bind fun G2=>
                 ((A.deref G2 Ls).bind fun akj=>A.az 0 3 akj).bind fun ak9=>
                 (A.cells 3 ak9).bind fun akk=>
                 (A.splice 0 akk [ah,ah,aW]).bind fun B9=>
                 (A.an 2 B9).bind fun ala=>
                 ((A.lb (v131.getD 2 U.undef)).bind fun _=>some (2)).bind fun akZ=>
                 ((A.lb (v131.getD 2 U.undef)).bind fun Ca=>A.an akZ Ca).bind fun alb=>
                 (A.eql .z ala alb).bind fun alc=>
                 A.cond alc (
                  some (AX.ret,[(v131.getD 0 U.undef),(U.int .i64 6),(v131.getD 2 U.undef),(v131.getD 3 U.undef)],Ls)) (
                  (A.add (v131.getD 3 U.undef) aI).bind fun G3=>
                  some (AX.normal,[(v131.getD 0 U.undef),(v131.getD 1 U.undef),(v131.getD 2 U.undef),G3],Ls))) (
                 some (AX.exit 10,[(v131.getD 0 U.undef),(v131.getD 1 U.undef),(v131.getD 2 U.undef),(v131.getD 3 U.undef)],Ls))) [(mQ.getD 0 U.undef),(mQ.getD 1 U.undef),(U.lbx vS),ah] Lp.2).bind fun A9=>
              bif A9.1==AX.exit 10 then(
               (A.add (mQ.getD 2 U.undef) aI).bind fun ald=>
               some (AX.normal,[(A9.2.1.getD 0 U.undef),(A9.2.1.getD 1 U.undef),ald],A9.2.2))else
              bif A9.1==AX.ret then(
               some (AX.ret,[(A9.2.1.getD 0 U.undef),(A9.2.1.getD 1 U.undef),(mQ.getD 2 U.undef)],A9.2.2))else
              none)))) (
           some (AX.exit 7,[(mQ.getD 0 U.undef),(mQ.getD 1 U.undef),(mQ.getD 2 U.undef)],SA))) [(jd.2.1.getD 0 U.undef),(jd.2.1.getD 1 U.undef),ah] jd.2.2).bind fun GW=>
        bif GW.1==AX.exit 7 then(
         A.fin σ ah GW.2.2)else
        bif GW.1==AX.ret then(
         A.fin σ (GW.2.1.getD 1 U.undef) GW.2.2)else
        none))else
      bif jd.1==AX.ret then(
       A.fin σ (jd.2.1.getD 1 U.undef) jd.2.2)else
      none))))else
  bif dV.1==AX.ret then(
   A.fin σ (dV.2.1.getD 1 U.undef) dV.2.2)else
  none)
noncomputable def MB:List U→Heap→Option (U×Heap):=A.wrap true [(.a qK),(.s 7)] .k (A.eG ME)
noncomputable def Ms (a0:U) (σ:Heap):Option (U×Heap):=
 (A.cells 3 a0).bind fun c1=>
 (A.an 0 c1).bind fun x2=>
 (Dx [x2] σ).bind fun r3=>
 (A.not r3.1).bind fun x4=>
 A.cond x4 (
  A.fin σ (U.int .i64 5) r3.2) (
  (A.an 1 c1).bind fun x5=>
  (oh [x5,aI,(U.int .i64 512)] r3.2).bind fun r6=>
  (A.not r6.1).bind fun x7=>
  A.cond x7 (
   A.fin σ aI r6.2) (
   (A.an 2 c1).bind fun x8=>
   (A.aT x8).bind fun x9=>
   (A.eql .i x9 ah).bind fun bf=>
   A.cond bf (
    A.fin σ (U.int .i64 8) r6.2) (
    (A.an 2 c1).bind fun bN=>
    (A.aT bN).bind fun bC=>
    (A.gtr bC (U.int .i64 40)).bind fun bF=>
    A.cond bF (
     A.fin σ (U.int .i64 2) r6.2) (
     (A.an 2 c1).bind fun bw=>
     (A.aT bw).bind fun bU=>
     (A.loop (fun cC gE=>
       (A.lss (cC.getD 2 U.undef) bU).bind fun cg=>
       A.cond cg (
        (A.aN 7 bw (cC.getD 2 U.undef)).bind fun bI=>
        ((A.deref bI gE).bind fun iu=>A.az 0 7 iu).bind fun bB=>
        (A.cells 7 bB).bind fun iV=>
        (A.splice 0 iV [aW,ah,ah,ah,ah,aD,U.aH]).bind fun eH=>
        (A.az 0 7 eH).bind fun x25=>
        ((A.lb (cC.getD 0 U.undef)).bind fun _=>some (2)).bind fun Sa=>
        ((A.lb (cC.getD 0 U.undef)).bind fun l6=>A.an Sa l6).bind fun x28=>
        (A.bG 7 x28 none (some (cC.getD 2 U.undef)) gE).bind fun x29=>
        ((A.lb (cC.getD 0 U.undef)).bind fun _=>some (1)).bind fun p30=>
        ((A.lb (cC.getD 0 U.undef)).bind fun qU=>A.an p30 qU).bind fun x32=>
        (A.quiet (MB [x25,x29,x32] gE) gE).bind fun gj=>
        (A.neq .i gj ah).bind fun x34=>
        A.cond x34 (
         some (AX.ret,[(cC.getD 0 U.undef),gj,(cC.getD 2 U.undef)],gE)) (
         (A.add (cC.getD 2 U.undef) aI).bind fun fB=>
         some (AX.normal,[(cC.getD 0 U.undef),(cC.getD 1 U.undef),fB],gE))) (
        some (AX.exit 1,[(cC.getD 0 U.undef),(cC.getD 1 U.undef),(cC.getD 2 U.undef)],gE))) [(U.lbx c1),ah,ah] r6.2).bind fun wj=>
     bif wj.1==AX.exit 1 then(
      A.fin σ ah wj.2.2)else
     bif wj.1==AX.ret then(
      A.fin σ (wj.2.1.getD 1 U.undef) wj.2.2)else
     none))))
noncomputable def Mp:List U→Heap→Option (U×Heap):=A.wrap true [(.a [.k,.k,(.s 7)])] .k (A.dU Ms)
noncomputable def Mr (a0:U) (σ:Heap):Option (U×Heap):=
 (A.aT a0).bind fun x1=>
 (A.gtr x1 (U.int .i64 60)).bind fun x2=>
 A.cond x2 (
  A.fin σ (U.int .i64 2) σ) (
  (A.aT a0).bind fun x3=>
  (A.loop (fun v4 s5=>
    (A.lss (v4.getD 1 U.undef) x3).bind fun x7=>
    A.cond x7 (
     (A.aN 3 a0 (v4.getD 1 U.undef)).bind fun x8=>
     ((A.deref x8 s5).bind fun c9=>A.az 0 3 c9).bind fun bf=>
     (A.cells 3 bf).bind fun dw=>
     (A.splice 0 dw [aW,ah,U.aH]).bind fun bR=>
     (A.az 0 3 bR).bind fun bF=>
     (Mp [bF] s5).bind fun eL=>
     (A.neq .i eL.1 ah).bind fun bU=>
     A.cond bU (
      some (AX.ret,[eL.1,(v4.getD 1 U.undef)],eL.2)) (
      (A.bG 3 a0 none (some (v4.getD 1 U.undef)) eL.2).bind fun bl=>
      (A.aT bl).bind fun bZ=>
      (A.loop (fun hU wo=>
        (A.lss (hU.getD 2 U.undef) bZ).bind fun bg=>
        A.cond bg (
         (A.aN 3 bl (hU.getD 2 U.undef)).bind fun bB=>
         ((A.deref bB wo).bind fun iV=>A.az 0 3 iV).bind fun x24=>
         (A.cells 3 x24).bind fun jq=>
         (A.splice 0 jq [aW,ah,U.aH]).bind fun jE=>
         (A.an 0 jE).bind fun cR=>
         ((A.lb (hU.getD 1 U.undef)).bind fun _=>some (0)).bind fun p28=>
         ((A.lb (hU.getD 1 U.undef)).bind fun qT=>A.an p28 qT).bind fun cO=>
         (A.eql .z cR cO).bind fun x31=>
         A.cond x31 (
          some (AX.ret,[(U.int .i64 6),(hU.getD 1 U.undef),(hU.getD 2 U.undef)],wo)) (
          (A.add (hU.getD 2 U.undef) aI).bind fun x32=>
          some (AX.normal,[(hU.getD 0 U.undef),(hU.getD 1 U.undef),x32],wo))) (
         some (AX.exit 2,[(hU.getD 0 U.undef),(hU.getD 1 U.undef),(hU.getD 2 U.undef)],wo))) [(v4.getD 0 U.undef),(U.lbx bR),ah] eL.2).bind fun lM=>
      bif lM.1==AX.exit 2 then(
       (A.add (v4.getD 1 U.undef) aI).bind fun x34=>
       some (AX.normal,[(lM.2.1.getD 0 U.undef),x34],lM.2.2))else
      bif lM.1==AX.ret then(
       some (AX.ret,[(lM.2.1.getD 0 U.undef),(v4.getD 1 U.undef)],lM.2.2))else
      none)) (
     some (AX.exit 0,[(v4.getD 0 U.undef),(v4.getD 1 U.undef)],s5))) [ah,ah] σ).bind fun wg=>
  bif wg.1==AX.exit 0 then(
   A.fin σ ah wg.2.2)else
  bif wg.1==AX.ret then(
   A.fin σ (wg.2.1.getD 0 U.undef) wg.2.2)else
  none)
noncomputable def Mo:List U→Heap→Option (U×Heap):=A.wrap true [(.s 3)] .k (A.dU Mr)
noncomputable def Fo (a0 a1:U) (σ:Heap):Option (U×Heap):=
 (A.aT a0).bind fun x1=>
 (A.loop (fun v2 s3=>
   (A.lss (v2.getD 2 U.undef) x1).bind fun x5=>
   A.cond x5 (
    (A.aN 3 a0 (v2.getD 2 U.undef)).bind fun x6=>
    ((A.deref x6 s3).bind fun c7=>A.az 0 3 c7).bind fun x8=>
    (A.cells 3 x8).bind fun c9=>
    (A.splice 0 c9 [aW,ah,U.aH]).bind fun dr=>
    (A.an 0 dr).bind fun bN=>
    (A.eql .z bN a1).bind fun bC=>
    A.cond bC (
     (A.az 0 3 dr).bind fun bF=>
     (A.lb (v2.getD 0 U.undef)).bind fun jW=>
     (A.cells 3 bF).bind fun gh=>
     (A.splice 0 gh jW).bind fun fV=>
     some (AX.ret,[(U.lbx fV),br,(v2.getD 2 U.undef)],s3)) (
     (A.add (v2.getD 2 U.undef) aI).bind fun bZ=>
     some (AX.normal,[(v2.getD 0 U.undef),(v2.getD 1 U.undef),bZ],s3))) (
    some (AX.exit 0,[(v2.getD 0 U.undef),(v2.getD 1 U.undef),(v2.getD 2 U.undef)],s3))) [(U.lbx [aW,ah,U.aH]),aD,ah] σ).bind fun cI=>
 bif cI.1==AX.exit 0 then(
  (A.lb (cI.2.1.getD 0 U.undef)).bind fun iu=>
  (A.cells 3 (U.agg [aW,ah,U.aH])).bind fun kP=>
  (A.splice 0 kP iu).bind fun i7=>
  (A.az 0 3 i7).bind fun bB=>
  A.fin σ (U.aL [bB,aD]) cI.2.2)else
 bif cI.1==AX.ret then(
  ((A.lb (cI.2.1.getD 0 U.undef)).bind fun eH=>A.az 0 3 eH).bind fun ct=>
  A.fin σ (U.aL [ct,(cI.2.1.getD 1 U.undef)]) cI.2.2)else
 none
noncomputable def Bs:List U→Heap→Option (U×Heap):=A.wrap true [(.s 3)] (.t [(.a [.k,.k,(.e 7 qK)]),.k]) (A.cM Fo)
noncomputable def Oq (a0 a1:U) (σ:Heap):Option (U×Heap):=
 (A.cells 2 a0).bind fun c1=>
 (A.cells 4 a1).bind fun c2=>
 (A.an 0 c1).bind fun x3=>
 (A.an 1 c2).bind fun x4=>
 (Bs [x3,x4] σ).bind fun r5=>
 (A.ext 0 r5.1).bind fun x6=>
 (A.ext 1 r5.1).bind fun x7=>
 (A.cells 3 x6).bind fun c8=>
 (A.splice 0 c8 [aW,ah,U.aH]).bind fun c9=>
 (A.an 3 c2).bind fun bf=>
 (A.an 1 c9).bind fun bN=>
 (A.add bf bN).bind fun bC=>
 (A.sub bC aI).bind fun bF=>
 A.fin σ bF r5.2
noncomputable def FK:List U→Heap→Option (U×Heap):=A.wrap true [xH] .k (A.cM Oq)
noncomputable def MV (a0:U) (σ:Heap):Option (U×Heap):=
 (A.cells 2 a0).bind fun c1=>
 (A.an 0 c1).bind fun x2=>
 (Mo [x2] σ).bind fun r3=>
 (A.neq .i r3.1 ah).bind fun x4=>
 A.cond x4 (
  A.fin σ r3.1 r3.2) (
  (A.an 1 c1).bind fun x5=>
  (A.aT x5).bind fun x6=>
  (A.gtr x6 (U.int .i64 400)).bind fun x7=>
  A.cond x7 (
   A.fin σ (U.int .i64 2) r3.2) (
   (A.an 1 c1).bind fun x8=>
   (A.aT x8).bind fun x9=>
   (A.loop (fun v10 gL=>
     (A.lss (v10.getD 2 U.undef) x9).bind fun bF=>
     A.cond bF (
      (A.aN 4 x8 (v10.getD 2 U.undef)).bind fun bw=>
      ((A.deref bw gL).bind fun fV=>A.az 0 4 fV).bind fun bl=>
      (A.cells 4 bl).bind fun iN=>
      (A.splice 0 iN [ah,aW,ah,ah]).bind fun eu=>
      ((A.lb (v10.getD 0 U.undef)).bind fun _=>some (0)).bind fun CV=>
      ((A.lb (v10.getD 0 U.undef)).bind fun i7=>A.an CV i7).bind fun bg=>
      (A.an 1 eu).bind fun bB=>
      (Bs [bg,bB] gL).bind fun kS=>
      (A.ext 0 kS.1).bind fun x24=>
      (A.ext 1 kS.1).bind fun x25=>
      (A.cells 3 x24).bind fun jE=>
      (A.splice 0 jE [aW,ah,U.aH]).bind fun l6=>
      (A.an 0 eu).bind fun x28=>
      (oh [x28,aI,(U.int .i64 9999)] kS.2).bind fun kI=>
      (A.not kI.1).bind fun cO=>
      A.cond cO (
       some (AX.ret,[(v10.getD 0 U.undef),aI,(v10.getD 2 U.undef)],kI.2)) (
       (A.gtr (v10.getD 2 U.undef) ah).bind fun x31=>
       (A.guard x31 true (A.an 0 eu) aj).bind fun x32=>
       ((A.lb (v10.getD 0 U.undef)).bind fun _ => some (1)).bind fun Sd =>
              (A.guard x31 true ((A.lb (v10.getD 0 U.undef)).bind fun tZ=>A.an Sd tZ) aj).bind fun fB=>
       (A.guard x31 true (some (v10.getD 2 U.undef)) aj).bind fun jG=>
       (A.guard x31 true (A.sub jG aI) aj).bind fun cV=>
       (A.guard x31 true (A.aN 4 fB cV) aj).bind fun x38=>
       (A.guard x31 true (A.bA 0 x38) aj).bind fun gy=>
       (A.guard x31 true ((A.deref gy kI.2).bind fun l7=>A.an 0 l7) aj).bind fun fW=>
       (A.guard x31 true (A.leq x32 fW) aj).bind fun fZ=>
       (A.pick x31 fZ aD).bind fun fM=>
       A.cond fM (
        some (AX.ret,[(v10.getD 0 U.undef),(U.int .i64 7),(v10.getD 2 U.undef)],kI.2)) (
        (A.not x25).bind fun dH=>
        A.cond dH (
         some (AX.ret,[(v10.getD 0 U.undef),(U.int .i64 5),(v10.getD 2 U.undef)],kI.2)) (
         (A.an 2 eu).bind fun ew=>
         (oh [ew,aI,(U.int .i64 64)] kI.2).bind fun iW=>
         (A.not iW.1).bind fun dK=>
         (A.guard dK false (A.an 3 eu) aj).bind fun gG=>
         (A.guard dK false (A.quiet (oh [gG,aI,(U.int .i64 512)] iW.2) iW.2) aj).bind fun ig=>
         (A.guard dK false (A.not ig) aj).bind fun fC=>
         (A.pick dK br fC).bind fun ef=>
         (A.guard ef false ((A.lb (v10.getD 0 U.undef)).bind fun Cy=>A.az 0 2 Cy) aj).bind fun kg=>
         (A.guard ef false (A.az 0 4 eu) aj).bind fun ga=>
         (A.guard ef false (A.quiet (FK [kg,ga] iW.2) iW.2) aj).bind fun iP=>
         (A.guard ef false (A.gtr iP (U.int .i64 512)) aj).bind fun gO=>
         (A.pick ef br gO).bind fun jf=>
         A.cond jf (
          some (AX.ret,[(v10.getD 0 U.undef),aI,(v10.getD 2 U.undef)],iW.2)) (
          ((A.lb (v10.getD 0 U.undef)).bind fun _=>some (1)).bind fun p58=>
          ((A.lb (v10.getD 0 U.undef)).bind fun mz=>A.an p58 mz).bind fun iQ=>
          (A.bG 4 iQ none (some (v10.getD 2 U.undef)) iW.2).bind fun gH=>
          (A.aT gH).bind fun gW=>
          (A.loop (fun oa Bk=>
            (A.lss (oa.getD 3 U.undef) gW).bind fun mE=>
            A.cond mE (
             (A.aN 4 gH (oa.getD 3 U.undef)).bind fun gX=>
             ((A.deref gX Bk).bind fun G8=>A.az 0 4 G8).bind fun jg=>
             (A.cells 4 jg).bind fun CD=>
             (A.splice 0 CD [ah,aW,ah,ah]).bind fun kQ=>
             (A.an 2 kQ).bind fun kV=>
             ((A.lb (oa.getD 2 U.undef)).bind fun _=>some (2)).bind fun p73=>
             ((A.lb (oa.getD 2 U.undef)).bind fun c74=>A.an p73 c74).bind fun gP=>
             (A.eql .i kV gP).bind fun gI=>
             (A.guard gI true (A.an 3 kQ) aj).bind fun qz=>
             (A.guard gI true ((A.lb (oa.getD 0 U.undef)).bind fun ud=>A.az 0 2 ud) aj).bind fun lP=>
             (A.guard gI true ((A.lb (oa.getD 2 U.undef)).bind fun CE=>A.az 0 4 CE) aj).bind fun oR=>
             (A.guard gI true (A.quiet (FK [lP,oR] Bk) Bk) aj).bind fun nD=>
             (A.guard gI true (A.leq qz nD) aj).bind fun nE=>
             (A.pick gI nE aD).bind fun sX=>
             ((A.lb (oa.getD 2 U.undef)).bind fun _=>some (3)).bind fun p85=>
                          (A.guard sX true ((A.lb (oa.getD 2 U.undef)).bind fun c86=>A.an p85 c86) aj).bind fun ko=>
             (A.guard sX true ((A.lb (oa.getD 0 U.undef)).bind fun CF=>A.az 0 2 CF) aj).bind fun sk=>
             (A.guard sX true (A.az 0 4 kQ) aj).bind fun x90=>
             (A.guard sX true (A.quiet (FK [sk,x90] Bk) Bk) aj).bind fun x91=>
             (A.guard sX true (A.leq ko x91) aj).bind fun wC=>
             (A.pick sX wC aD).bind fun x93=>
             A.cond x93 (
              some (AX.ret,[(oa.getD 0 U.undef),(U.int .i64 12),(oa.getD 2 U.undef),(oa.getD 3 U.undef)],Bk)) (
              (A.add (oa.getD 3 U.undef) aI).bind fun ux=>
              some (AX.normal,[(oa.getD 0 U.undef),(oa.getD 1 U.undef),(oa.getD 2 U.undef),ux],Bk))) (
             some (AX.exit 3,[(oa.getD 0 U.undef),(oa.getD 1 U.undef),(oa.getD 2 U.undef),(oa.getD 3 U.undef)],Bk))) [(v10.getD 0 U.undef),(v10.getD 1 U.undef),(U.lbx eu),ah] iW.2).bind fun Bj=>
          bif Bj.1==AX.exit 3 then(
           (A.add (v10.getD 2 U.undef) aI).bind fun x96=>
           some (AX.normal,[(Bj.2.1.getD 0 U.undef),(Bj.2.1.getD 1 U.undef),x96],Bj.2.2))else
          bif Bj.1==AX.ret then(
           some (AX.ret,[(Bj.2.1.getD 0 U.undef),(Bj.2.1.getD 1 U.undef),(v10.getD 2 U.undef)],Bj.2.2))else
          none))))) (
      some (AX.exit 0,[(v10.getD 0 U.undef),(v10.getD 1 U.undef),(v10.getD 2 U.undef)],gL))) [(U.lbx c1),ah,ah] r3.2).bind fun HX=>
   bif HX.1==AX.exit 0 then(
    A.fin σ ah HX.2.2)else
   bif HX.1==AX.ret then(
    A.fin σ (HX.2.1.getD 1 U.undef) HX.2.2)else
   none))
noncomputable def MQ:List U→Heap→Option (U×Heap):=A.wrap true [xH] .k (A.dU MV)
noncomputable def Ot (a0 a1:U) (σ:Heap):Option (U×Heap):=
 (A.cells 2 a0).bind fun c1=>
 (A.an 1 c1).bind fun x2=>
 (A.aT x2).bind fun x3=>
 (A.loop (fun v4 s5=>
   (A.lss (v4.getD 1 U.undef) x3).bind fun x7=>
   A.cond x7 (
    (A.aN 4 x2 (v4.getD 1 U.undef)).bind fun x8=>
    ((A.deref x8 s5).bind fun c9=>A.az 0 4 c9).bind fun bf=>
    (A.cells 4 bf).bind fun dw=>
    (A.splice 0 dw [ah,aW,ah,ah]).bind fun bR=>
    (A.an 0 bR).bind fun bF=>
    (A.eql .i bF a1).bind fun bw=>
    A.cond bw (
     some (AX.ret,[(v4.getD 1 U.undef),(v4.getD 1 U.undef)],s5)) (
     (A.add (v4.getD 1 U.undef) aI).bind fun bU=>
     some (AX.normal,[(v4.getD 0 U.undef),bU],s5))) (
    some (AX.exit 0,[(v4.getD 0 U.undef),(v4.getD 1 U.undef)],s5))) [ah,ah] σ).bind fun u0=>
 bif u0.1==AX.exit 0 then(
  A.fin σ (U.int .i64 (-1)) u0.2.2)else
 bif u0.1==AX.ret then(
  A.fin σ (u0.2.1.getD 0 U.undef) u0.2.2)else
 none
noncomputable def Ol:List U→Heap→Option (U×Heap):=A.wrap true [xH] .k (A.cM Ot)
noncomputable def N7 (a0 a1:U) (σ:Heap):Option (U×Heap):=
 (A.cells 3 a0).bind fun c1=>
 (A.an 2 c1).bind fun x2=>
 (A.aT x2).bind fun x3=>
 (A.loop (fun v4 s5=>
   (A.lss (v4.getD 2 U.undef) x3).bind fun x7=>
   A.cond x7 (
    (A.aN 7 x2 (v4.getD 2 U.undef)).bind fun x8=>
    ((A.deref x8 s5).bind fun c9=>A.az 0 7 c9).bind fun bf=>
    (A.cells 7 bf).bind fun dw=>
    (A.splice 0 dw [aW,ah,ah,ah,ah,aD,U.aH]).bind fun bR=>
    (A.an 0 bR).bind fun bF=>
    (A.eql .z bF a1).bind fun bw=>
    A.cond bw (
     (A.az 0 7 bR).bind fun bU=>
     (A.lb (v4.getD 0 U.undef)).bind fun eu=>
     (A.cells 7 bU).bind fun jW=>
     (A.splice 0 jW eu).bind fun iN=>
     some (AX.ret,[(U.lbx iN),br,(v4.getD 2 U.undef)],s5)) (
     (A.add (v4.getD 2 U.undef) aI).bind fun cg=>
     some (AX.normal,[(v4.getD 0 U.undef),(v4.getD 1 U.undef),cg],s5))) (
    some (AX.exit 0,[(v4.getD 0 U.undef),(v4.getD 1 U.undef),(v4.getD 2 U.undef)],s5))) [(U.lbx [aW,ah,ah,ah,ah,aD,U.aH]),aD,ah] σ).bind fun fA=>
 bif fA.1==AX.exit 0 then(
  (A.lb (fA.2.1.getD 0 U.undef)).bind fun iV=>
  (A.cells 7 (U.agg [aW,ah,ah,ah,ah,aD,U.aH])).bind fun iu=>
  (A.splice 0 iu iV).bind fun lK=>
  (A.az 0 7 lK).bind fun x24=>
  A.fin σ (U.aL [x24,aD]) fA.2.2)else
 bif fA.1==AX.ret then(
  ((A.lb (fA.2.1.getD 0 U.undef)).bind fun jE=>A.az 0 7 jE).bind fun x25=>
  A.fin σ (U.aL [x25,(fA.2.1.getD 1 U.undef)]) fA.2.2)else
 none
noncomputable def N1:List U→Heap→Option (U×Heap):=A.wrap true [(.a [.k,.k,(.s 7)])] (.t [(.a qK),.k]) (A.cM N7)
noncomputable def Nc (a0 a1:U) (σ:Heap):Option (U×Heap):=
 (A.cells 2 a0).bind fun c1=>
 (A.cells 2 a1).bind fun c2=>
 (A.az 0 2 c1).bind fun x3=>
 (A.an 0 c2).bind fun x4=>
 (Ol [x3,x4] σ).bind fun r5=>
 (A.lss r5.1 ah).bind fun x6=>
 A.cond x6 (
  (A.cells 7 (U.agg [aW,ah,ah,ah,ah,aD,U.aH])).bind fun c7=>
  (A.splice 0 c7 [aW,ah,ah,ah,ah,aD,U.aH]).bind fun c8=>
  (A.az 0 7 c8).bind fun x9=>
  A.fin σ (U.aL [x9,aD]) r5.2) (
  (A.an 0 c1).bind fun bf=>
  (A.an 1 c1).bind fun bN=>
  (A.aN 4 bN r5.1).bind fun bC=>
  (A.bA 1 bC).bind fun bF=>
  ((A.deref bF r5.2).bind fun gh=>A.an 0 gh).bind fun bU=>
  (A.quiet (Bs [bf,bU] r5.2) r5.2).bind fun bl=>
  (A.ext 0 bl).bind fun bZ=>
  (A.ext 1 bl).bind fun cU=>
  (A.cells 3 bZ).bind fun kP=>
  (A.splice 0 kP [aW,ah,U.aH]).bind fun i7=>
  (A.az 0 3 i7).bind fun bg=>
  (A.an 1 c2).bind fun bB=>
  (N1 [bg,bB] r5.2).bind fun kS=>
  (A.ext 0 kS.1).bind fun x24=>
  (A.ext 1 kS.1).bind fun x25=>
  (A.cells 7 x24).bind fun jE=>
  (A.splice 0 jE [aW,ah,ah,ah,ah,aD,U.aH]).bind fun l6=>
  (A.az 0 7 l6).bind fun x28=>
  A.fin σ (U.aL [x28,x25]) kS.2)
noncomputable def zX:List U→Heap→Option (U×Heap):=A.wrap true [xH] (.t [(.a qK),.k]) (A.cM Nc)
noncomputable def ND (a0:U) (σ:Heap):Option (U×Heap):=
 (A.cells 2 a0).bind fun c1=>
 (A.an 1 c1).bind fun x2=>
 (A.aT x2).bind fun x3=>
 (A.loop (fun v4 s5=>
   (A.lss (v4.getD 2 U.undef) x3).bind fun x7=>
   A.cond x7 (
    (A.aN 4 x2 (v4.getD 2 U.undef)).bind fun x8=>
    ((A.deref x8 s5).bind fun c9=>A.az 0 4 c9).bind fun bf=>
    (A.cells 4 bf).bind fun dw=>
    (A.splice 0 dw [ah,aW,ah,ah]).bind fun bR=>
    ((A.lb (v4.getD 0 U.undef)).bind fun _=>some (0)).bind fun HS=>
    ((A.lb (v4.getD 0 U.undef)).bind fun gh=>A.an HS gh).bind fun bU=>
    (A.an 1 bR).bind fun bl=>
    (Bs [bU,bl] s5).bind fun eT=>
    (A.ext 0 eT.1).bind fun cU=>
    (A.ext 1 eT.1).bind fun cg=>
    (A.cells 3 cU).bind fun i7=>
    (A.splice 0 i7 [aW,ah,U.aH]).bind fun iu=>
    (A.an 2 iu).bind fun bB=>
    (A.aT bB).bind fun ct=>
    (A.loop (fun v24 Sw=>
      (A.lss (v24.getD 3 U.undef) ct).bind fun cR=>
      A.cond cR (
       (A.aN 7 bB (v24.getD 3 U.undef)).bind fun x28=>
       ((A.deref x28 Sw).bind fun qT=>A.az 0 7 qT).bind fun cO=>
       (A.cells 7 cO).bind fun qU=>
       (A.splice 0 qU [aW,ah,ah,ah,ah,aD,U.aH]).bind fun vQ=>
       ((A.lb (v24.getD 2 U.undef)).bind fun _=>some (0)).bind fun Sd=>
       ((A.lb (v24.getD 2 U.undef)).bind fun tZ=>A.an Sd tZ).bind fun fB=>
       (A.an 0 vQ).bind fun jG=>
       ((((A.cell fB).bind fun v=>some [v]).bind fun uc=>(A.splice 0 uc [ah,aW]).bind fun qh=>((A.cell jG).bind fun v=>some [v]).bind fun jX=>(A.splice 1 jX qh).bind fun l7=>some l7).bind fun cs=>some (U.agg cs)).bind fun fW=>
       (((A.cells 2 fW).bind fun qi=>(A.splice 0 qi [ah,aW]).bind fun mw=>some mw).bind fun cs=>some (U.sl 2 (chunks 2 1 cs))).bind fun dH=>
       (A.append 2 (140737488355328 / 24) (v24.getD 1 U.undef) dH Sw).bind fun HV=>
       (A.add (v24.getD 3 U.undef) aI).bind fun ia=>
       some (AX.normal,[(v24.getD 0 U.undef),HV.1,(v24.getD 2 U.undef),ia],HV.2)) (
       some (AX.exit 2,[(v24.getD 0 U.undef),(v24.getD 1 U.undef),(v24.getD 2 U.undef),(v24.getD 3 U.undef)],Sw))) [(v4.getD 0 U.undef),(v4.getD 1 U.undef),(U.lbx bR),ah] eT.2).bind fun oO=>
    bif oO.1==AX.exit 2 then(
     (A.add (v4.getD 2 U.undef) aI).bind fun gG=>
     some (AX.normal,[(oO.2.1.getD 0 U.undef),(oO.2.1.getD 1 U.undef),gG],oO.2.2))else
    none) (
    some (AX.exit 0,[(v4.getD 0 U.undef),(v4.getD 1 U.undef),(v4.getD 2 U.undef)],s5))) [(U.lbx c1),U.aH,ah] σ).bind fun Sk=>
 bif Sk.1==AX.exit 0 then(
  A.fin σ (Sk.2.1.getD 1 U.undef) Sk.2.2)else
 none
noncomputable def Nv:List U→Heap→Option (U×Heap):=A.wrap true [xH] (.s 2) (A.dU ND)
noncomputable def Nb (a0 a1 a2:U) (σ:Heap):Option (U×Heap):=
 (A.cells 2 a1).bind fun c1=>
 (A.aT a0).bind fun x2=>
 (A.loop (fun v3 s4=>
   (A.lss (v3.getD 2 U.undef) x2).bind fun x6=>
   A.cond x6 (
    (A.aN 3 a0 (v3.getD 2 U.undef)).bind fun x7=>
    ((A.deref x7 s4).bind fun c8=>A.az 0 3 c8).bind fun x9=>
    (A.cells 3 x9).bind fun dr=>
    (A.splice 0 dr [ah,aW,ah]).bind fun dw=>
    (A.az 0 2 dw).bind fun bC=>
    ((A.lb (v3.getD 0 U.undef)).bind fun ep=>A.az 0 2 ep).bind fun bw=>
    (A.eql (.s [0,2]) bC bw).bind fun bU=>
    A.cond bU (
     (A.an 2 dw).bind fun bl=>
     some (AX.ret,[(v3.getD 0 U.undef),bl,(v3.getD 2 U.undef)],s4)) (
     (A.add (v3.getD 2 U.undef) aI).bind fun bZ=>
     some (AX.normal,[(v3.getD 0 U.undef),(v3.getD 1 U.undef),bZ],s4))) (
    some (AX.exit 0,[(v3.getD 0 U.undef),(v3.getD 1 U.undef),(v3.getD 2 U.undef)],s4))) [(U.lbx c1),ah,ah] σ).bind fun cI=>
 bif cI.1==AX.exit 0 then(
  A.fin σ a2 cI.2.2)else
 bif cI.1==AX.ret then(
  A.fin σ (cI.2.1.getD 1 U.undef) cI.2.2)else
 none
noncomputable def sZ:List U→Heap→Option (U×Heap):=A.wrap true [(.s 3)] .k (A.eG Nb)
end
section
set_option maxRecDepth 100000
noncomputable def NF (a0 a1:U) (σ:Heap):Option (U×Heap):=
 (A.cells 2 a0).bind fun c1=>
 (A.cells 2 a1).bind fun c2=>
 (A.an 0 c1).bind fun x3=>
 (A.an 0 c2).bind fun x4=>
 (A.lss x3 x4).bind fun x5=>
 (A.guard x5 false (A.an 0 c1) aj).bind fun x6=>
 (A.guard x5 false (A.an 0 c2) aj).bind fun x7=>
 (A.guard x5 false (A.eql .i x6 x7) aj).bind fun x8=>
 (A.guard x5 false (some x8) aj).bind fun x9=>
 (A.guard x9 true (A.an 1 c1) aj).bind fun bf=>
 (A.guard x9 true (A.an 1 c2) aj).bind fun bN=>
 (A.guard x9 true (A.lss bf bN) aj).bind fun bC=>
 (A.guard x5 false (A.pick x9 bC aD) aj).bind fun bF=>
 (A.pick x5 br bF).bind fun bw=>
 A.fin σ bw σ
noncomputable def Dy:List U→Heap→Option (U×Heap):=A.wrap true [] .k (A.cM NF)
noncomputable def Mt (a0 a1:U) (σ:Heap):Option (U×Heap):=
 (A.cells 2 a0).bind fun c1=>
 (A.az 0 2 c1).bind fun x2=>
 (MQ [x2] σ).bind fun r3=>
 (A.neq .i r3.1 ah).bind fun x4=>
 A.cond x4 (
  A.fin σ r3.1 r3.2) (
  (A.aT a1).bind fun x5=>
  (A.gtr x5 (U.int .i64 200)).bind fun x6=>
  A.cond x6 (
   A.fin σ (U.int .i64 2) r3.2) (
   (A.aT a1).bind fun x7=>
   (A.loop (fun v8 s9=>
     (A.lss (v8.getD 2 U.undef) x7).bind fun bN=>
     A.cond bN (
      (A.aN 3 a1 (v8.getD 2 U.undef)).bind fun bC=>
      ((A.deref bC s9).bind fun ep=>A.az 0 3 ep).bind fun bw=>
      (A.cells 3 bw).bind fun fV=>
      (A.splice 0 fV [ah,aW,U.aH]).bind fun jW=>
      (A.an 0 jW).bind fun bZ=>
      (oh [bZ,aI,(U.int .i64 999)] s9).bind fun cI=>
      (A.not cI.1).bind fun cg=>
      A.cond cg (
       some (AX.ret,[(v8.getD 0 U.undef),aI,(v8.getD 2 U.undef)],cI.2)) (
       (A.gtr (v8.getD 2 U.undef) ah).bind fun bI=>
       (A.guard bI true (A.an 0 jW) aj).bind fun bg=>
       (A.guard bI true (some a1) aj).bind fun bB=>
       (A.guard bI true (some (v8.getD 2 U.undef)) aj).bind fun ct=>
       (A.guard bI true (A.sub ct aI) aj).bind fun x24=>
       (A.guard bI true (A.aN 3 bB x24) aj).bind fun x25=>
       (A.guard bI true (A.bA 0 x25) aj).bind fun cN=>
       (A.guard bI true ((A.deref cN cI.2).bind fun l6=>A.an 0 l6) aj).bind fun x28=>
       (A.guard bI true (A.leq bg x28) aj).bind fun x29=>
       (A.pick bI x29 aD).bind fun cO=>
       A.cond cO (
        some (AX.ret,[(v8.getD 0 U.undef),(U.int .i64 7),(v8.getD 2 U.undef)],cI.2)) (
        (A.an 1 jW).bind fun x31=>
        (A.neq .z x31 aW).bind fun x32=>
        (A.guard x32 true (A.an 1 jW) aj).bind fun gj=>
        (A.guard x32 true (A.quiet (I6 [gj] cI.2) cI.2) aj).bind fun x34=>
        (A.guard x32 true (A.not x34) aj).bind fun fB=>
        (A.pick x32 fB aD).bind fun jG=>
        A.cond jG (
         some (AX.ret,[(v8.getD 0 U.undef),(U.int .i64 3),(v8.getD 2 U.undef)],cI.2)) (
         (A.an 2 jW).bind fun cV=>
         (A.aT cV).bind fun x38=>
         (A.gtr x38 (U.int .i64 2000)).bind fun gy=>
         A.cond gy (
          some (AX.ret,[(v8.getD 0 U.undef),(U.int .i64 2),(v8.getD 2 U.undef)],cI.2)) (
          (A.an 2 jW).bind fun fG=>
          (A.aT fG).bind fun fW=>
          (A.loop (fun je zR=>
            (A.lss (je.getD 3 U.undef) fW).bind fun ew=>
            A.cond ew (
             (A.aN 3 fG (je.getD 3 U.undef)).bind fun ia=>
             ((A.deref ia zR).bind fun rS=>A.az 0 3 rS).bind fun gG=>
             (A.cells 3 gG).bind fun vR=>
             (A.splice 0 vR [ah,aW,ah]).bind fun kG=>
             ((A.lb (je.getD 0 U.undef)).bind fun Cx=>A.az 0 2 Cx).bind fun eM=>
             (A.az 0 2 kG).bind fun kg=>
             (zX [eM,kg] zR).bind fun LJ=>
             (A.ext 0 LJ.1).bind fun iP=>
             (A.ext 1 LJ.1).bind fun gO=>
             (A.cells 7 iP).bind fun Ru=>
             (A.splice 0 Ru [aW,ah,ah,ah,ah,aD,U.aH]).bind fun uX=>
             (A.not gO).bind fun jv=>
             A.cond jv (
              some (AX.ret,[(je.getD 0 U.undef),(U.int .i64 8),(je.getD 2 U.undef),(je.getD 3 U.undef)],LJ.2)) (
              (A.an 2 kG).bind fun iQ=>
              (zW [iQ] LJ.2).bind fun mP=>
              (A.not mP.1).bind fun gW=>
              A.cond gW (
               some (AX.ret,[(je.getD 0 U.undef),aI,(je.getD 2 U.undef),(je.getD 3 U.undef)],mP.2)) (
               (A.gtr (je.getD 3 U.undef) ah).bind fun dW=>
               ((A.lb (je.getD 2 U.undef)).bind fun _=>some (2)).bind fun Sg=>
                              (A.guard dW true ((A.lb (je.getD 2 U.undef)).bind fun CC=>A.an Sg CC) aj).bind fun mE=>
               (A.guard dW true (some (je.getD 3 U.undef)) aj).bind fun gX=>
               (A.guard dW true (A.sub gX aI) aj).bind fun kj=>
               (A.guard dW true (A.aN 3 mE kj) aj).bind fun jg=>
               (A.guard dW true (A.bA 0 jg) aj).bind fun kU=>
               (A.guard dW true ((A.deref kU mP.2).bind fun kQ=>A.az 0 2 kQ) aj).bind fun kV=>
               (A.guard dW true (A.az 0 2 kG) aj).bind fun kn=>
               (A.guard dW true (A.quiet (Dy [kV,kn] mP.2) mP.2) aj).bind fun gY=>
               (A.guard dW true (A.not gY) aj).bind fun gP=>
               (A.pick dW gP aD).bind fun gI=>
               A.cond gI (
                some (AX.ret,[(je.getD 0 U.undef),(U.int .i64 7),(je.getD 2 U.undef),(je.getD 3 U.undef)],mP.2)) (
                (A.add (je.getD 3 U.undef) aI).bind fun qz=>
                some (AX.normal,[(je.getD 0 U.undef),(je.getD 1 U.undef),(je.getD 2 U.undef),qz],mP.2))))) (
             some (AX.exit 3,[(je.getD 0 U.undef),(je.getD 1 U.undef),(je.getD 2 U.undef),(je.getD 3 U.undef)],zR))) [(v8.getD 0 U.undef),(v8.getD 1 U.undef),(U.lbx jW),ah] cI.2).bind fun jO=>
          bif jO.1==AX.exit 3 then(
           (A.add (v8.getD 2 U.undef) aI).bind fun lP=>
           some (AX.normal,[(jO.2.1.getD 0 U.undef),(jO.2.1.getD 1 U.undef),lP],jO.2.2))else
          bif jO.1==AX.ret then(
           some (AX.ret,[(jO.2.1.getD 0 U.undef),(jO.2.1.getD 1 U.undef),(v8.getD 2 U.undef)],jO.2.2))else
          none))))) (
      some (AX.exit 0,[(v8.getD 0 U.undef),(v8.getD 1 U.undef),(v8.getD 2 U.undef)],s9))) [(U.lbx c1),ah,ah] r3.2).bind fun jd=>
   bif jd.1==AX.exit 0 then(
    A.fin σ ah jd.2.2)else
   bif jd.1==AX.ret then(
    A.fin σ (jd.2.1.getD 1 U.undef) jd.2.2)else
   none))
noncomputable def Mq:List U→Heap→Option (U×Heap):=A.wrap true [xH,(.s 3)] .k (A.cM Mt)
noncomputable def MW (a0 a1:U) (σ:Heap):Option (U×Heap):=
 (A.aT a0).bind fun x1=>
 (A.loop (fun v2 s3=>
   (A.lss (v2.getD 2 U.undef) x1).bind fun x5=>
   A.cond x5 (
    (A.aN 3 a0 (v2.getD 2 U.undef)).bind fun x6=>
    ((A.deref x6 s3).bind fun c7=>A.az 0 3 c7).bind fun x8=>
    (A.cells 3 x8).bind fun c9=>
    (A.splice 0 c9 [ah,aW,U.aH]).bind fun dr=>
    (A.an 0 dr).bind fun bN=>
    (A.eql .i bN a1).bind fun bC=>
    A.cond bC (
     (A.az 0 3 dr).bind fun bF=>
     (A.lb (v2.getD 0 U.undef)).bind fun jW=>
     (A.cells 3 bF).bind fun gh=>
     (A.splice 0 gh jW).bind fun fV=>
     some (AX.ret,[(U.lbx fV),br,(v2.getD 2 U.undef)],s3)) (
     (A.add (v2.getD 2 U.undef) aI).bind fun bZ=>
     some (AX.normal,[(v2.getD 0 U.undef),(v2.getD 1 U.undef),bZ],s3))) (
    some (AX.exit 0,[(v2.getD 0 U.undef),(v2.getD 1 U.undef),(v2.getD 2 U.undef)],s3))) [(U.lbx [ah,aW,U.aH]),aD,ah] σ).bind fun cI=>
 bif cI.1==AX.exit 0 then(
  (A.lb (cI.2.1.getD 0 U.undef)).bind fun iu=>
  (A.cells 3 (U.agg [ah,aW,U.aH])).bind fun kP=>
  (A.splice 0 kP iu).bind fun i7=>
  (A.az 0 3 i7).bind fun bB=>
  A.fin σ (U.aL [bB,aD]) cI.2.2)else
 bif cI.1==AX.ret then(
  ((A.lb (cI.2.1.getD 0 U.undef)).bind fun eH=>A.az 0 3 eH).bind fun ct=>
  A.fin σ (U.aL [ct,(cI.2.1.getD 1 U.undef)]) cI.2.2)else
 none
noncomputable def MR:List U→Heap→Option (U×Heap):=A.wrap true [(.s 3)] (.t [(.a [.k,.k,(.s 3)]),.k]) (A.cM MW)
noncomputable def N9 (a0 a1 a2:U) (σ:Heap):Option (U×Heap):=
 (A.cells 2 a1).bind fun c1=>
 (A.cells 2 a2).bind fun c2=>
 (A.an 0 c2).bind fun x3=>
 (A.neq .i x3 ah).bind fun x4=>
 (A.guard x4 true (A.an 1 c2) aj).bind fun x5=>
 (A.guard x4 true (A.neq .i x5 ah) aj).bind fun x6=>
 (A.pick x4 x6 aD).bind fun x7=>
 A.cond x7 (
  A.fin σ (U.aL [ah,(U.int .i64 3)]) σ) (
  (A.an 0 c2).bind fun x8=>
  (zW [x8] σ).bind fun r9=>
  (A.not r9.1).bind fun bf=>
  A.cond bf (
   A.fin σ (U.aL [ah,aI]) r9.2) (
   (A.an 1 c2).bind fun bN=>
   (A.eql .i bN ah).bind fun bC=>
   A.cond bC (
    (A.an 0 c2).bind fun bF=>
    A.fin σ (U.aL [bF,ah]) r9.2) (
    (A.an 1 c2).bind fun bw=>
    (MR [a0,bw] r9.2).bind fun dG=>
    (A.ext 0 dG.1).bind fun bl=>
    (A.ext 1 dG.1).bind fun bZ=>
    (A.cells 3 bl).bind fun eu=>
    (A.splice 0 eu [ah,aW,U.aH]).bind fun kP=>
    (A.not bZ).bind fun bI=>
    A.cond bI (
     A.fin σ (U.aL [ah,(U.int .i64 8)]) dG.2) (
     (A.an 2 kP).bind fun bg=>
     (A.aT bg).bind fun bB=>
     (A.loop (fun v23 LM=>
       (A.lss (v23.getD 3 U.undef) bB).bind fun cN=>
       A.cond cN (
        (A.aN 3 bg (v23.getD 3 U.undef)).bind fun cR=>
        ((A.deref cR LM).bind fun mu=>A.az 0 3 mu).bind fun x29=>
        (A.cells 3 x29).bind fun rQ=>
        (A.splice 0 rQ [ah,aW,ah]).bind fun qU=>
        (A.az 0 2 qU).bind fun x32=>
        ((A.lb (v23.getD 0 U.undef)).bind fun qV=>A.az 0 2 qV).bind fun x34=>
        (A.eql (.s [0,2]) x32 x34).bind fun fB=>
        A.cond fB (
         (A.an 2 qU).bind fun jG=>
         some (AX.ret,[(v23.getD 0 U.undef),jG,ah,(v23.getD 3 U.undef)],LM)) (
         (A.add (v23.getD 3 U.undef) aI).bind fun cV=>
         some (AX.normal,[(v23.getD 0 U.undef),(v23.getD 1 U.undef),(v23.getD 2 U.undef),cV],LM))) (
        some (AX.exit 1,[(v23.getD 0 U.undef),(v23.getD 1 U.undef),(v23.getD 2 U.undef),(v23.getD 3 U.undef)],LM))) [(U.lbx c1),ah,ah,ah] dG.2).bind fun mC=>
     bif mC.1==AX.exit 1 then(
      A.fin σ (U.aL [ah,(U.int .i64 8)]) mC.2.2)else
     bif mC.1==AX.ret then(
      A.fin σ (U.aL [(mC.2.1.getD 1 U.undef),(mC.2.1.getD 2 U.undef)]) mC.2.2)else
     none))))
noncomputable def Jy:List U→Heap→Option (U×Heap):=A.wrap true [(.s 3)] .k (A.eG N9)
end
section
set_option maxRecDepth 100000
noncomputable def MM (a0 a1:U) (σ:Heap):Option (U×Heap):=
 (A.cells 8 a0).bind fun c1=>
 (A.an 0 c1).bind fun x2=>
 (oh [x2,aI,(U.int .i64 9999)] σ).bind fun r3=>
 (A.not r3.1).bind fun x4=>
 A.cond x4 (
  A.fin σ aI r3.2) (
  (A.an 1 c1).bind fun x5=>
  (Dx [x5] r3.2).bind fun r6=>
  (A.not r6.1).bind fun x7=>
  A.cond x7 (
   A.fin σ (U.int .i64 5) r6.2) (
   (A.an 4 c1).bind fun x8=>
   (A.guard x8 true (A.az 2 2 c1) aj).bind fun x9=>
   (A.guard x8 true (some (U.agg [ah,ah])) aj).bind fun bf=>
   (A.guard x8 true (A.neq (.s [0,0]) x9 bf) aj).bind fun bN=>
   (A.pick x8 bN aD).bind fun bC=>
   (A.guard bC false (A.an 2 c1) aj).bind fun bF=>
   (A.guard bC false (A.neq .i bF ah) aj).bind fun bw=>
   (A.guard bC false (some bw) aj).bind fun bU=>
   (A.guard bU true (A.an 3 c1) aj).bind fun bl=>
   (A.guard bU true (A.neq .i bl ah) aj).bind fun bZ=>
   (A.guard bC false (A.pick bU bZ aD) aj).bind fun cU=>
   (A.pick bC br cU).bind fun cg=>
   A.cond cg (
    A.fin σ (U.int .i64 3) r6.2) (
    (A.an 2 c1).bind fun bI=>
    (zW [bI] r6.2).bind fun dV=>
    (A.not dV.1).bind fun bB=>
    (A.guard bB false (A.an 3 c1) aj).bind fun ct=>
    (A.guard bB false (A.quiet (oh [ct,ah,(U.int .i64 999)] dV.2) dV.2) aj).bind fun x24=>
    (A.guard bB false (A.not x24) aj).bind fun x25=>
    (A.pick bB br x25).bind fun cN=>
    A.cond cN (
     A.fin σ aI dV.2) (
     (A.an 5 c1).bind fun cR=>
     (A.not cR).bind fun x28=>
     (A.guard x28 true (A.an 6 c1) aj).bind fun x29=>
     (A.guard x28 true (A.neq .i x29 ah) aj).bind fun cO=>
     (A.guard x28 true (some cO) aj).bind fun x31=>
     (A.guard x31 false (A.an 7 c1) aj).bind fun x32=>
     (A.guard x31 false (A.neq .i x32 ah) aj).bind fun gj=>
     (A.guard x28 true (A.pick x31 br gj) aj).bind fun x34=>
     (A.pick x28 x34 aD).bind fun fB=>
     A.cond fB (
      A.fin σ (U.int .i64 3) dV.2) (
      (A.an 6 c1).bind fun jG=>
      (Ac [jG] dV.2).bind fun nY=>
      (A.not nY.1).bind fun x38=>
      (A.guard x38 false (A.an 7 c1) aj).bind fun gy=>
      (A.guard x38 false (A.quiet (Ac [gy] nY.2) nY.2) aj).bind fun fG=>
      (A.guard x38 false (A.not fG) aj).bind fun fW=>
      (A.pick x38 br fW).bind fun fZ=>
      A.cond fZ (
       A.fin σ aI nY.2) (
       (A.aT a1).bind fun fM=>
       (A.gtr fM ah).bind fun dH=>
       (A.guard dH true (some a1) aj).bind fun ew=>
       (A.guard dH true (some a1) aj).bind fun ia=>
       (A.guard dH true (A.aT ia) aj).bind fun dK=>
       (A.guard dH true (A.sub dK aI) aj).bind fun gG=>
       (A.guard dH true (A.aN 8 ew gG) aj).bind fun ig=>
       (A.guard dH true (A.bA 0 ig) aj).bind fun fC=>
       (A.guard dH true ((A.deref fC nY.2).bind fun Cx=>A.az 0 2 Cx) aj).bind fun eM=>
       (A.guard dH true (A.az 0 2 c1) aj).bind fun kg=>
       (A.guard dH true (A.quiet (Dy [eM,kg] nY.2) nY.2) aj).bind fun ga=>
       (A.guard dH true (A.not ga) aj).bind fun iP=>
       (A.pick dH iP aD).bind fun gO=>
       A.cond gO (
        A.fin σ (U.int .i64 7) nY.2) (
        A.fin σ ah nY.2)))))))
noncomputable def MJ:List U→Heap→Option (U×Heap):=A.wrap true [.k,(.s 8)] .k (A.cM MM)
noncomputable def MF (a0:U) (σ:Heap):Option (U×Heap):=
 (A.aT a0).bind fun x1=>
 (A.gtr x1 (U.int .i64 2000)).bind fun x2=>
 A.cond x2 (
  A.fin σ (U.int .i64 2) σ) (
  (A.aT a0).bind fun x3=>
  (A.loop (fun v4 s5=>
    (A.lss (v4.getD 1 U.undef) x3).bind fun x7=>
    A.cond x7 (
     (A.aN 8 a0 (v4.getD 1 U.undef)).bind fun x8=>
     ((A.deref x8 s5).bind fun c9=>A.az 0 8 c9).bind fun bf=>
     (A.cells 8 bf).bind fun dw=>
     (A.splice 0 dw [ah,aW,ah,ah,aD,aD,ah,ah]).bind fun bR=>
     (A.az 0 8 bR).bind fun bF=>
     (A.bG 8 a0 none (some (v4.getD 1 U.undef)) s5).bind fun bw=>
     (A.quiet (MJ [bF,bw] s5) s5).bind fun bU=>
     (A.neq .i bU ah).bind fun bl=>
     A.cond bl (
      some (AX.ret,[bU,(v4.getD 1 U.undef)],s5)) (
      (A.add (v4.getD 1 U.undef) aI).bind fun bZ=>
      some (AX.normal,[(v4.getD 0 U.undef),bZ],s5))) (
     some (AX.exit 0,[(v4.getD 0 U.undef),(v4.getD 1 U.undef)],s5))) [ah,ah] σ).bind fun cI=>
  bif cI.1==AX.exit 0 then(
   A.fin σ ah cI.2.2)else
  bif cI.1==AX.ret then(
   A.fin σ (cI.2.1.getD 0 U.undef) cI.2.2)else
  none)
noncomputable def MC:List U→Heap→Option (U×Heap):=A.wrap true [(.s 8)] .k (A.dU MF)
noncomputable def MK (a0:U) (σ:Heap):Option (U×Heap):=
 (A.aT a0).bind fun x1=>
 (A.gtr x1 (U.int .i64 300)).bind fun x2=>
 A.cond x2 (
  A.fin σ (U.int .i64 2) σ) (
  (A.aT a0).bind fun x3=>
  (A.loop (fun v4 s5=>
    (A.lss (v4.getD 2 U.undef) x3).bind fun x7=>
    A.cond x7 (
     (A.aN 11 a0 (v4.getD 2 U.undef)).bind fun x8=>
     ((A.deref x8 s5).bind fun c9=>A.az 0 11 c9).bind fun bf=>
     (A.cells 11 bf).bind fun dw=>
     (A.splice 0 dw [ah,aW,ah,ah,ah,ah,ah,U.aH,aD,ah,U.aH]).bind fun bR=>
     (A.an 0 bR).bind fun bF=>
     (oh [bF,aI,(U.int .i64 9999999)] s5).bind fun eL=>
     (A.not eL.1).bind fun bU=>
     A.cond bU (
      some (AX.ret,[aI,(v4.getD 1 U.undef),(v4.getD 2 U.undef)],eL.2)) (
      (A.gtr (v4.getD 2 U.undef) ah).bind fun bl=>
      (A.guard bl true (A.an 0 bR) aj).bind fun bZ=>
      (A.guard bl true (some a0) aj).bind fun cU=>
      (A.guard bl true (some (v4.getD 2 U.undef)) aj).bind fun cg=>
      (A.guard bl true (A.sub cg aI) aj).bind fun bI=>
      (A.guard bl true (A.aN 11 cU bI) aj).bind fun bg=>
      (A.guard bl true (A.bA 0 bg) aj).bind fun bB=>
      (A.guard bl true ((A.deref bB eL.2).bind fun iV=>A.an 0 iV) aj).bind fun x24=>
      (A.guard bl true (A.leq bZ x24) aj).bind fun x25=>
      (A.pick bl x25 aD).bind fun cN=>
      A.cond cN (
       some (AX.ret,[(U.int .i64 7),(v4.getD 1 U.undef),(v4.getD 2 U.undef)],eL.2)) (
       (A.an 1 bR).bind fun cR=>
       (A.neq .z cR aW).bind fun x28=>
       (A.guard x28 true (A.an 1 bR) aj).bind fun x29=>
       (A.guard x28 true (A.quiet (I6 [x29] eL.2) eL.2) aj).bind fun cO=>
       (A.guard x28 true (A.not cO) aj).bind fun x31=>
       (A.pick x28 x31 aD).bind fun x32=>
       A.cond x32 (
        some (AX.ret,[(U.int .i64 3),(v4.getD 1 U.undef),(v4.getD 2 U.undef)],eL.2)) (
        (A.an 2 bR).bind fun gj=>
        (Ac [gj] eL.2).bind fun iB=>
        (A.not iB.1).bind fun fB=>
        (A.guard fB false (A.an 3 bR) aj).bind fun jG=>
        (A.guard fB false (A.quiet (Ac [jG] iB.2) iB.2) aj).bind fun cV=>
        (A.guard fB false (A.not cV) aj).bind fun x38=>
        (A.pick fB br x38).bind fun gy=>
        (A.guard gy false (A.an 4 bR) aj).bind fun fG=>
        (A.guard gy false (A.quiet (Ac [fG] iB.2) iB.2) aj).bind fun fW=>
        (A.guard gy false (A.not fW) aj).bind fun fZ=>
        (A.pick gy br fZ).bind fun fM=>
        (A.guard fM false (A.an 5 bR) aj).bind fun dH=>
        (A.guard fM false (A.quiet (Ac [dH] iB.2) iB.2) aj).bind fun ew=>
        (A.guard fM false (A.not ew) aj).bind fun ia=>
        (A.pick fM br ia).bind fun dK=>
        (A.guard dK false (A.an 9 bR) aj).bind fun gG=>
        (A.guard dK false (A.quiet (oh [gG,(U.int .i64 (-1)),(U.int .i64 36000000)] iB.2) iB.2) aj).bind fun ig=>
        (A.guard dK false (A.not ig) aj).bind fun fC=>
        (A.pick dK br fC).bind fun ef=>
        A.cond ef (
         some (AX.ret,[aI,(v4.getD 1 U.undef),(v4.getD 2 U.undef)],iB.2)) (
         (A.az 6 2 bR).bind fun eM=>
         (MA [eM] iB.2).bind fun iX=>
         (A.neq .i iX.1 ah).bind fun ga=>
         A.cond ga (
          some (AX.ret,[iX.1,(v4.getD 1 U.undef),(v4.getD 2 U.undef)],iX.2)) (
          (A.an 10 bR).bind fun iP=>
          (MC [iP] iX.2).bind fun zP=>
          (A.neq .i zP.1 ah).bind fun jf=>
          A.cond jf (
           some (AX.ret,[zP.1,(v4.getD 1 U.undef),(v4.getD 2 U.undef)],zP.2)) (
           (A.an 10 bR).bind fun gb=>
           (A.aT gb).bind fun jv=>
           (A.add (v4.getD 1 U.undef) jv).bind fun iQ=>
           (A.add (v4.getD 2 U.undef) aI).bind fun gH=>
           some (AX.normal,[(v4.getD 0 U.undef),iQ,gH],zP.2)))))))) (
     some (AX.exit 0,[(v4.getD 0 U.undef),(v4.getD 1 U.undef),(v4.getD 2 U.undef)],s5))) [ah,ah,ah] σ).bind fun nZ=>
  bif nZ.1==AX.exit 0 then(
   (A.gtr (nZ.2.1.getD 1 U.undef) (U.int .i64 10000)).bind fun dW=>
   A.cond dW (
    A.fin σ (U.int .i64 2) nZ.2.2) (
    A.fin σ ah nZ.2.2))else
  bif nZ.1==AX.ret then(
   A.fin σ (nZ.2.1.getD 0 U.undef) nZ.2.2)else
  none)
noncomputable def Dj:List U→Heap→Option (U×Heap):=A.wrap true [(.e 11 eZ)] .k (A.dU MK)
noncomputable def ML (a0 a1 a2:U) (σ:Heap):Option (U×Heap):=
 (A.cells 2 a0).bind fun c1=>
 (A.az 0 2 c1).bind fun x2=>
 (Mq [x2,a1] σ).bind fun r3=>
 (A.neq .i r3.1 ah).bind fun x4=>
 A.cond x4 (
  A.fin σ r3.1 r3.2) (
  (Dj [a2] r3.2).bind fun r5=>
  (A.neq .i r5.1 ah).bind fun x6=>
  A.cond x6 (
   A.fin σ r5.1 r5.2) (
   (A.aT a2).bind fun x7=>
   (A.loop (fun v8 s9=>
     (A.lss (v8.getD 2 U.undef) x7).bind fun bN=>
     A.cond bN (
      (A.aN 11 a2 (v8.getD 2 U.undef)).bind fun bC=>
      ((A.deref bC s9).bind fun ep=>A.az 0 11 ep).bind fun bw=>
      (A.cells 11 bw).bind fun fV=>
      (A.splice 0 fV [ah,aW,ah,ah,ah,ah,ah,U.aH,aD,ah,U.aH]).bind fun jW=>
      (A.an 10 jW).bind fun bZ=>
      (A.aT bZ).bind fun cU=>
      (A.loop (fun uu Su=>
        (A.lss (uu.getD 2 U.undef) cU).bind fun bB=>
        A.cond bB (
         (A.aN 8 bZ (uu.getD 2 U.undef)).bind fun ct=>
         ((A.deref ct Su).bind fun eH=>A.az 0 8 eH).bind fun x25=>
         (A.cells 8 x25).bind fun jE=>
         (A.splice 0 jE [ah,aW,ah,ah,aD,aD,ah,ah]).bind fun l6=>
         ((A.lb (uu.getD 0 U.undef)).bind fun mu=>A.az 0 2 mu).bind fun x29=>
         (A.az 0 2 l6).bind fun cO=>
         (zX [x29,cO] Su).bind fun dQ=>
         (A.ext 0 dQ.1).bind fun x32=>
         (A.ext 1 dQ.1).bind fun gj=>
         (A.cells 7 x32).bind fun tZ=>
         (A.splice 0 tZ [aW,ah,ah,ah,ah,aD,U.aH]).bind fun lE=>
         (A.not gj).bind fun jG=>
         A.cond jG (
          some (AX.ret,[(uu.getD 0 U.undef),(U.int .i64 8),(uu.getD 2 U.undef)],dQ.2)) (
          (A.az 0 2 l6).bind fun cV=>
          (A.az 2 2 l6).bind fun x38=>
          (Jy [a1,cV,x38] dQ.2).bind fun zO=>
          (A.ext 0 zO.1).bind fun fG=>
          (A.ext 1 zO.1).bind fun fW=>
          (A.neq .i fW ah).bind fun fZ=>
          A.cond fZ (
           some (AX.ret,[(uu.getD 0 U.undef),fW,(uu.getD 2 U.undef)],zO.2)) (
           (A.add (uu.getD 2 U.undef) aI).bind fun fM=>
           some (AX.normal,[(uu.getD 0 U.undef),(uu.getD 1 U.undef),fM],zO.2)))) (
         some (AX.exit 2,[(uu.getD 0 U.undef),(uu.getD 1 U.undef),(uu.getD 2 U.undef)],Su))) [(v8.getD 0 U.undef),(v8.getD 1 U.undef),ah] s9).bind fun lN=>
      bif lN.1==AX.exit 2 then(
       (A.add (v8.getD 2 U.undef) aI).bind fun ew=>
       some (AX.normal,[(lN.2.1.getD 0 U.undef),(lN.2.1.getD 1 U.undef),ew],lN.2.2))else
      bif lN.1==AX.ret then(
       some (AX.ret,[(lN.2.1.getD 0 U.undef),(lN.2.1.getD 1 U.undef),(v8.getD 2 U.undef)],lN.2.2))else
      none) (
      some (AX.exit 0,[(v8.getD 0 U.undef),(v8.getD 1 U.undef),(v8.getD 2 U.undef)],s9))) [(U.lbx c1),ah,ah] r5.2).bind fun iW=>
   bif iW.1==AX.exit 0 then(
    A.fin σ ah iW.2.2)else
   bif iW.1==AX.ret then(
    A.fin σ (iW.2.1.getD 1 U.undef) iW.2.2)else
   none))
noncomputable def Fi:List U→Heap→Option (U×Heap):=A.wrap true [lJ,qL,(.e 11 eZ)] .k (A.eG ML)
noncomputable def Oc (a0 a1:U) (σ:Heap):Option (U×Heap):=
 (A.cells 2 a1).bind fun c1=>
 (A.loop (fun v2 s3=>
   (A.aT a0).bind fun x5=>
   (A.lss (v2.getD 1 U.undef) x5).bind fun x6=>
   (A.guard x6 true (some a0) aj).bind fun x7=>
   (A.guard x6 true (some (v2.getD 1 U.undef)) aj).bind fun x8=>
   (A.guard x6 true (A.aN 5 x7 x8) aj).bind fun x9=>
   (A.guard x6 true (A.bA 0 x9) aj).bind fun bf=>
   (A.guard x6 true ((A.deref bf s3).bind fun dw=>A.az 0 2 dw) aj).bind fun bC=>
   (A.guard x6 true ((A.lb (v2.getD 0 U.undef)).bind fun ep=>A.az 0 2 ep) aj).bind fun bw=>
   (A.guard x6 true (A.quiet (Dy [bC,bw] s3) s3) aj).bind fun bU=>
   (A.pick x6 bU aD).bind fun bl=>
   A.cond bl (
    (A.add (v2.getD 1 U.undef) aI).bind fun bZ=>
    some (AX.normal,[(v2.getD 0 U.undef),bZ],s3)) (
    some (AX.exit 0,[(v2.getD 0 U.undef),(v2.getD 1 U.undef)],s3))) [(U.lbx c1),ah] σ).bind fun cI=>
 bif cI.1==AX.exit 0 then(
  (A.aT a0).bind fun cg=>
  (A.lss (cI.2.1.getD 1 U.undef) cg).bind fun bI=>
  (A.guard bI true (some a0) aj).bind fun bg=>
  (A.guard bI true (some (cI.2.1.getD 1 U.undef)) aj).bind fun bB=>
  (A.guard bI true (A.aN 5 bg bB) aj).bind fun ct=>
  (A.guard bI true (A.bA 0 ct) aj).bind fun x24=>
  (A.guard bI true ((A.deref x24 cI.2.2).bind fun jq=>A.az 0 2 jq) aj).bind fun cN=>
  (A.guard bI true ((A.lb (cI.2.1.getD 0 U.undef)).bind fun l6=>A.az 0 2 l6) aj).bind fun x28=>
  (A.guard bI true (A.eql (.s [0,2]) cN x28) aj).bind fun x29=>
  (A.pick bI x29 aD).bind fun cO=>
  A.fin σ (U.aL [(cI.2.1.getD 1 U.undef),cO]) cI.2.2)else
 none
noncomputable def DH:List U→Heap→Option (U×Heap):=A.wrap true [(.s 5)] .k (A.cM Oc)
noncomputable def JC (a0 a1:U) (σ:Heap):Option (U×Heap):=
 (A.cells 11 a1).bind fun c1=>
 (IC [a0] σ).bind fun r2=>
 (A.an 10 c1).bind fun x3=>
 (A.aT x3).bind fun x4=>
 (A.loop (fun v5 s6=>
   (A.lss (v5.getD 2 U.undef) x4).bind fun x8=>
   A.cond x8 (
    (A.aN 8 x3 (v5.getD 2 U.undef)).bind fun x9=>
    ((A.deref x9 s6).bind fun dr=>A.az 0 8 dr).bind fun bN=>
    (A.cells 8 bN).bind fun bR=>
    (A.splice 0 bR [ah,aW,ah,ah,aD,aD,ah,ah]).bind fun ep=>
    (A.az 0 2 ep).bind fun bw=>
    (DH [(v5.getD 1 U.undef),bw] s6).bind fun dG=>
    (A.ext 0 dG.1).bind fun bl=>
    (A.ext 1 dG.1).bind fun bZ=>
    (A.cond bZ (
     (A.add bl aI).bind fun cg=>
     (C8 [(v5.getD 1 U.undef),bl,cg] dG.2).bind fun fA=>
     some ([(v5.getD 0 U.undef),fA.1,(U.lbx ep)],fA.2)) (
     some ([(v5.getD 0 U.undef),(v5.getD 1 U.undef),(U.lbx ep)],dG.2))).bind fun cI=>
    ((A.lb (cI.1.getD 2 U.undef)).bind fun _=>some (4)).bind fun p21=>
    ((A.lb (cI.1.getD 2 U.undef)).bind fun lK=>A.an p21 lK).bind fun ct=>
    (A.not ct).bind fun x24=>
    (A.cond x24 (
     ((A.lb (cI.1.getD 2 U.undef)).bind fun _=>some (0)).bind fun Sa=>
     ((A.lb (cI.1.getD 2 U.undef)).bind fun l6=>A.az Sa 2 l6).bind fun x28=>
     ((A.lb (cI.1.getD 2 U.undef)).bind fun _=>some (2)).bind fun Sb=>
     ((A.lb (cI.1.getD 2 U.undef)).bind fun rQ=>A.az Sb 2 rQ).bind fun x31=>
     ((A.lb (cI.1.getD 0 U.undef)).bind fun _=>some (0)).bind fun Sc=>
     ((A.lb (cI.1.getD 0 U.undef)).bind fun qV=>A.an Sc qV).bind fun x34=>
     (((A.cells 2 x28).bind fun lE=>(A.splice 0 lE [ah,aW,ah,ah,ah]).bind fun jF=>(A.cells 2 x31).bind fun uc=>(A.splice 2 uc jF).bind fun qh=>((A.cell x34).bind fun v=>some [v]).bind fun jX=>(A.splice 4 jX qh).bind fun l7=>some l7).bind fun cs=>some (U.agg cs)).bind fun fW=>
     (((A.cells 5 fW).bind fun qi=>(A.splice 0 qi [ah,aW,ah,ah,ah]).bind fun mw=>some mw).bind fun cs=>some (U.sl 5 (chunks 5 1 cs))).bind fun dH=>
     (E7 [(cI.1.getD 1 U.undef),bl,dH] cI.2).bind fun HV=>
     some ([(cI.1.getD 0 U.undef),HV.1],HV.2)) (
     some ([(cI.1.getD 0 U.undef),(cI.1.getD 1 U.undef)],cI.2))).bind fun jN=>
    (A.add (v5.getD 2 U.undef) aI).bind fun ia=>
    some (AX.normal,[(jN.1.getD 0 U.undef),(jN.1.getD 1 U.undef),ia],jN.2)) (
    some (AX.exit 0,[(v5.getD 0 U.undef),(v5.getD 1 U.undef),(v5.getD 2 U.undef)],s6))) [(U.lbx c1),r2.1,ah] r2.2).bind fun oO=>
 bif oO.1==AX.exit 0 then(
  some ((oO.2.1.getD 1 U.undef),oO.2.2))else
 none
noncomputable def FF:List U→Heap→Option (U×Heap):=A.wrap true [(.s 5),(.a eZ)] .k (A.cM JC)
noncomputable def Jm (a0 a1:U) (σ:Heap):Option (U×Heap):=
 (A.bG 11 a0 none (some a1) σ).bind fun x1=>
 (A.aT x1).bind fun x2=>
 (A.loop (fun v3 s4=>
   (A.lss (v3.getD 1 U.undef) x2).bind fun x6=>
   A.cond x6 (
    (A.aN 11 x1 (v3.getD 1 U.undef)).bind fun x7=>
    ((A.deref x7 s4).bind fun c8=>A.az 0 11 c8).bind fun x9=>
    (A.cells 11 x9).bind fun dr=>
    (A.splice 0 dr [ah,aW,ah,ah,ah,ah,ah,U.aH,aD,ah,U.aH]).bind fun dw=>
    (A.az 0 11 dw).bind fun bC=>
    (FF [(v3.getD 0 U.undef),bC] s4).bind fun fR=>
    (A.add (v3.getD 1 U.undef) aI).bind fun bw=>
    some (AX.normal,[fR.1,bw],fR.2)) (
    some (AX.exit 0,[(v3.getD 0 U.undef),(v3.getD 1 U.undef)],s4))) [U.aH,ah] σ).bind fun dG=>
 bif dG.1==AX.exit 0 then(
  some ((dG.2.1.getD 0 U.undef),dG.2.2))else
 none
noncomputable def Jj:List U→Heap→Option (U×Heap):=A.wrap true [(.e 11 eZ)] .k (A.cM Jm)
noncomputable def NG (a0 a1 a2:U) (σ:Heap):Option (U×Heap):=
 (A.cells 2 a0).bind fun c1=>
 (A.az 0 2 c1).bind fun x2=>
 (Nv [x2] σ).bind fun r3=>
 (A.aT r3.1).bind fun x4=>
 (A.loop (fun v5 s6=>
   (A.lss (v5.getD 2 U.undef) x4).bind fun x8=>
   A.cond x8 (
    (A.aN 2 r3.1 (v5.getD 2 U.undef)).bind fun x9=>
    ((A.deref x9 s6).bind fun dr=>A.az 0 2 dr).bind fun bN=>
    (A.cells 2 bN).bind fun bR=>
    (A.splice 0 bR [ah,aW]).bind fun ep=>
    ((A.lb (v5.getD 0 U.undef)).bind fun gh=>A.az 0 2 gh).bind fun bU=>
    (A.az 0 2 ep).bind fun bl=>
    (zX [bU,bl] s6).bind fun eT=>
    (A.ext 0 eT.1).bind fun cU=>
    (A.ext 1 eT.1).bind fun cg=>
    (A.cells 7 cU).bind fun i7=>
    (A.splice 0 i7 [aW,ah,ah,ah,ah,aD,U.aH]).bind fun iu=>
    (A.an 4 iu).bind fun bB=>
    (A.az 0 2 ep).bind fun ct=>
    (DH [a2,ct] eT.2).bind fun gr=>
    (A.ext 0 gr.1).bind fun x25=>
    (A.ext 1 gr.1).bind fun cN=>
    (A.cond cN (
     (A.az 0 2 ep).bind fun x28=>
     (A.aN 5 a2 x25).bind fun x29=>
     (A.bA 2 x29).bind fun cO=>
     ((A.deref cO gr.2).bind fun qU=>A.az 0 2 qU).bind fun x32=>
     (A.quiet (Jy [a1,x28,x32] gr.2) gr.2).bind fun gj=>
     (A.ext 0 gj).bind fun x34=>
     (A.ext 1 gj).bind fun fB=>
     some ([(v5.getD 0 U.undef),(U.lbx ep),x34],gr.2)) (
     some ([(v5.getD 0 U.undef),(U.lbx ep),bB],gr.2))).bind fun pU=>
    ((A.lb (pU.1.getD 1 U.undef)).bind fun jF=>A.az 0 2 jF).bind fun cV=>
    (((A.cells 2 cV).bind fun qh=>(A.splice 0 qh [ah,aW,ah]).bind fun jX=>((A.cell (pU.1.getD 2 U.undef)).bind fun v=>some [v]).bind fun l7=>(A.splice 2 l7 jX).bind fun nw=>some nw).bind fun cs=>some (U.agg cs)).bind fun fZ=>
    (((A.cells 3 fZ).bind fun mw=>(A.splice 0 mw [ah,aW,ah]).bind fun qW=>some qW).bind fun cs=>some (U.sl 3 (chunks 3 1 cs))).bind fun ew=>
    (A.append 3 (140737488355328 / 32) (v5.getD 1 U.undef) ew pU.2).bind fun iW=>
    (A.add (v5.getD 2 U.undef) aI).bind fun dK=>
    some (AX.normal,[(pU.1.getD 0 U.undef),iW.1,dK],iW.2)) (
    some (AX.exit 0,[(v5.getD 0 U.undef),(v5.getD 1 U.undef),(v5.getD 2 U.undef)],s6))) [(U.lbx c1),U.aH,ah] r3.2).bind fun mD=>
 bif mD.1==AX.exit 0 then(
  A.fin σ (mD.2.1.getD 1 U.undef) mD.2.2)else
 none
noncomputable def Jl:List U→Heap→Option (U×Heap):=A.wrap true [lJ,qL,(.s 5)] (.s 3) (A.eG NG)
noncomputable def Ou (a0 a1 a2:U) (σ:Heap):Option (U×Heap):=
 (A.cells 2 a0).bind fun c1=>
 (A.aT a1).bind fun x2=>
 (A.loop (fun v3 s4=>
   (A.lss (v3.getD 3 U.undef) x2).bind fun x6=>
   A.cond x6 (
    (A.aN 3 a1 (v3.getD 3 U.undef)).bind fun x7=>
    ((A.deref x7 s4).bind fun c8=>A.az 0 3 c8).bind fun x9=>
    (A.cells 3 x9).bind fun dr=>
    (A.splice 0 dr [ah,aW,ah]).bind fun dw=>
    ((A.lb (v3.getD 0 U.undef)).bind fun bR=>A.az 0 2 bR).bind fun bF=>
    (A.az 0 2 dw).bind fun bw=>
    (zX [bF,bw] s4).bind fun dG=>
    (A.ext 0 dG.1).bind fun bl=>
    (A.ext 1 dG.1).bind fun bZ=>
    (A.cells 7 bl).bind fun eu=>
    (A.splice 0 eu [aW,ah,ah,ah,ah,aD,U.aH]).bind fun kP=>
    (A.an 0 dw).bind fun bI=>
    (A.neq .i bI a2).bind fun bg=>
    (A.guard bg false (A.an 1 kP) aj).bind fun bB=>
    (A.guard bg false (A.neq .i bB aI) aj).bind fun ct=>
    (A.pick bg br ct).bind fun x24=>
    A.cond x24 (
     (A.add (v3.getD 3 U.undef) aI).bind fun x25=>
     some (AX.normal,[(v3.getD 0 U.undef),(v3.getD 1 U.undef),(v3.getD 2 U.undef),x25],dG.2)) (
     (A.an 2 dw).bind fun cN=>
     (A.neq .i cN ah).bind fun cR=>
     A.cond cR (
      some (AX.ret,[(v3.getD 0 U.undef),aD,br,(v3.getD 3 U.undef)],dG.2)) (
      (A.add (v3.getD 3 U.undef) aI).bind fun x28=>
      some (AX.normal,[(v3.getD 0 U.undef),(v3.getD 1 U.undef),br,x28],dG.2)))) (
    some (AX.exit 0,[(v3.getD 0 U.undef),(v3.getD 1 U.undef),(v3.getD 2 U.undef),(v3.getD 3 U.undef)],s4))) [(U.lbx c1),aD,aD,ah] σ).bind fun kI=>
 bif kI.1==AX.exit 0 then(
  A.fin σ (kI.2.1.getD 2 U.undef) kI.2.2)else
 bif kI.1==AX.ret then(
  A.fin σ (kI.2.1.getD 1 U.undef) kI.2.2)else
 none
noncomputable def tc:List U→Heap→Option (U×Heap):=A.wrap true [lJ,(.s 3)] .k (A.eG Ou)
noncomputable def Jp (a0 a1 a2:U) (σ:Heap):Option (U×Heap):=
 (A.cells 2 a0).bind fun c1=>
 (A.cells 11 a1).bind fun c2=>
 (A.an 10 c2).bind fun x3=>
 (A.aT x3).bind fun x4=>
 (A.loop (fun v5 s6=>
   (A.lss (v5.getD 2 U.undef) x4).bind fun x8=>
   A.cond x8 (
    (A.aN 8 x3 (v5.getD 2 U.undef)).bind fun x9=>
    ((A.deref x9 s6).bind fun dr=>A.az 0 8 dr).bind fun bN=>
    (A.cells 8 bN).bind fun bR=>
    (A.splice 0 bR [ah,aW,ah,ah,aD,aD,ah,ah]).bind fun ep=>
    ((A.lb (v5.getD 0 U.undef)).bind fun gh=>A.az 0 2 gh).bind fun bU=>
    (A.az 0 2 ep).bind fun bl=>
    (zX [bU,bl] s6).bind fun eT=>
    (A.ext 0 eT.1).bind fun cU=>
    (A.ext 1 eT.1).bind fun cg=>
    (A.cells 7 cU).bind fun i7=>
    (A.splice 0 i7 [aW,ah,ah,ah,ah,aD,U.aH]).bind fun iu=>
    (A.an 0 ep).bind fun bB=>
    (A.eql .i bB a2).bind fun ct=>
    (A.guard ct true (A.an 1 iu) aj).bind fun x24=>
    (A.guard ct true (A.neq .i x24 aI) aj).bind fun x25=>
    (A.pick ct x25 aD).bind fun cN=>
    (A.cond cN (
     (A.az 0 8 ep).bind fun x28=>
     (((A.cells 8 x28).bind fun qT=>(A.splice 0 qT [ah,aW,ah,ah,aD,aD,ah,ah]).bind fun rQ=>some rQ).bind fun cs=>some (U.sl 8 (chunks 8 1 cs))).bind fun x31=>
     (A.append 8 (140737488355328 / 64) (v5.getD 1 U.undef) x31 eT.2).bind fun r32=>
     some ([(v5.getD 0 U.undef),r32.1],r32.2)) (
     some ([(v5.getD 0 U.undef),(v5.getD 1 U.undef)],eT.2))).bind fun pU=>
    (A.add (v5.getD 2 U.undef) aI).bind fun gj=>
    some (AX.normal,[(pU.1.getD 0 U.undef),(pU.1.getD 1 U.undef),gj],pU.2)) (
    some (AX.exit 0,[(v5.getD 0 U.undef),(v5.getD 1 U.undef),(v5.getD 2 U.undef)],s6))) [(U.lbx c1),U.aH,ah] σ).bind fun iB=>
 bif iB.1==AX.exit 0 then(
  some ((iB.2.1.getD 1 U.undef),iB.2.2))else
 none
noncomputable def sv:List U→Heap→Option (U×Heap):=A.wrap true [lJ,(.a eZ)] .k (A.eG Jp)
noncomputable def Ob (a0 a1 a2:U) (σ:Heap):Option (U×Heap):=
 (A.cells 2 a0).bind fun c1=>
 (A.aT a2).bind fun x2=>
 (A.loop (fun v3 s4=>
   (A.lss (v3.getD 2 U.undef) x2).bind fun x6=>
   A.cond x6 (
    ((A.lb (v3.getD 0 U.undef)).bind fun c7=>A.az 0 2 c7).bind fun x8=>
    (A.add (v3.getD 2 U.undef) aI).bind fun x9=>
    (A.quiet ((A.ij (.s 5) Jj) [a2,x9] s4) s4).bind fun bf=>
    (A.quiet (Jl [x8,a1,bf] s4) s4).bind fun bN=>
    ((((A.cell bN).bind fun v=>some [v]).bind fun bR=>(A.splice 0 bR [U.aH]).bind fun ep=>some ep).bind fun cs=>some (U.sl 1 (chunks 1 1 cs))).bind fun bw=>
    (A.append 1 (140737488355328 / 24) (v3.getD 1 U.undef) bw s4).bind fun dG=>
    (A.add (v3.getD 2 U.undef) aI).bind fun bl=>
    some (AX.normal,[(v3.getD 0 U.undef),dG.1,bl],dG.2)) (
    some (AX.exit 0,[(v3.getD 0 U.undef),(v3.getD 1 U.undef),(v3.getD 2 U.undef)],s4))) [(U.lbx c1),U.aH,ah] σ).bind fun eT=>
 bif eT.1==AX.exit 0 then(
  (A.loop (fun hU wo=>
    (A.aT a2).bind fun bg=>
    (A.lss (hU.getD 2 U.undef) bg).bind fun bB=>
    A.cond bB (
     ((A.lb (hU.getD 0 U.undef)).bind fun _=>some (1)).bind fun HT=>
     ((A.lb (hU.getD 0 U.undef)).bind fun eH=>A.an HT eH).bind fun x25=>
     (A.aT x25).bind fun cN=>
     (A.loop (fun fS iC=>
       (A.lss (fS.getD 2 U.undef) cN).bind fun cO=>
       A.cond cO (
        (A.aN 4 x25 (fS.getD 2 U.undef)).bind fun x31=>
        ((A.deref x31 iC).bind fun vQ=>A.az 0 4 vQ).bind fun gj=>
        (A.cells 4 gj).bind fun tZ=>
        (A.splice 0 tZ [ah,aW,ah,ah]).bind fun lE=>
        ((A.lb (fS.getD 0 U.undef)).bind fun jF=>A.az 0 2 jF).bind fun cV=>
        (A.sub (hU.getD 2 U.undef) aI).bind fun x38=>
        (A.aN 1 (eT.2.1.getD 1 U.undef) x38).bind fun gy=>
        ((A.deref gy iC).bind fun l7=>A.an 0 l7).bind fun fW=>
        (A.an 0 lE).bind fun fZ=>
        (A.quiet (tc [cV,fW,fZ] iC) iC).bind fun fM=>
        (A.not fM).bind fun dH=>
        (A.guard dH false ((A.lb (fS.getD 0 U.undef)).bind fun rR=>A.az 0 2 rR) aj).bind fun ia=>
        (A.guard dH false (some (eT.2.1.getD 1 U.undef)) aj).bind fun dK=>
        (A.guard dH false (some (hU.getD 2 U.undef)) aj).bind fun gG=>
        (A.guard dH false (A.aN 1 dK gG) aj).bind fun ig=>
        (A.guard dH false ((A.deref ig iC).bind fun kG=>A.an 0 kG) aj).bind fun ef=>
        (A.guard dH false (A.an 0 lE) aj).bind fun eM=>
        (A.guard dH false (A.quiet (tc [ia,ef,eM] iC) iC) aj).bind fun kg=>
        (A.pick dH br kg).bind fun ga=>
        A.cond ga (
         (A.add (fS.getD 2 U.undef) aI).bind fun iP=>
         some (AX.normal,[(fS.getD 0 U.undef),(fS.getD 1 U.undef),iP],iC)) (
         ((A.lb (fS.getD 0 U.undef)).bind fun CA=>A.az 0 2 CA).bind fun jf=>
         (A.aN 11 a2 (hU.getD 2 U.undef)).bind fun gb=>
         ((A.deref gb iC).bind fun mz=>A.az 0 11 mz).bind fun iQ=>
         (A.an 0 lE).bind fun gH=>
         (A.quiet ((A.ij (.s 8) sv) [jf,iQ,gH] iC) iC).bind fun gW=>
         (A.aT gW).bind fun dW=>
         (A.loop (fun v64 eU=>
           (A.lss (v64.getD 3 U.undef) dW).bind fun gX=>
           A.cond gX (
            (A.aN 8 gW (v64.getD 3 U.undef)).bind fun kj=>
            ((A.deref kj eU).bind fun zu=>A.az 0 8 zu).bind fun kU=>
            (A.cells 8 kU).bind fun kQ=>
            (A.splice 0 kQ [ah,aW,ah,ah,aD,aD,ah,ah]).bind fun xV=>
            (A.guard (v64.getD 2 U.undef) false (some (eT.2.1.getD 1 U.undef)) aj).bind fun kn=>
            (A.guard (v64.getD 2 U.undef) false (some (hU.getD 2 U.undef)) aj).bind fun gY=>
            (A.guard (v64.getD 2 U.undef) false (A.sub gY aI) aj).bind fun gP=>
            (A.guard (v64.getD 2 U.undef) false (A.aN 1 kn gP) aj).bind fun gI=>
            (A.guard (v64.getD 2 U.undef) false ((A.deref gI eU).bind fun nA=>A.an 0 nA) aj).bind fun qA=>
            (A.guard (v64.getD 2 U.undef) false (A.az 0 2 xV) aj).bind fun lP=>
            (A.guard (v64.getD 2 U.undef) false (A.quiet (sZ [qA,lP,ah] eU) eU) aj).bind fun sj=>
            (A.guard (v64.getD 2 U.undef) false (some (eT.2.1.getD 1 U.undef)) aj).bind fun oR=>
            (A.guard (v64.getD 2 U.undef) false (some (hU.getD 2 U.undef)) aj).bind fun nD=>
            (A.guard (v64.getD 2 U.undef) false (A.aN 1 oR nD) aj).bind fun nE=>
            (A.guard (v64.getD 2 U.undef) false ((A.deref nE eU).bind fun ue=>A.an 0 ue) aj).bind fun qB=>
            (A.guard (v64.getD 2 U.undef) false (A.az 0 2 xV) aj).bind fun oS=>
            (A.guard (v64.getD 2 U.undef) false (A.quiet (sZ [qB,oS,ah] eU) eU) aj).bind fun ko=>
            (A.guard (v64.getD 2 U.undef) false (A.neq .i sj ko) aj).bind fun ve=>
            (A.pick (v64.getD 2 U.undef) br ve).bind fun sk=>
            (A.add (v64.getD 3 U.undef) aI).bind fun x90=>
            some (AX.normal,[(v64.getD 0 U.undef),(v64.getD 1 U.undef),sk,x90],eU)) (
            some (AX.exit 6,[(v64.getD 0 U.undef),(v64.getD 1 U.undef),(v64.getD 2 U.undef),(v64.getD 3 U.undef)],eU))) [(fS.getD 0 U.undef),(U.lbx lE),aD,ah] iC).bind fun rY=>
         bif rY.1==AX.exit 6 then(
          (A.not (rY.2.1.getD 2 U.undef)).bind fun wC=>
          A.cond wC (
           (A.add (fS.getD 2 U.undef) aI).bind fun x93=>
           some (AX.normal,[(rY.2.1.getD 0 U.undef),(fS.getD 1 U.undef),x93],rY.2.2)) (
           (A.sub (hU.getD 2 U.undef) aI).bind fun ux=>
           (A.loop (fun fL gu=>
             (A.gtr (fL.getD 2 U.undef) ah).bind fun x98=>
             (A.guard x98 true ((A.lb (fL.getD 0 U.undef)).bind fun zz=>A.az 0 2 zz) aj).bind fun vM=>
             (A.guard x98 true (some (eT.2.1.getD 1 U.undef)) aj).bind fun x101=>
             (A.guard x98 true (some (fL.getD 2 U.undef)) aj).bind fun x102=>
             (A.guard x98 true (A.sub x102 aI) aj).bind fun tU=>
             (A.guard x98 true (A.aN 1 x101 tU) aj).bind fun x104=>
             (A.guard x98 true ((A.deref x104 gu).bind fun p6=>A.an 0 p6) aj).bind fun sL=>
             ((A.lb (fL.getD 1 U.undef)).bind fun _=>some (0)).bind fun zg=>
                          (A.guard x98 true ((A.lb (fL.getD 1 U.undef)).bind fun yV=>A.an zg yV) aj).bind fun tV=>
             (A.guard x98 true (A.quiet (tc [vM,sL,tV] gu) gu) aj).bind fun lI=>
             (A.pick x98 lI aD).bind fun iU=>
             (A.guard iU true ((A.lb (fL.getD 0 U.undef)).bind fun yW=>A.az 0 2 yW) aj).bind fun x113=>
             (A.guard iU true (some a2) aj).bind fun x114=>
             (A.guard iU true (some (fL.getD 2 U.undef)) aj).bind fun x115=>
             (A.guard iU true (A.aN 11 x114 x115) aj).bind fun vN=>
             (A.guard iU true ((A.deref vN gu).bind fun rE=>A.az 0 11 rE) aj).bind fun rK=>
             ((A.lb (fL.getD 1 U.undef)).bind fun _=>some (0)).bind fun zh=>
                          (A.guard iU true ((A.lb (fL.getD 1 U.undef)).bind fun yX=>A.an zh yX) aj).bind fun rM=>
             (A.guard iU true (A.quiet ((A.ij (.s 8) sv) [x113,rK,rM] gu) gu) aj).bind fun vO=>
             (A.guard iU true (A.aT vO) aj).bind fun vP=>
             (A.guard iU true (A.eql .i vP ah) aj).bind fun tW=>
             (A.pick iU tW aD).bind fun Cq=>
             A.cond Cq (
              (A.sub (fL.getD 2 U.undef) aI).bind fun GZ=>
              some (AX.normal,[(fL.getD 0 U.undef),(fL.getD 1 U.undef),GZ],gu)) (
              some (AX.exit 8,[(fL.getD 0 U.undef),(fL.getD 1 U.undef),(fL.getD 2 U.undef)],gu))) [(rY.2.1.getD 0 U.undef),(rY.2.1.getD 1 U.undef),ux] rY.2.2).bind fun qd=>
           bif qd.1==AX.exit 8 then(
            ((A.lb (qd.2.1.getD 1 U.undef)).bind fun _=>some (0)).bind fun Ra=>
            ((A.lb (qd.2.1.getD 1 U.undef)).bind fun Gx=>A.an Ra Gx).bind fun G0=>
            (A.aN 11 a2 (qd.2.1.getD 2 U.undef)).bind fun Ri=>
            (A.bA 0 Ri).bind fun Rj=>
            ((A.deref Rj qd.2.2).bind fun QL=>A.an 0 QL).bind fun G1=>
            (A.aN 11 a2 (hU.getD 2 U.undef)).bind fun G2=>
            (A.bA 0 G2).bind fun Rk=>
            ((A.deref Rk qd.2.2).bind fun QM=>A.an 0 QM).bind fun Rl=>
            ((((A.cell G0).bind fun v=>some [v]).bind fun B9=>(A.splice 0 B9 [ah,ah,ah]).bind fun Gy=>((A.cell G1).bind fun v=>some [v]).bind fun Gz=>(A.splice 1 Gz Gy).bind fun Ca=>((A.cell Rl).bind fun v=>some [v]).bind fun GA=>(A.splice 2 GA Ca).bind fun GB=>some GB).bind fun cs=>some (U.agg cs)).bind fun G3=>
            (((A.cells 3 G3).bind fun GC=>(A.splice 0 GC [ah,ah,ah]).bind fun GD=>some GD).bind fun cs=>some (U.sl 3 (chunks 3 1 cs))).bind fun Rm=>
            (A.append 3 (140737488355328 / 24) (fS.getD 1 U.undef) Rm qd.2.2).bind fun GX=>
            (A.add (fS.getD 2 U.undef) aI).bind fun x150=>
            some (AX.normal,[(qd.2.1.getD 0 U.undef),GX.1,x150],GX.2))else
           none))else
         none)) (
        some (AX.exit 4,[(fS.getD 0 U.undef),(fS.getD 1 U.undef),(fS.getD 2 U.undef)],iC))) [(hU.getD 0 U.undef),(hU.getD 1 U.undef),ah] wo).bind fun Lq=>
     bif Lq.1==AX.exit 4 then(
      (A.add (hU.getD 2 U.undef) aI).bind fun x152=>
      some (AX.normal,[(Lq.2.1.getD 0 U.undef),(Lq.2.1.getD 1 U.undef),x152],Lq.2.2))else
     none) (
     some (AX.exit 2,[(hU.getD 0 U.undef),(hU.getD 1 U.undef),(hU.getD 2 U.undef)],wo))) [(eT.2.1.getD 0 U.undef),U.aH,aI] eT.2.2).bind fun Re=>
  bif Re.1==AX.exit 2 then(
   A.fin σ (Re.2.1.getD 1 U.undef) Re.2.2)else
  none)else
 none
noncomputable def FG:List U→Heap→Option (U×Heap):=A.wrap true [lJ,qL,(.e 11 eZ)] (.s 3) (A.eG Ob)
noncomputable def Oa (a0 a1 a2:U) (σ:Heap):Option (U×Heap):=
 (A.cells 2 a0).bind fun c1=>
 (A.az 0 2 c1).bind fun x2=>
 (Fi [x2,a1,a2] σ).bind fun r3=>
 (A.neq .i r3.1 ah).bind fun x4=>
 A.cond x4 (
  A.fin σ (U.aL [U.aH,r3.1]) r3.2) (
  (A.az 0 2 c1).bind fun x5=>
  (FG [x5,a1,a2] r3.2).bind fun r6=>
  A.fin σ (U.aL [r6.1,ah]) r6.2)
noncomputable def N2:List U→Heap→Option (U×Heap):=A.wrap true [lJ,qL,(.e 11 eZ)] (.t [(.s 3),.k]) (A.eG Oa)
noncomputable def Jo (a0:U) (σ:Heap):Option (U×Heap):=
 (IF [a0] σ).bind fun r1=>
 (A.aT r1.1).bind fun x2=>
 (A.loop (fun v3 s4=>
   (A.lss (v3.getD 0 U.undef) x2).bind fun x6=>
   A.cond x6 (
    (A.aN 11 r1.1 (v3.getD 0 U.undef)).bind fun x7=>
    (A.bA 10 x7).bind fun x8=>
    ((A.deref x8 s4).bind fun c9=>A.an 0 c9).bind fun bf=>
    (Dc [bf] s4).bind fun cD=>
    (A.aN 11 r1.1 (v3.getD 0 U.undef)).bind fun bC=>
    (A.bA 10 bC).bind fun bF=>
    ((A.cell cD.1).bind fun v=>some [v]).bind fun gh=>
    (A.storeAt bF gh cD.2).bind fun fV=>
    (A.aN 11 r1.1 (v3.getD 0 U.undef)).bind fun bl=>
    (A.bA 6 bl).bind fun bZ=>
    (A.bA 1 bZ).bind fun cU=>
    ((A.deref cU fV).bind fun kP=>A.an 0 kP).bind fun bI=>
    (C9 [bI] fV).bind fun dV=>
    (A.aN 11 r1.1 (v3.getD 0 U.undef)).bind fun bB=>
    (A.bA 6 bB).bind fun ct=>
    (A.bA 1 ct).bind fun x24=>
    ((A.cell dV.1).bind fun v=>some [v]).bind fun jq=>
    (A.storeAt x24 jq dV.2).bind fun jE=>
    (A.add (v3.getD 0 U.undef) aI).bind fun cR=>
    some (AX.normal,[cR],jE)) (
    some (AX.exit 0,[(v3.getD 0 U.undef)],s4))) [ah] r1.2).bind fun HU=>
 bif HU.1==AX.exit 0 then(
  some (r1.1,HU.2.2))else
 none
noncomputable def Jk:List U→Heap→Option (U×Heap):=A.wrap true [(.e 11 eZ)] .k (A.dU Jo)
noncomputable def PG (a0 a1:U) (σ:Heap):Option (U×Heap):=
 (A.aT a0).bind fun x1=>
 (A.loop (fun v2 s3=>
   (A.lss (v2.getD 1 U.undef) x1).bind fun x5=>
   A.cond x5 (
    (A.aN 11 a0 (v2.getD 1 U.undef)).bind fun x6=>
    ((A.deref x6 s3).bind fun c7=>A.az 0 11 c7).bind fun x8=>
    (A.cells 11 x8).bind fun c9=>
    (A.splice 0 c9 [ah,aW,ah,ah,ah,ah,ah,U.aH,aD,ah,U.aH]).bind fun dr=>
    (A.an 0 dr).bind fun bN=>
    (A.eql .i bN a1).bind fun bC=>
    A.cond bC (
     some (AX.ret,[(v2.getD 1 U.undef),(v2.getD 1 U.undef)],s3)) (
     (A.add (v2.getD 1 U.undef) aI).bind fun bF=>
     some (AX.normal,[(v2.getD 0 U.undef),bF],s3))) (
    some (AX.exit 0,[(v2.getD 0 U.undef),(v2.getD 1 U.undef)],s3))) [ah,ah] σ).bind fun eL=>
 bif eL.1==AX.exit 0 then(
  A.fin σ (U.int .i64 (-1)) eL.2.2)else
 bif eL.1==AX.ret then(
  A.fin σ (eL.2.1.getD 0 U.undef) eL.2.2)else
 none
noncomputable def D6:List U→Heap→Option (U×Heap):=A.wrap true [(.e 11 eZ)] .k (A.cM PG)
noncomputable def NH (a0 a1:U) (σ:Heap):Option (U×Heap):=
 (A.cells 2 a1).bind fun c1=>
 (A.loop (fun v2 s3=>
   (A.aT a0).bind fun x5=>
   (A.lss (v2.getD 1 U.undef) x5).bind fun x6=>
   (A.guard x6 true (some a0) aj).bind fun x7=>
   (A.guard x6 true (some (v2.getD 1 U.undef)) aj).bind fun x8=>
   (A.guard x6 true (A.aN 8 x7 x8) aj).bind fun x9=>
   (A.guard x6 true (A.bA 0 x9) aj).bind fun bf=>
   (A.guard x6 true ((A.deref bf s3).bind fun dw=>A.az 0 2 dw) aj).bind fun bC=>
   (A.guard x6 true ((A.lb (v2.getD 0 U.undef)).bind fun ep=>A.az 0 2 ep) aj).bind fun bw=>
   (A.guard x6 true (A.quiet (Dy [bC,bw] s3) s3) aj).bind fun bU=>
   (A.pick x6 bU aD).bind fun bl=>
   A.cond bl (
    (A.add (v2.getD 1 U.undef) aI).bind fun bZ=>
    some (AX.normal,[(v2.getD 0 U.undef),bZ],s3)) (
    some (AX.exit 0,[(v2.getD 0 U.undef),(v2.getD 1 U.undef)],s3))) [(U.lbx c1),ah] σ).bind fun cI=>
 bif cI.1==AX.exit 0 then(
  (A.aT a0).bind fun cg=>
  (A.lss (cI.2.1.getD 1 U.undef) cg).bind fun bI=>
  (A.guard bI true (some a0) aj).bind fun bg=>
  (A.guard bI true (some (cI.2.1.getD 1 U.undef)) aj).bind fun bB=>
  (A.guard bI true (A.aN 8 bg bB) aj).bind fun ct=>
  (A.guard bI true (A.bA 0 ct) aj).bind fun x24=>
  (A.guard bI true ((A.deref x24 cI.2.2).bind fun jq=>A.az 0 2 jq) aj).bind fun cN=>
  (A.guard bI true ((A.lb (cI.2.1.getD 0 U.undef)).bind fun l6=>A.az 0 2 l6) aj).bind fun x28=>
  (A.guard bI true (A.eql (.s [0,2]) cN x28) aj).bind fun x29=>
  (A.pick bI x29 aD).bind fun cO=>
  A.fin σ (U.aL [(cI.2.1.getD 1 U.undef),cO]) cI.2.2)else
 none
noncomputable def Ad:List U→Heap→Option (U×Heap):=A.wrap true [(.s 8)] .k (A.cM NH)
noncomputable def FY (a0 a1:U) (σ:Heap):Option (U×Heap):=
 (A.cells 8 a1).bind fun c1=>
 (A.az 0 2 c1).bind fun x2=>
 (Ad [a0,x2] σ).bind fun r3=>
 (A.ext 0 r3.1).bind fun x4=>
 (A.ext 1 r3.1).bind fun x5=>
 A.cond x5 (
  (A.az 0 8 c1).bind fun x6=>
  (A.aN 8 a0 x4).bind fun x7=>
  (A.cells 8 x6).bind fun c8=>
  (A.storeAt x7 c8 r3.2).bind fun c9=>
  some (a0,c9)) (
  (A.az 0 8 c1).bind fun bf=>
  (((A.cells 8 bf).bind fun dw=>(A.splice 0 dw [ah,aW,ah,ah,aD,aD,ah,ah]).bind fun bR=>some bR).bind fun cs=>some (U.sl 8 (chunks 8 1 cs))).bind fun bF=>
  (Bp [a0,x4,bF] r3.2).bind fun eL=>
  some (eL.1,eL.2))
noncomputable def BI:List U→Heap→Option (U×Heap):=A.wrap false [] .k (A.cM FY)
noncomputable def Jq (a0:U) (σ:Heap):Option (U×Heap):=
 (Dj [a0] σ).bind fun r1=>
 (A.neq .i r1.1 ah).bind fun x2=>
 A.cond x2 (
  some ((U.aL [U.aH,r1.1]),r1.2)) (
  some ((U.aL [a0,ah]),r1.2))
noncomputable def Fw:List U→Heap→Option (U×Heap):=A.wrap false [] .k (A.dU Jq)
noncomputable def Jn (a0 a1 a2:U) (σ:Heap):Option (U×Heap):=
 (A.cells 2 a0).bind fun c1=>
 (A.az 0 2 c1).bind fun x2=>
 (Fi [x2,a1,a2] σ).bind fun r3=>
 (A.neq .i r3.1 ah).bind fun x4=>
 A.cond x4 (
  A.fin σ (U.aL [U.aH,r3.1]) r3.2) (
  (Jk [a2] r3.2).bind fun r5=>
  (A.az 0 2 c1).bind fun x6=>
  (FG [x6,a1,a2] r5.2).bind fun r7=>
  (A.aT r7.1).bind fun x8=>
  (A.loop (fun v9 wm=>
    (A.lss (v9.getD 1 U.undef) x8).bind fun bC=>
    A.cond bC (
     (A.aN 3 r7.1 (v9.getD 1 U.undef)).bind fun bF=>
     ((A.deref bF wm).bind fun gh=>A.az 0 3 gh).bind fun bU=>
     (A.cells 3 bU).bind fun jW=>
     (A.splice 0 jW [ah,ah,ah]).bind fun iN=>
     (A.an 1 iN).bind fun cU=>
     (A.quiet (D6 [r5.1,cU] wm) wm).bind fun cg=>
     (A.an 2 iN).bind fun bI=>
     (A.quiet (D6 [r5.1,bI] wm) wm).bind fun bg=>
     ((A.lb (v9.getD 0 U.undef)).bind fun lK=>A.az 0 2 lK).bind fun ct=>
     (A.aN 11 r5.1 bg).bind fun x24=>
     ((A.deref x24 wm).bind fun jq=>A.az 0 11 jq).bind fun cN=>
     (A.an 0 iN).bind fun cR=>
     (A.quiet ((A.ij (.s 8) sv) [ct,cN,cR] wm) wm).bind fun x28=>
     (A.aN 11 r5.1 bg).bind fun x29=>
     (A.bA 10 x29).bind fun cO=>
     ((A.deref cO wm).bind fun qU=>A.an 0 qU).bind fun x32=>
     (A.aT x32).bind fun gj=>
     (A.loop (fun rZ wu=>
       (A.lss (rZ.getD 2 U.undef) gj).bind fun cV=>
       A.cond cV (
        (A.aN 8 x32 (rZ.getD 2 U.undef)).bind fun x38=>
        ((A.deref x38 wu).bind fun jX=>A.az 0 8 jX).bind fun fG=>
        (A.cells 8 fG).bind fun nw=>
        (A.splice 0 nw [ah,aW,ah,ah,aD,aD,ah,ah]).bind fun qi=>
        (A.az 0 2 qi).bind fun fM=>
        (Ad [x28,fM] wu).bind fun lN=>
        (A.ext 0 lN.1).bind fun ew=>
        (A.ext 1 lN.1).bind fun ia=>
        (A.not ia).bind fun dK=>
        (A.cond dK (
         (A.az 0 8 qi).bind fun ig=>
         (((A.cells 8 ig).bind fun kG=>(A.splice 0 kG [ah,aW,ah,ah,aD,aD,ah,ah]).bind fun Cx=>some Cx).bind fun cs=>some (U.sl 8 (chunks 8 1 cs))).bind fun eM=>
         (A.append 8 (140737488355328 / 64) (rZ.getD 1 U.undef) eM lN.2).bind fun iX=>
         some ([(rZ.getD 0 U.undef),iX.1],iX.2)) (
         some ([(rZ.getD 0 U.undef),(rZ.getD 1 U.undef)],lN.2))).bind fun mD=>
        (A.add (rZ.getD 2 U.undef) aI).bind fun ga=>
        some (AX.normal,[(mD.1.getD 0 U.undef),(mD.1.getD 1 U.undef),ga],mD.2)) (
        some (AX.exit 2,[(rZ.getD 0 U.undef),(rZ.getD 1 U.undef),(rZ.getD 2 U.undef)],wu))) [(v9.getD 0 U.undef),U.aH,ah] wm).bind fun wk=>
     bif wk.1==AX.exit 2 then(
      (A.aN 11 r5.1 bg).bind fun gO=>
      (A.bA 10 gO).bind fun jf=>
      ((A.cell (wk.2.1.getD 1 U.undef)).bind fun v=>some [v]).bind fun uX=>
      (A.storeAt jf uX wk.2.2).bind fun mz=>
      (A.aT x28).bind fun iQ=>
      (A.loop (fun EZ LO=>
        (A.lss (EZ.getD 1 U.undef) iQ).bind fun kT=>
        A.cond kT (
         (A.aN 8 x28 (EZ.getD 1 U.undef)).bind fun fH=>
         ((A.deref fH LO).bind fun oK=>A.az 0 8 oK).bind fun gX=>
         (A.cells 8 gX).bind fun G8=>
         (A.splice 0 G8 [ah,aW,ah,ah,aD,aD,ah,ah]).bind fun zu=>
         (A.aN 11 r5.1 cg).bind fun kU=>
         (A.bA 10 kU).bind fun uw=>
         ((A.deref uw LO).bind fun xV=>A.an 0 xV).bind fun kn=>
         (A.az 0 2 zu).bind fun gY=>
         (A.az 2 2 zu).bind fun gP=>
         (A.an 4 zu).bind fun gI=>
         (((A.cells 2 gY).bind fun nA=>(A.splice 0 nA [ah,aW,ah,ah,aD,aD,ah,ah]).bind fun ud=>(A.cells 2 gP).bind fun Rw=>(A.splice 2 Rw ud).bind fun CE=>((A.cell gI).bind fun v=>some [v]).bind fun Rx=>(A.splice 4 Rx CE).bind fun zx=>some zx).bind fun cs=>some (U.agg cs)).bind fun nE=>
         (BI [kn,nE] LO).bind fun ZR=>
         (A.aN 11 r5.1 cg).bind fun qB=>
         (A.bA 10 qB).bind fun oS=>
         ((A.cell ZR.1).bind fun v=>some [v]).bind fun Ry=>
         (A.storeAt oS Ry ZR.2).bind fun CF=>
         (A.add (EZ.getD 1 U.undef) aI).bind fun sk=>
         some (AX.normal,[(EZ.getD 0 U.undef),sk],CF)) (
         some (AX.exit 4,[(EZ.getD 0 U.undef),(EZ.getD 1 U.undef)],LO))) [(wk.2.1.getD 0 U.undef),ah] mz).bind fun Sq=>
      bif Sq.1==AX.exit 4 then(
       (A.add (v9.getD 1 U.undef) aI).bind fun x91=>
       some (AX.normal,[(Sq.2.1.getD 0 U.undef),x91],Sq.2.2))else
      none)else
     none) (
     some (AX.exit 0,[(v9.getD 0 U.undef),(v9.getD 1 U.undef)],wm))) [(U.lbx c1),ah] r7.2).bind fun ZS=>
  bif ZS.1==AX.exit 0 then(
   (Fw [r5.1] ZS.2.2).bind fun Sr=>
   (A.ext 0 Sr.1).bind fun ux=>
   (A.ext 1 Sr.1).bind fun x95=>
   A.fin σ (U.aL [ux,x95]) Sr.2)else
  none)
noncomputable def Nw:List U→Heap→Option (U×Heap):=A.wrap true [lJ,qL,(.e 11 eZ)] (.t [(.e 11 eZ),.k]) (A.eG Jn)
end
section
set_option maxRecDepth 100000
noncomputable def Nd (a0 a1:U) (σ:Heap):Option (U×Heap):=
 (A.cells 11 a0).bind fun c1=>
 (A.cells 11 a1).bind fun c2=>
 (A.an 0 c1).bind fun x3=>
 (A.an 0 c2).bind fun x4=>
 (A.eql .i x3 x4).bind fun x5=>
 (A.guard x5 true (A.an 1 c1) aj).bind fun x6=>
 (A.guard x5 true (A.an 1 c2) aj).bind fun x7=>
 (A.guard x5 true (A.eql .z x6 x7) aj).bind fun x8=>
 (A.pick x5 x8 aD).bind fun x9=>
 (A.guard x9 true (A.an 2 c1) aj).bind fun bf=>
 (A.guard x9 true (A.an 2 c2) aj).bind fun bN=>
 (A.guard x9 true (A.eql .i bf bN) aj).bind fun bC=>
 (A.pick x9 bC aD).bind fun bF=>
 (A.guard bF true (A.an 3 c1) aj).bind fun bw=>
 (A.guard bF true (A.an 3 c2) aj).bind fun bU=>
 (A.guard bF true (A.eql .i bw bU) aj).bind fun bl=>
 (A.pick bF bl aD).bind fun bZ=>
 (A.guard bZ true (A.an 4 c1) aj).bind fun cU=>
 (A.guard bZ true (A.an 4 c2) aj).bind fun cg=>
 (A.guard bZ true (A.eql .i cU cg) aj).bind fun bI=>
 (A.pick bZ bI aD).bind fun bg=>
 (A.guard bg true (A.an 5 c1) aj).bind fun bB=>
 (A.guard bg true (A.an 5 c2) aj).bind fun ct=>
 (A.guard bg true (A.eql .i bB ct) aj).bind fun x24=>
 (A.pick bg x24 aD).bind fun x25=>
 (A.guard x25 true (A.an 8 c1) aj).bind fun cN=>
 (A.guard x25 true (A.an 8 c2) aj).bind fun cR=>
 (A.guard x25 true (A.eql .b cN cR) aj).bind fun x28=>
 (A.pick x25 x28 aD).bind fun x29=>
 (A.guard x29 true (A.an 9 c1) aj).bind fun cO=>
 (A.guard x29 true (A.an 9 c2) aj).bind fun x31=>
 (A.guard x29 true (A.eql .i cO x31) aj).bind fun x32=>
 (A.pick x29 x32 aD).bind fun gj=>
 (A.guard gj true (A.an 6 c1) aj).bind fun x34=>
 (A.guard gj true (A.an 6 c2) aj).bind fun fB=>
 (A.guard gj true (A.eql .i x34 fB) aj).bind fun jG=>
 (A.pick gj jG aD).bind fun cV=>
 (A.guard cV true (A.an 7 c1) aj).bind fun x38=>
 (A.guard cV true (A.an 7 c2) aj).bind fun gy=>
 (A.guard cV true (A.quiet (LZ [x38,gy] σ) σ) aj).bind fun fG=>
 (A.pick cV fG aD).bind fun fW=>
 (A.guard fW true (A.an 10 c1) aj).bind fun fZ=>
 (A.guard fW true (A.an 10 c2) aj).bind fun fM=>
 (A.guard fW true (A.quiet (L3 [fZ,fM] σ) σ) aj).bind fun dH=>
 (A.pick fW dH aD).bind fun ew=>
 A.fin σ ew σ
noncomputable def zY:List U→Heap→Option (U×Heap):=A.wrap true [(.a eZ),(.a eZ)] .k (A.cM Nd)
noncomputable def I2 (a0 a1:U) (σ:Heap):Option (U×Heap):=
 (Iw (A.tab (fun _ _=>none) [(201,zY)]) [a0,a1,(U.fn 201 [])] σ).bind fun r1=>
 A.fin σ r1.1 r1.2
noncomputable def MT:List U→Heap→Option (U×Heap):=A.wrap true [(.e 11 eZ),(.e 11 eZ)] .k (A.cM I2)
noncomputable def L8 (a0 a1 a2:U) (σ:Heap):Option (U×Heap):=
 (A.cells 2 a0).bind fun c1=>
 (A.az 0 2 c1).bind fun x2=>
 (Nx [x2,a1,a2] σ).bind fun r3=>
 (A.ext 0 r3.1).bind fun x4=>
 (A.ext 1 r3.1).bind fun x5=>
 (A.az 0 2 c1).bind fun x6=>
 (N2 [x6,a1,a2] r3.2).bind fun r7=>
 (A.ext 0 r7.1).bind fun x8=>
 (A.ext 1 r7.1).bind fun x9=>
 (L2 [x4,x8] r7.2).bind fun iz=>
 (A.not iz.1).bind fun bN=>
 (A.guard bN false (some x5) aj).bind fun bC=>
 (A.guard bN false (some x9) aj).bind fun bF=>
 (A.guard bN false (A.neq .i bC bF) aj).bind fun bw=>
 (A.pick bN br bw).bind fun bU=>
 A.cond bU (
  A.fin σ aD iz.2) (
  (A.az 0 2 c1).bind fun bl=>
  (M6 [bl,a1,a2] iz.2).bind fun eT=>
  (A.ext 0 eT.1).bind fun cU=>
  (A.ext 1 eT.1).bind fun cg=>
  (A.az 0 2 c1).bind fun bI=>
  (Nw [bI,a1,a2] eT.2).bind fun dV=>
  (A.ext 0 dV.1).bind fun bB=>
  (A.ext 1 dV.1).bind fun ct=>
  (MT [cU,bB] dV.2).bind fun gr=>
  (A.guard gr.1 true (some cg) aj).bind fun x25=>
  (A.guard gr.1 true (some ct) aj).bind fun cN=>
  (A.guard gr.1 true (A.eql .i x25 cN) aj).bind fun cR=>
  (A.pick gr.1 cR aD).bind fun x28=>
  A.fin σ x28 gr.2)
noncomputable def SU:List U→Heap→Option (U×Heap):=A.wrap true [lJ,qL,(.e 11 eZ)] .k (A.eG L8)
end
section
open Go.RowKit
theorem pe.same {P:Program} {nm:List Nat} {f:FuncId} {args:List U} {σ:Heap} {r:U} (hc:∀us w,(callFunc f us).run P w=.ok (.enter f us) w)
  (h:∀(c:RC) (vs:Array Value) (w:World),aQ c args vs.toList→Calls P f vs w fun e w'=>∃v,e=.returned v∧Below w.heap.size w w'∧∀c',aq c' r v):pe P nm f args σ r σ:=by
 refine .inl ⟨f,hc,fun z vs e1 e2 hh ha=>(h _ vs z.w ha).mono ?_⟩
 rintro e w' ⟨v,k1,k2,k3⟩
 have ho:Out z z.w z.E:=⟨rfl,rfl,rfl,Nat.le_refl _,fun _ _ _=>rfl,fun i p hp=>.inr ⟨p,hp,rfl⟩,fun i p hp=>⟨p,hp,.inl rfl⟩,e2,fun p hp=>hh.lt hp⟩
 exact⟨v,z.E,k1,ho.grow k2,hh.mono (w8 k2) rfl (fun p hp=>k2.block _ (hh.lt hp)),k3 _⟩
theorem La {c:RC} {a:U} {vs:Array Value} (h:aQ c [a] vs.toList):∃v,vs=#[v]∧aq c a v:=by
 simp only[aQ]at h
 obtain⟨v,vs',e,h1,e2⟩:=h
 refine⟨v,?_,h1⟩
 subst e2
 cases vs;simp at e;simp [e]
theorem Yp {c:RC} {a b:U} {vs:Array Value} (h:aQ c [a,b] vs.toList):∃v u,vs=#[v,u]∧aq c a v∧aq c b u:=by
 simp only[aQ]at h
 obtain⟨v,vs',e,h1,u,vs2,e2,h2,e3⟩:=h
 refine⟨v,u,?_,h1,h2⟩
 subst e3;subst e2
 cases vs;simp at e;simp [e]
theorem S2:Sound Tryz.prog aG 98 IN:=by
 intro args σ r σ' h
 unfold IN A.cM at h
 split at h
 ·simp only at h
  split at h
  ·simp only[Option.some.injEq,Prod.mk.injEq]at h
   obtain⟨rfl,rfl⟩:=h
   refine pe.same Tryz.call98 fun c vs w hr=>?_
   obtain⟨v,u,rfl,h1,h2⟩:=Yp hr
   simp only[aq]at h1 h2
   subst h1 h2
   refine(Tryz.strings_Compare _ _ w).mono ?_
   rintro e w' ⟨rfl,rfl⟩
   exact⟨_,rfl,Below.refl _ _,fun c'=>by simp [aq]⟩
  ·cases h
 ·cases h
end
section
open Go.RowKit
set_option maxRecDepth 100000
theorem Jg {P:Program} {nm:List Nat} {f:FuncId} {m0:List U→Heap→Option (U×Heap)} (h0:Sound P nm f m0) (hc:∀us w,(callFunc f us).run P w=.ok (.enter f us) w)
  (hz:∀a cap w,Calls P f #[.slice a 0 cap] w fun e w'=>∃q,e=.returned (.slice q 0 0)∧Below w.heap.size w w'):Sound P nm f (A.BS m0):=by
 intro args σ r σ' h
 unfold A.BS at h
 split at h
 ·simp only[Option.some.injEq,Prod.mk.injEq]at h
  obtain⟨rfl,rfl⟩:=h
  refine pe.same hc fun c vs w hr=>?_
  obtain⟨v,rfl,h1⟩:=La hr
  simp only[aq]at h1
  obtain⟨a,cap,rfl,_⟩:=h1
  refine(hz _ _ w).mono ?_
  rintro e w' ⟨q,rfl,hb⟩
  exact⟨_,rfl,hb,fun c'=>by simp [aq]⟩
 ·simp only[Option.some.injEq,Prod.mk.injEq]at h
  obtain⟨rfl,rfl⟩:=h
  refine pe.same hc fun c vs w hr=>?_
  obtain⟨v,rfl,h1⟩:=La hr
  simp only[aq]at h1
  subst h1
  refine(hz _ _ w).mono ?_
  rintro e w' ⟨q,rfl,hb⟩
  exact⟨_,rfl,hb,fun c'=>by simp [aq]⟩
 ·simp only[Option.some.injEq,Prod.mk.injEq]at h
  obtain⟨rfl,rfl⟩:=h
  refine pe.same hc fun c vs w hr=>?_
  obtain⟨v,rfl,h1⟩:=La hr
  simp only[aq]at h1
  obtain⟨a,rfl⟩:=h1
  refine(hz _ _ w).mono ?_
  rintro e w' ⟨q,rfl,hb⟩
  exact⟨_,rfl,hb,fun c'=>by simp [aq]⟩
 ·simp only[Option.some.injEq,Prod.mk.injEq]at h
  obtain⟨rfl,rfl⟩:=h
  refine pe.same hc fun c vs w hr=>?_
  obtain⟨v,rfl,h1⟩:=La hr
  simp only[aq]at h1
  obtain⟨_,p,_,_,a,cap,rfl,_⟩:=h1
  refine(hz _ _ w).mono ?_
  rintro e w' ⟨q,rfl,hb⟩
  exact⟨_,rfl,hb,fun c'=>by simp [aq]⟩
 ·exact h0 _ _ _ _ h
theorem Ar {P:Program} {t e:TypeId} (ht:P.underlying t=some (.slice e)) (a:Option Addr) (n m:Nat) (w:World):Sem.run P (binOp .eql t (.slice a n m) (.slice none 0 0)) w=.ok (.bool a.isNone) w:=by
 simp [binOp,show(Op.equal t (.slice a n m) (.slice none 0 0)).run P w=.ok a.isNone w from XM w 9999 t a n m ht]
theorem agB (a:Option Addr) (cap:Nat) (w:World):Calls Tryz.prog 159 #[.slice a 0 cap] w fun e w'=>∃q,e=.returned (.slice q 0 0)∧Below w.heap.size w w':=by
 go_enter Tryz.func159,Tryz.ntmps159
 cases a
 ·go_wp2_with (simp only[Ar (Tryz.underlying41),Option.isNone_none,Result.andThen_ok])
  go_ret
  exact⟨_,rfl,Below.refl _ _⟩
 ·go_wp2_with (simp only[Ar (Tryz.underlying41),Option.isNone_some,Result.andThen_ok])
  go_ret
  exact⟨_,rfl,(Below.refl _ _).alloc (Nat.le_refl _) _⟩
theorem ahC (a:Option Addr) (cap:Nat) (w:World):Calls Tryz.prog 81 #[.slice a 0 cap] w fun e w'=>∃q,e=.returned (.slice q 0 0)∧Below w.heap.size w w':=by
 go_enter Tryz.func81,Tryz.ntmps81
 cases a
 ·go_wp2_with (simp only[Ar (Tryz.underlying66),Option.isNone_none,Result.andThen_ok])
  go_ret
  exact⟨_,rfl,Below.refl _ _⟩
 ·go_wp2_with (simp only[Ar (Tryz.underlying66),Option.isNone_some,Result.andThen_ok])
  go_ret
  exact⟨_,rfl,(Below.refl _ _).alloc (Nat.le_refl _) _⟩
theorem agC (a:Option Addr) (cap:Nat) (w:World):Calls Tryz.prog 49 #[.slice a 0 cap] w fun e w'=>∃q,e=.returned (.slice q 0 0)∧Below w.heap.size w w':=by
 go_enter Tryz.func49,Tryz.ntmps49
 cases a
 ·go_wp2_with (simp only[Ar (Tryz.underlying68),Option.isNone_none,Result.andThen_ok])
  go_ret
  exact⟨_,rfl,Below.refl _ _⟩
 ·go_wp2_with (simp only[Ar (Tryz.underlying68),Option.isNone_some,Result.andThen_ok])
  go_ret
  exact⟨_,rfl,(Below.refl _ _).alloc (Nat.le_refl _) _⟩
theorem ai1 (a:Option Addr) (cap:Nat) (w:World):Calls Tryz.prog 87 #[.slice a 0 cap] w fun e w'=>∃q,e=.returned (.slice q 0 0)∧Below w.heap.size w w':=by
 go_enter Tryz.func87,Tryz.ntmps87
 cases a
 ·go_wp2_with (simp only[Ar (Tryz.underlying27),Option.isNone_none,Result.andThen_ok])
  go_ret
  exact⟨_,rfl,Below.refl _ _⟩
 ·go_wp2_with (simp only[Ar (Tryz.underlying27),Option.isNone_some,Result.andThen_ok])
  go_ret
  exact⟨_,rfl,(Below.refl _ _).alloc (Nat.le_refl _) _⟩
end
section
set_option maxRecDepth 100000
open Go.RowKit
theorem acY {P:Program} (w:World) (tS tR e:TypeId) (ht:P.underlying tS=some (.slice e)) (size:Nat) (hz:∀w,(Go.sizeOf e).run P w=.ok size w)
  (a b:Addr) (la ca lb cb:Nat) (hne:a.block≠b.block) (arr uR:Array Value) (tA tB:TypeId) (fz:Nat×Nat)
  (ha:w.heap[a.block]? =some (.cells arr tA fz)) (hs:0<arr.size) (hb:w.heap[b.block]? =some (.cells uR tB (0,0))):
  (Extern.SlicesOverlaps.overlaps #[tS,tS] #[tR] #[.slice (some a) la ca,.slice (some b) lb cb]).run P w=.ok (.bool false) w:=by
 have hnb:(a.block !=b.block)=true:=by simpa using hne
 have akF:(a.block==b.block)=false:=by simpa using hne
 have hsa:w.shape? a.block=some (tA,arr.size):=by simp [World.shape?,ha]
 have hsb:w.shape? b.block=some (tB,uR.size):=by simp [World.shape?,hb]
 have hfb:w.frozen? b=false:=by simp [World.frozen?,hb]
 have akA:w.frozen? {block:=b.block,off:=uR.size}=false:=by simp [World.frozen?,hb]
 delta Extern.SlicesOverlaps.overlaps Extern.SlicesOverlaps.overlaps.match_4 Extern.SlicesOverlaps.overlaps._sparseCasesOn_4
 dsimp [Array.getLit,Array.casesOn]
 obtain⟨k,hk⟩:∃k,arr.size=k+1:=⟨arr.size-1,by omega⟩
 rw[hk]at hsa
 by_cases h0:la=0∨lb=0∨size=0
 ·simp [run_underlying ht,hz,h0]
 ·cases hfa:w.frozen? a<;>cases hfe:w.frozen? {block:=a.block,off:=k+1}<;>simp [run_underlying ht,hz,h0,hnb,akF,frozen,noView,viewAt,mayBeOne,stringish,shape,Sem.run,hsa,hsb,hfa,hfe,hfb,akA]
theorem agw {w:World} {b off:Nat} {v:Value} (h:w.cell? ⟨b,off,none⟩=some v):∃arr t fz,w.heap[b]? =some (.cells arr t fz)∧0<arr.size:=by
 unfold World.cell? at h
 simp only at h
 split at h
 ·rename_i arr t fz hh
  refine⟨arr,t,fz,hh,?_⟩
  simp only[Option.isSome_none,Bool.false_eq_true,if_false]at h
  have:=(Array.getElem?_eq_some_iff.1 h).1
  omega
 ·cases h
theorem Tb {P : Program} {nm : List Nat} {f : FuncId} {fn : Func} {tS tR e : TypeId} {i : TypeInfo} (hf : P.funcs[f]? = some fn) (h1 : (fn.name == "runtime.NumGoroutine") = false) (h2 : fn.body.isNone = true) (h3 : Extern.findNext fn = none)
  (h4:Extern.find fn=some (Extern.SlicesOverlaps.overlaps #[tS,tS] #[tR])) (ht:P.underlying tS=some (.slice e)) (hi:P.info? e=some i):Sound P nm f su:=by
 intro args σ r σ' h
 unfold su A.cM at h
 split at h
 ·simp only at h
  split at h
  ·rename_i sz es id g sz' off len
   split at h
   ·rename_i hg0 ss es' hs
    split at h
    ·rename_i hc
     obtain⟨hne,rfl,uh,hl⟩:=hc
     simp only[Option.some.injEq,Prod.mk.injEq]at h
     obtain⟨rfl,rfl⟩:=h
     refine .inr fun z vs e1 e2 hh ha=>?_
     obtain⟨v,u,rfl,r1,r2⟩:=Yp ha
     simp only[aq]at r1 r2
     obtain⟨a,cap,rfl,hcap,akS,r1⟩:=r1
     obtain⟨b,pN,rfl,hb,hX,r1⟩:=r1.resolve_left hne
     obtain⟨hg,p,k1,k2,a',cap',rfl,alq,rx⟩:=r2
     obtain⟨j1,j2,j3,j4,⟨arr,bt,j5,j6⟩,j7,j8,j9⟩:=hh.blk id p _ k1 hs
     obtain⟨q1,q2,q3⟩:=rx j1.symm
     have hsz:∀w,(Go.sizeOf e).run P w=.ok i.size w:=fun w=>by simp [sizeOf,uB w hi]
     have ha':a'=⟨p.b,p.base+off*p.sz,none⟩:=q2.resolve_left (by omega)
     have hpb:b≠p.b:=fun k=>hX (.inr (.inl ⟨p,List.mem_of_getElem? k1,k.symm⟩))
     have hw5:z.w.heap[p.b]? =some (.cells arr bt (0,0)):=j5
     have hcell:∃v,z.w.cell? ⟨b,pN,none⟩=some v:=by
      cases es with
      |nil=>exact absurd rfl hne
      |cons x xs=>
       simp only[bM]at r1
       obtain⟨l1,l2,_⟩:=r1
       cases x with
       |nil=>simp at l1;omega
       |cons y ys=>simp only[bE]at l2;obtain⟨⟨v,l3,_⟩,_⟩:=l2;exact⟨v,l3⟩
     obtain⟨v,hv⟩:=hcell
     obtain⟨aj8,t0,fz0,m1,m2⟩:=agw hv
     have hrun:=acY (P:=P) z.w tS tR e ht i.size hsz ⟨b,pN,none⟩ a' es.length cap len cap' (by rw[ha'];exact hpb) aj8 arr t0 bt fz0 m1 m2 (by rw[ha'];exact hw5)
     refine⟨.bool false,z.w,z.E,?_,⟨rfl,rfl,rfl,Nat.le_refl _,fun _ _ _=>rfl,fun i p hp=>.inr ⟨p,hp,rfl⟩,fun i p hp=>⟨p,hp,.inl rfl⟩,e2,fun p hp=>hh.lt hp⟩,hh,by simp [aq]⟩
     rw[run_callFunc_extern hf h1 h2 h3 h4,hrun];rfl
    ·cases h
   ·cases h
  ·cases h
 ·cases h
theorem aax:Sound Tryz.prog aG 133 su:=Tb Tryz.func133 (by kernel_rfl) (by kernel_rfl) (by kernel_rfl) (tS:=66) (tR:=4) (by kernel_rfl) (e:=74) (by kernel_rfl) rfl
theorem aar:Sound Tryz.prog aG 184 su:=Tb Tryz.func184 (by kernel_rfl) (by kernel_rfl) (by kernel_rfl) (tS:=41) (tR:=4) (by kernel_rfl) (e:=51) (by kernel_rfl) rfl
end
section
set_option maxRecDepth 100000
theorem aeW:Sound Tryz.prog aG 170 N3:=q1 [] 35 (.s .n (.s (.s .n (.b (.l [2,7] [.exit 0,.ret] (.s .n (.s bL (.s (.b (.s .n (.s .n bp))) .n)))))) aR)) aC.nil Tryz.func170 Tryz.call170 (fun a0 σ=>by kernel_rfl) rfl rfl
theorem NP:Sound Tryz.prog aG 135 DA:=q1 [] 20 (.s .n aR) (aC.cons aeW aC.nil) Tryz.func135 Tryz.call135 (fun a0 σ=>by kernel_rfl) rfl rfl
theorem yt:Sound Tryz.prog aG 91 mR:=q3 [] 15 (.s .n aR) aC.nil Tryz.func91 Tryz.call91 (fun a0 a1 a2 σ=>by kernel_rfl) rfl rfl
theorem S0:Sound Tryz.prog aG 194 Fc:=q1 [] 5 (.s .n aR) (aC.cons yt aC.nil) Tryz.func194 Tryz.call194 (fun a0 σ=>by kernel_rfl) rfl rfl
theorem abk:Sound Tryz.prog aG 195 Mb:=q1 [5] 63 (.s .n (.s bp (.s .n (.s (.s .n (.b (.l [2,12] [.exit 0,.ret] (.s .n (.s bL (.s (.b (.s .n (.s (.b (.s .n (.j aR (.s .n (.j aR (.s .n (.j aR bp))))))) .n))) .n)))))) aR)))) (aC.cons S0 (aC.cons NP aC.nil)) Tryz.func195 Tryz.call195 (fun a0 σ=>by kernel_rfl) rfl rfl
theorem abf:Sound Tryz.prog aG 186 L7:=q1 [1,6] 115 (.s .n (.s (.b (.s .n (.j aR (.s .n (.j aR (.s .n (.j aR bp))))))) (.s .n (.s (.s .n (.b (.l [1,2,33] [.exit 1,.ret] (.s .n (.s bL (.s (.b (.s .n (.s (.b (.s .n (.j aR (.s .n (.j aR (.s .n (.j aR (.s .n (.j aR bp))))))))) (.s (.s .n bp) (.s .n (.s .n (.c [1] .n .n))))))) .n)))))) aR)))) (aC.cons NP (aC.cons yt (aC.cons S0 (aC.cons abk aC.nil)))) Tryz.func186 Tryz.call186 (fun a0 σ=>by kernel_rfl) rfl rfl
theorem abe:Sound Tryz.prog aG 162 L6:=q1 [5] 30 (.s .n (.s bp (.s .n (.s (.s .n (.b (.l [2,13] [.exit 0,.ret] (.s .n (.s bL (.s (.b (.s .n (.s (.s .n bp) (.s bp .n)))) .n)))))) aR)))) (aC.cons abf aC.nil) Tryz.func162 Tryz.call162 (fun a0 σ=>by kernel_rfl) rfl rfl
noncomputable def aaf (dyn:Nat→List U→Heap→Option (U×Heap)):Fx:=⟨Tryz.prog,aG,A.tab (fun _ _=>none) [],dyn,[],[],19,[]⟩
theorem aac (dyn:Nat→List U→Heap→Option (U×Heap)) (hd:∀f,Sound Tryz.prog aG f (dyn (aG.getD f 0))):Sound Tryz.prog aG 74 (A.wrap true [(.s 3)] .k (A.cM (Ir dyn))):=
 Sound.wrap (Sound.pO (X:=aaf dyn) (fn:=Tryz.f74) (bP:=(.s .n (.s (.s .n (.b (.l [4,8] [.exit 0,.ret] (.s .n (.s bL (.s (.b (.s .n bp)) .n)))))) aR))) .F trivial (cL.of rfl aC.nil (hd)) Tryz.func74 Tryz.call74 (fun a0 a1 σ=>by kernel_rfl)) _ _ _ rfl rfl
theorem LW (dyn:Nat→List U→Heap→Option (U×Heap)) (hd:∀f,Sound Tryz.prog aG f (dyn (aG.getD f 0))):Sound Tryz.prog aG 74 (yp dyn):=aac dyn hd
theorem IJ:Sound Tryz.prog aG 165 zU:=q2 [2] 8 (.s .n aR) aC.nil Tryz.func165 Tryz.call165 (fun a0 a1 σ=>by kernel_rfl) rfl rfl
noncomputable def abC:Fx:=⟨Tryz.prog,aG,A.tab (fun _ _=>none) [(74,yp (A.tab (fun _ _=>none) [(64,zU),(64,zU)]))],(A.tab (fun _ _=>none) [(64,zU),(64,zU)]),[4],[],17,[]⟩
theorem abz:Sound Tryz.prog aG 120 (A.wrap true [(.s 3)] (.t [(.a [.k,.k,(.e 7 qK)]),.k]) (A.cM (IS))):=
 Sound.wrap (Sound.pO (X:=abC) (fn:=Tryz.f120) (bP:=(.s .n (.s .n (.s bp aR)))) .F trivial (cL.of rfl (aC.cons (LW _ (qG (gm.cons (lu IJ (by kernel_rfl) rfl) (gm.cons (lu IJ (by kernel_rfl) rfl) gm.nil)))) aC.nil) (qG (gm.cons (lu IJ (by kernel_rfl) rfl) (gm.cons (lu IJ (by kernel_rfl) rfl) gm.nil)))) Tryz.func120 Tryz.call120 (fun a0 a1 σ=>by kernel_rfl)) _ _ _ rfl rfl
theorem S1:Sound Tryz.prog aG 120 IM:=abz
theorem abm:Sound Tryz.prog aG 163 De:=q3 [] 32 (.s .n (.s bp (.s (.s .n (.b (.l [6,7] [.exit 0,.ret] (.s (.s .n bL) (.s (.b bp) .n))))) aR))) aC.nil Tryz.func163 Tryz.call163 (fun a0 a1 a2 σ=>by kernel_rfl) rfl rfl
noncomputable def acf:Fx:=⟨Tryz.prog,aG,A.tab (fun _ _=>none) [],(fun _ _ _=>none),[4],[15],33,[]⟩
theorem ace:Sound Tryz.prog aG 164 (A.wrap false [] .k (A.eG (Fk))):=
 Sound.wrap (Sound.qg (X:=acf) (fn:=Tryz.f164) (bP:=(.s .n (.s (.s .n (.c [4] .n .n)) (.s .n (.b (.l [4,6] [.exit 0] (.s (.s .n bL) (.s (.b .n) .n)))))))) .K trivial (cL.of rfl aC.nil (fun _=>Sound.none)) Tryz.func164 Tryz.call164 (fun a0 a1 a2 σ=>by kernel_rfl)) _ _ _ rfl rfl
theorem acd:Sound Tryz.prog aG 164 IX:=ace
theorem SX:Sound Tryz.prog aG 115 IL:=q1 [1,6,7] 91 (.s .n (.s (.s .n bp) (.s bp (.s .n (.s (.s .n (.b (.l [1,2,23] [.exit 0,.ret] (.s .n (.s bL (.s (.b (.s .n (.s bp (.s bp (.s .n (.s bp (.s bp (.s bp .n)))))))) .n)))))) aR))))) (aC.cons abe (aC.cons yt (aC.cons S1 (aC.cons abm (aC.cons acd aC.nil))))) Tryz.func115 Tryz.call115 (fun a0 σ=>by kernel_rfl) rfl rfl
theorem NQ:Sound Tryz.prog aG 46 Fy:=q2 [] 7 (.s .n (.s bp aR)) aC.nil Tryz.func46 Tryz.call46 (fun a0 a1 σ=>by kernel_rfl) rfl rfl
theorem TA:Sound Tryz.prog aG 45 I8:=q1 [] 15 (.s .n (.s (.s .n (.b (.l [2,7] [.exit 0,.ret] (.s .n (.s bL (.s (.b (.s .n bp)) .n)))))) aR)) aC.nil Tryz.func45 Tryz.call45 (fun a0 σ=>by kernel_rfl) rfl rfl
theorem Tf:Sound Tryz.prog aG 67 IW:=q1 [1,7,8,11] 50 (.s .n (.s (.s .n bp) (.s .n (.s (.s .n (.b (.l [1,5,20] [.exit 0] (.s .n (.s bL (.s (.b (.s .n (.s .n (.s .n (.b (.l [1,5,7,35] [.exit 2] (.s .n (.s bL (.s (.b aR) .n))))))))) .n)))))) aR)))) (aC.cons SX (aC.cons S1 aC.nil)) Tryz.func67 Tryz.call67 (fun a0 σ=>by kernel_rfl) rfl rfl
theorem adS:Sound Tryz.prog aG 116 Ny:=q1 [1,7] 24 (.s .n (.s .n (.s .n (.s (.s .n (.b (.l [16] [.exit 0] (.s .n (.s bL (.s (.b aR) .n)))))) aR)))) (aC.cons Tf aC.nil) Tryz.func116 Tryz.call116 (fun a0 σ=>by kernel_rfl) rfl rfl
theorem TB:Sound Tryz.prog aG 92 I9:=q1 [] 40 (.s .n (.s (.s .n (.b (.l [2,6] [.exit 0,.ret] (.s .n (.s bL (.s (.b (.s .n bp)) .n)))))) aR)) aC.nil Tryz.func92 Tryz.call92 (fun a0 σ=>by kernel_rfl) rfl rfl
theorem ac7:Sound Tryz.prog aG 117 M7:=q1 [] 9 (.s .n aR) (aC.cons TB aC.nil) Tryz.func117 Tryz.call117 (fun a0 σ=>by kernel_rfl) rfl rfl
theorem Tg:Sound Tryz.prog aG 118 IY:=q1 [] 5 (.s .n aR) (aC.cons yt aC.nil) Tryz.func118 Tryz.call118 (fun a0 σ=>by kernel_rfl) rfl rfl
theorem acB:Sound Tryz.prog aG 119 MU:=q2 [2,3] 21 (.s .n (.s bp aR)) (aC.cons S2 aC.nil) Tryz.func119 Tryz.call119 (fun a0 a1 σ=>by kernel_rfl) rfl rfl
theorem abo:Sound Tryz.prog aG 66 Mh:=q2 [2,8,10] 97 (.s .n (.s (.s .n bp) (.s .n (.s (.s .n (.b (.l [4,26] [.exit 0,.ret] (.s .n (.s bL (.s (.b (.s .n (.s (.b (.s .n (.j aR (.s .n (.j aR (.s .n (.j aR bp))))))) (.s .n (.b (.l [4,8,63] [.exit 3,.ret] (.s .n (.s bL (.s (.b (.s .n (.b (.s .n (.j aR (.s .n (.j aR bp))))))) .n))))))))) .n)))))) aR)))) (aC.cons SX (aC.cons NQ (aC.cons TA (aC.cons adS (aC.cons yt (aC.cons ac7 (aC.cons Tg (aC.cons acB aC.nil)))))))) Tryz.func66 Tryz.call66 (fun a0 a1 σ=>by kernel_rfl) rfl rfl
theorem Tx:Sound Tryz.prog aG 93 zZ:=q1 [] 5 (.s .n aR) (aC.cons yt aC.nil) Tryz.func93 Tryz.call93 (fun a0 σ=>by kernel_rfl) rfl rfl
theorem abp:Sound Tryz.prog aG 94 Mj:=q1 [1,5] 90 (.s .n (.s bp (.s .n (.s bp (.s bp (.s bp (.s (.s .n (.b (.l [2,28] [.exit 0,.ret] (.s .n (.s bL (.s (.b (.s .n bp)) .n)))))) (.s bp (.s (.s .n (.b (.l [2,6] [.exit 2,.ret] (.s (.s .n bL) (.s (.b bp) .n))))) aR))))))))) (aC.cons yt (aC.cons NQ aC.nil)) Tryz.func94 Tryz.call94 (fun a0 σ=>by kernel_rfl) rfl rfl
theorem Tk:Sound Tryz.prog aG 53 I1:=q2 [2,3] 20 (.s .n (.s (.s .n (.j (.s bp aR) .n)) aR)) (aC.cons S2 aC.nil) Tryz.func53 Tryz.call53 (fun a0 a1 σ=>by kernel_rfl) rfl rfl
theorem abI:Sound Tryz.prog aG 95 Mv:=q1 [4] 99 (.s .n (.s (.s .n (.b (.l [2,7] [.exit 0,.ret] (.s .n (.s bL (.s (.b (.s .n (.b (.s .n (.j aR (.s .n (.j aR (.s .n (.j aR (.s .n (.j aR (.s .n (.j aR (.s .n (.j aR bp))))))))))))))) .n)))))) aR)) (aC.cons yt (aC.cons NP (aC.cons Tx (aC.cons Tk aC.nil)))) Tryz.func95 Tryz.call95 (fun a0 σ=>by kernel_rfl) rfl rfl
theorem Ut:Sound Tryz.prog aG 44 DI:=q1 [5] 101 (.s .n (.s bp (.s .n (.s (.s .n (.b (.l [2,3,13] [.exit 0,.ret] (.s .n (.s bL (.s (.b (.s .n (.s (.b (.s .n (.j aR (.s .n (.j aR (.s .n (.j aR bp))))))) (.s (.s .n bp) (.s bp (.s (.s .n bp) .n)))))) .n)))))) aR)))) (aC.cons yt (aC.cons TB (aC.cons Tx (aC.cons abp (aC.cons abI (aC.cons NQ aC.nil)))))) Tryz.func44 Tryz.call44 (fun a0 σ=>by kernel_rfl) rfl rfl
theorem Tz:Sound Tryz.prog aG 68 Fm:=q3 [4,5,9,11] 55 (.s .n (.s bp (.s bp (.s bp (.s (.s .n (.b (.l [4,5,6,7,31] [.exit 0,.ret] (.s .n (.s bL (.s (.b (.s .n (.s (.s .n bL) (.s (.s .n (.b (.l [4,6,7,43] [.exit 2,.ret] (.s .n (.s bL (.s (.b (.s .n bp)) .n)))))) .n)))) .n)))))) aR))))) (aC.cons Tg aC.nil) Tryz.func68 Tryz.call68 (fun a0 a1 a2 σ=>by kernel_rfl) rfl rfl
theorem S6:Sound Tryz.prog aG 20 Ff:=q3 [3,12,14,16] 76 (.s .n (.s (.s .n bp) (.s .n (.s .n (.s (.s .n (.b (.l [37] [.exit 0] (.s .n (.s bL (.s (.b aR) .n)))))) (.s (.s .n (.b (.l [6,46] [.exit 2,.ret] (.s .n (.s bL (.s (.b (.s .n (.s .n (.b (.l [6,53] [.exit 4,.ret] (.s .n (.s bL (.s (.b (.s .n (.s bp (.s .n bp)))) .n)))))))) .n)))))) aR)))))) (aC.cons abo (aC.cons Ut (aC.cons TA (aC.cons Tf (aC.cons Tz aC.nil))))) Tryz.func20 Tryz.call20 (fun a0 a1 a2 σ=>by kernel_rfl) rfl rfl
theorem adR:Sound Tryz.prog aG 48 Dz:=q1 [5,7] 40 (.s .n (.s .n (.s (.s .n (.b (.l [11] [.exit 0] (.s .n (.s bL (.s (.b (.s .n (.s .n (.b (.l [5,18] [.exit 2] (.s .n (.s bL (.s (.b (.s .n (.s .n (.c [5] .n .n)))) .n)))))))) .n)))))) aR))) aC.nil Tryz.func48 Tryz.call48 (fun a0 σ=>by kernel_rfl) rfl rfl
theorem IU:Sound Tryz.prog aG 127 zV:=q2 [2] 9 (.s .n aR) aC.nil Tryz.func127 Tryz.call127 (fun a0 a1 σ=>by kernel_rfl) rfl rfl
noncomputable def adh:Fx:=⟨Tryz.prog,aG,A.tab (fun _ _=>none) [(74,yp (A.tab (fun _ _=>none) [(226,zV),(226,zV)])),(68,Fm)],(A.tab (fun _ _=>none) [(226,zV),(226,zV)]),[3,12,13,15],[9],70,[]⟩
theorem adb:Sound Tryz.prog aG 72 (A.wrap true [lJ,qL] (.s 3) (A.eG (Jc))):=
 Sound.wrap (Sound.qg (X:=adh) (fn:=Tryz.f72) (bP:=(.s .n (.s .n (.s (.s .n (.b (.l [3,7,20] [.exit 0] (.s .n (.s bL (.s (.b (.s .n (.s .n (.s .n (.b (.l [3,7,35] [.exit 2] (.s .n (.s bL (.s (.b (.s .n (.s .n (.s .n (.s (.s .n (.s .n (.c [3,13,14] .n .n))) .n))))) .n))))))))) .n)))))) aR)))) .F trivial (cL.of rfl (aC.cons (LW _ (qG (gm.cons (lu IU (by kernel_rfl) rfl) (gm.cons (lu IU (by kernel_rfl) rfl) gm.nil)))) (aC.cons Tz aC.nil)) (qG (gm.cons (lu IU (by kernel_rfl) rfl) (gm.cons (lu IU (by kernel_rfl) rfl) gm.nil)))) Tryz.func72 Tryz.call72 (fun a0 a1 a2 σ=>by kernel_rfl)) _ _ _ rfl rfl
theorem ac6:Sound Tryz.prog aG 72 Du:=adb
theorem I3:Sound Tryz.prog aG 75 uA:=q2 [2] 9 (.s .n aR) aC.nil Tryz.func75 Tryz.call75 (fun a0 a1 σ=>by kernel_rfl) rfl rfl
noncomputable def agh:Fx:=⟨Tryz.prog,aG,A.tab (fun _ _=>none) [(74,yp (A.tab (fun _ _=>none) [(225,uA),(225,uA)])),(48,Dz),(72,Du)],(A.tab (fun _ _=>none) [(225,uA),(225,uA)]),[3,12,13,17],[9,21],114,[]⟩
theorem age:Sound Tryz.prog aG 26 (A.wrap true [lJ,qL,(.e 11 eZ)] .k (A.eG (JS))):=
 Sound.wrap (Sound.qg (X:=agh) (fn:=Tryz.f26) (bP:=(.s .n (.s .n (.s (.s .n (.b (.l [3,25] [.exit 0] (.s .n (.s bL (.s (.b (.s .n (.s .n (.s .n (.b (.l [3,40] [.exit 2] (.s .n (.s bL (.s (.b (.s .n (.s .n (.s .n (.s .n (.c [3] .n .n)))))) .n))))))))) .n)))))) (.s (.s .n (.b (.l [3,79] [.exit 4] (.s .n (.s bL (.s (.b (.s .n (.s .n (.s (.s .n (.b (.l [3,92] [.exit 6] (.s .n (.s bL (.s (.b aR) .n)))))) .n)))) .n)))))) aR))))) .F trivial (cL.of rfl (aC.cons (LW _ (qG (gm.cons (lu I3 (by kernel_rfl) rfl) (gm.cons (lu I3 (by kernel_rfl) rfl) gm.nil)))) (aC.cons adR (aC.cons ac6 aC.nil))) (qG (gm.cons (lu I3 (by kernel_rfl) rfl) (gm.cons (lu I3 (by kernel_rfl) rfl) gm.nil)))) Tryz.func26 Tryz.call26 (fun a0 a1 a2 σ=>by kernel_rfl)) _ _ _ rfl rfl
theorem Vb:Sound Tryz.prog aG 26 FL:=age
noncomputable def aaH (dyn:Nat→List U→Heap→Option (U×Heap)):Fx:=⟨Tryz.prog,aG,A.tab (fun _ _=>none) [],dyn,[],[],19,[]⟩
theorem aaE (dyn:Nat→List U→Heap→Option (U×Heap)) (hd:∀f,Sound Tryz.prog aG f (dyn (aG.getD f 0))):Sound Tryz.prog aG 168 (A.wrap true [(.s 2)] .k (A.cM (Iz dyn))):=
 Sound.wrap (Sound.pO (X:=aaH dyn) (fn:=Tryz.f168) (bP:=(.s .n (.s (.s .n (.b (.l [4,8] [.exit 0,.ret] (.s .n (.s bL (.s (.b (.s .n bp)) .n)))))) aR))) .F trivial (cL.of rfl aC.nil (hd)) Tryz.func168 Tryz.call168 (fun a0 a1 σ=>by kernel_rfl)) _ _ _ rfl rfl
theorem aaB (dyn:Nat→List U→Heap→Option (U×Heap)) (hd:∀f,Sound Tryz.prog aG f (dyn (aG.getD f 0))):Sound Tryz.prog aG 168 (Ix dyn):=aaE dyn hd
noncomputable def aao (dyn:Nat→List U→Heap→Option (U×Heap)):Fx:=⟨Tryz.prog,aG,A.tab (fun _ _=>none) [(168,Ix dyn)],dyn,[],[],9,[]⟩
theorem aal (dyn:Nat→List U→Heap→Option (U×Heap)) (hd:∀f,Sound Tryz.prog aG f (dyn (aG.getD f 0))):Sound Tryz.prog aG 130 (A.wrap true [(.s 2)] .k (A.cM (It dyn))):=
 Sound.wrap (Sound.pO (X:=aao dyn) (fn:=Tryz.f130) (bP:=(.s .n aR)) .F trivial (cL.of rfl (aC.cons (aaB dyn hd) aC.nil) (hd)) Tryz.func130 Tryz.call130 (fun a0 a1 σ=>by kernel_rfl)) _ _ _ rfl rfl
theorem aai (dyn:Nat→List U→Heap→Option (U×Heap)) (hd:∀f,Sound Tryz.prog aG f (dyn (aG.getD f 0))):Sound Tryz.prog aG 130 (Is dyn):=aal dyn hd
theorem IK:Sound Tryz.prog aG 131 uz:=q3 [3] 15 (.s .n aR) aC.nil Tryz.func131 Tryz.call131 (fun a0 a1 a2 σ=>by kernel_rfl) rfl rfl
noncomputable def abL:Fx:=⟨Tryz.prog,aG,A.tab (fun _ _=>none) [(130,Is (A.tab (fun _ _=>none) [(229,uz),(229,uz)]))],(A.tab (fun _ _=>none) [(229,uz),(229,uz)]),[],[],23,[]⟩
theorem abK:Sound Tryz.prog aG 76 (A.wrap true [] .k (A.eG (IT))):=
 Sound.wrap (Sound.qg (X:=abL) (fn:=Tryz.f76) (bP:=(.s .n (.s .n aR))) .F trivial (cL.of rfl (aC.cons (aai _ (qG (gm.cons (lu IK (by kernel_rfl) rfl) (gm.cons (lu IK (by kernel_rfl) rfl) gm.nil)))) aC.nil) (qG (gm.cons (lu IK (by kernel_rfl) rfl) (gm.cons (lu IK (by kernel_rfl) rfl) gm.nil)))) Tryz.func76 Tryz.call76 (fun a0 a1 a2 σ=>by kernel_rfl)) _ _ _ rfl rfl
theorem abJ:Sound Tryz.prog aG 76 sY:=abK
noncomputable def abB:Fx:=⟨Tryz.prog,aG,A.tab (fun _ _=>none) [],(fun _ _ _=>none),[4,9],[],38,[]⟩
theorem aby:Sound Tryz.prog aG 31 (A.wrap true [.k,(.a eZ)] .k (A.eG (IQ))):=
 Sound.wrap (Sound.qg (X:=abB) (fn:=Tryz.f31) (bP:=(.s .n (.s .n (.s (.s .n (.b (.l [7,13] [.exit 0] (.s .n (.s bL (.s (.b (.s .n (.s .n (.c [7] .n .n)))) .n)))))) aR)))) .K trivial (cL.of rfl aC.nil (fun _=>Sound.none)) Tryz.func31 Tryz.call31 (fun a0 a1 a2 σ=>by kernel_rfl)) _ _ _ rfl rfl
theorem SZ:Sound Tryz.prog aG 31 rA:=aby
noncomputable def aaz (dyn:Nat→List U→Heap→Option (U×Heap)):Fx:=⟨Tryz.prog,aG,A.tab (fun _ _=>none) [],dyn,[],[],19,[]⟩
theorem aay (dyn:Nat→List U→Heap→Option (U×Heap)) (hd:∀f,Sound Tryz.prog aG f (dyn (aG.getD f 0))):Sound Tryz.prog aG 132 (A.wrap true [(.s 8)] .k (A.cM (Iv dyn))):=
 Sound.wrap (Sound.pO (X:=aaz dyn) (fn:=Tryz.f132) (bP:=(.s .n (.s (.s .n (.b (.l [4,8] [.exit 0,.ret] (.s .n (.s bL (.s (.b (.s .n bp)) .n)))))) aR))) .F trivial (cL.of rfl aC.nil (hd)) Tryz.func132 Tryz.call132 (fun a0 a1 σ=>by kernel_rfl)) _ _ _ rfl rfl
theorem aaw (dyn:Nat→List U→Heap→Option (U×Heap)) (hd:∀f,Sound Tryz.prog aG f (dyn (aG.getD f 0))):Sound Tryz.prog aG 132 (Iu dyn):=aay dyn hd
end
section
set_option maxRecDepth 100000
noncomputable def aae (dyn:Nat→List U→Heap→Option (U×Heap)):Fx:=⟨Tryz.prog,aG,A.tab (fun _ _=>none) [(132,Iu dyn)],dyn,[],[],9,[]⟩
theorem aab (dyn:Nat→List U→Heap→Option (U×Heap)) (hd:∀f,Sound Tryz.prog aG f (dyn (aG.getD f 0))):Sound Tryz.prog aG 77 (A.wrap true [(.s 8)] .k (A.cM (Iq dyn))):=
 Sound.wrap (Sound.pO (X:=aae dyn) (fn:=Tryz.f77) (bP:=(.s .n aR)) .F trivial (cL.of rfl (aC.cons (aaw dyn hd) aC.nil) (hd)) Tryz.func77 Tryz.call77 (fun a0 a1 σ=>by kernel_rfl)) _ _ _ rfl rfl
theorem Z9 (dyn:Nat→List U→Heap→Option (U×Heap)) (hd:∀f,Sound Tryz.prog aG f (dyn (aG.getD f 0))):Sound Tryz.prog aG 77 (E3 dyn):=aab dyn hd
theorem II:Sound Tryz.prog aG 78 uy:=q3 [3] 27 (.s .n aR) aC.nil Tryz.func78 Tryz.call78 (fun a0 a1 a2 σ=>by kernel_rfl) rfl rfl
noncomputable def abA:Fx:=⟨Tryz.prog,aG,A.tab (fun _ _=>none) [(76,sY),(31,A.ij (.s 8) rA),(77,E3 (A.tab (fun _ _=>none) [(234,uy),(234,uy)]))],(A.tab (fun _ _=>none) [(234,uy),(234,uy)]),[4,10],[8],94,[]⟩
theorem abx:Sound Tryz.prog aG 27 (A.wrap true [.k,lJ,(.e 11 eZ)] (.s 3) (A.eG (IP))):=
 Sound.wrap (Sound.qg (X:=abA) (fn:=Tryz.f27) (bP:=(.s .n (.s .n (.s (.s .n (.b (.l [4,7,8] [.exit 0] (.s (.s .n bL) (.s (.b (.s .n (.b (.l [4,7,23] [.exit 2] (.s .n (.s bL (.s (.b (.s .n (.s .n (.s (.s .n bL) (.s .n (.s (.s .n bL) (.s .n (.s (.b (.l [4,13] [.exit 4] (.s (.s .n bL) (.b .n)))) .n)))))))) .n))))))) (.s aR .n)))))) aR)))) .F trivial (cL.of rfl (aC.cons abJ (aC.cons (Sound.ij SZ (.s 8) rfl) (aC.cons (Z9 _ (qG (gm.cons (lu II (by kernel_rfl) rfl) (gm.cons (lu II (by kernel_rfl) rfl) gm.nil)))) aC.nil))) (qG (gm.cons (lu II (by kernel_rfl) rfl) (gm.cons (lu II (by kernel_rfl) rfl) gm.nil)))) Tryz.func27 Tryz.call27 (fun a0 a1 a2 σ=>by kernel_rfl)) _ _ _ rfl rfl
theorem SY:Sound Tryz.prog aG 27 Fb:=abx
theorem adP:Sound Tryz.prog aG 6 Nx:=q3 [3] 23 (.s .n (.s (.s .n bp) aR)) (aC.cons S6 (aC.cons Vb (aC.cons SY aC.nil))) Tryz.func6 Tryz.call6 (fun a0 a1 a2 σ=>by kernel_rfl) rfl rfl
theorem adH:Sound Tryz.prog aG 190 Nu:=q1 [] 34 (.s .n (.s (.s .n (.b (.l [2,7] [.exit 0,.ret] (.s .n (.s bL (.s (.b (.s .n (.s .n bp))) .n)))))) aR)) aC.nil Tryz.func190 Tryz.call190 (fun a0 σ=>by kernel_rfl) rfl rfl
theorem NO:Sound Tryz.prog aG 178 Dx:=q1 [] 20 (.s .n aR) (aC.cons adH aC.nil) Tryz.func178 Tryz.call178 (fun a0 σ=>by kernel_rfl) rfl rfl
theorem yw:Sound Tryz.prog aG 60 oh:=q3 [] 15 (.s .n aR) aC.nil Tryz.func60 Tryz.call60 (fun a0 a1 a2 σ=>by kernel_rfl) rfl rfl
theorem Je:Sound Tryz.prog aG 122 zW:=q1 [] 5 (.s .n aR) (aC.cons yw aC.nil) Tryz.func122 Tryz.call122 (fun a0 σ=>by kernel_rfl) rfl rfl
theorem aeS:Sound Tryz.prog aG 198 Jx:=q1 [1] 14 (.s .n (.s bp aR)) aC.nil Tryz.func198 Tryz.call198 (fun a0 σ=>by kernel_rfl) rfl rfl
theorem abq:Sound Tryz.prog aG 200 Mk:=q2 [] 19 (.s .n (.s (.s .n (.b (.l [4,8] [.exit 0,.ret] (.s .n (.s bL (.s (.b (.s .n bp)) .n)))))) aR)) aC.nil Tryz.func200 Tryz.call200 (fun a0 a1 σ=>by kernel_rfl) rfl rfl
theorem abl:Sound Tryz.prog aG 199 IG:=q2 [] 9 (.s .n aR) (aC.cons abq aC.nil) Tryz.func199 Tryz.call199 (fun a0 a1 σ=>by kernel_rfl) rfl rfl
theorem abU:Sound Tryz.prog aG 196 MB:=q3 [3,8,10,14,16] 148 (.s .n (.s bp (.s (.s .n (.b (.l [3,6,23] [.exit 0,.ret] (.s .n (.s bL (.s (.b (.s .n bp)) .n)))))) (.s (.b (.s .n (.j aR (.s .n (.j aR bp))))) (.s (.s .n (.b (.l [3,6,65] [.exit 3,.ret] (.s .n (.s bL (.s (.b (.s .n (.s .n (.b (.l [3,6,10,72] [.exit 5,.ret] (.s .n (.s bL (.s (.b (.s .n bp)) .n)))))))) .n)))))) (.s bp (.s (.s .n (.b (.l [3,6,89] [.exit 7,.ret] (.s .n (.s bL (.s (.b (.s .n (.s (.b (.s .n (.j aR (.s .n (.j aR bp))))) (.s .n (.b (.l [3,6,14,137] [.exit 10,.ret] (.s .n (.s bL (.s (.b (.s .n bp)) .n))))))))) .n)))))) aR))))))) (aC.cons NO (aC.cons yw (aC.cons Je (aC.cons aeS (aC.cons abl aC.nil))))) Tryz.func196 Tryz.call196 (fun a0 a1 a2 σ=>by kernel_rfl) rfl rfl
theorem abv:Sound Tryz.prog aG 187 Mp:=q1 [1,4] 46 (.s .n (.s (.b (.s .n (.j aR (.s .n (.j aR (.s .n (.j aR bp))))))) (.s (.s .n (.b (.l [1,2,29] [.exit 1,.ret] (.s .n (.s bL (.s (.b (.s .n (.s .n bp))) .n)))))) aR))) (aC.cons NO (aC.cons yw (aC.cons abU aC.nil))) Tryz.func187 Tryz.call187 (fun a0 σ=>by kernel_rfl) rfl rfl
theorem abu:Sound Tryz.prog aG 166 Mo:=q1 [4,7] 38 (.s .n (.s bp (.s (.s .n (.b (.l [2,13] [.exit 0,.ret] (.s .n (.s bL (.s (.b (.s .n (.s (.s .n bp) (.s .n (.b (.l [2,4,27] [.exit 2,.ret] (.s .n (.s bL (.s (.b (.s .n bp)) .n))))))))) .n)))))) aR))) (aC.cons abv aC.nil) Tryz.func166 Tryz.call166 (fun a0 σ=>by kernel_rfl) rfl rfl
theorem Jf:Sound Tryz.prog aG 124 Bs:=q2 [4,7] 21 (.s .n (.s (.s .n (.b (.l [4,5,10] [.exit 0,.ret] (.s .n (.s bL (.s (.b (.s .n bp)) .n)))))) aR)) aC.nil Tryz.func124 Tryz.call124 (fun a0 a1 σ=>by kernel_rfl) rfl rfl
theorem afZ:Sound Tryz.prog aG 167 FK:=q2 [2,3,5] 21 (.s .n (.s .n aR)) (aC.cons Jf aC.nil) Tryz.func167 Tryz.call167 (fun a0 a1 σ=>by kernel_rfl) rfl rfl
theorem acy:Sound Tryz.prog aG 121 MQ:=q1 [1,5,6,9] 108 (.s .n (.s (.s .n bp) (.s bp (.s (.s .n (.b (.l [1,2,23] [.exit 0,.ret] (.s .n (.s bL (.s (.b (.s .n (.s .n (.s (.b (.s .n (.j aR (.s .n (.j aR (.s .n (.j aR bp))))))) (.s .n (.b (.l [1,2,5,81] [.exit 3,.ret] (.s .n (.s bL (.s (.b (.s .n bp)) .n)))))))))) .n)))))) aR)))) (aC.cons abu (aC.cons Jf (aC.cons yw (aC.cons afZ aC.nil)))) Tryz.func121 Tryz.call121 (fun a0 σ=>by kernel_rfl) rfl rfl
theorem Tv:Sound Tryz.prog aG 105 I6:=q1 [] 40 (.s .n (.s bp (.s (.s .n (.b (.l [2,26] [.exit 0,.ret] (.s .n (.s bL (.s (.b (.s .n bp)) .n)))))) aR))) aC.nil Tryz.func105 Tryz.call105 (fun a0 σ=>by kernel_rfl) rfl rfl
theorem af0:Sound Tryz.prog aG 123 Ol:=q2 [2,6] 21 (.s .n (.s (.s .n (.b (.l [4,10] [.exit 0,.ret] (.s .n (.s bL (.s (.b (.s .n bp)) .n)))))) aR)) aC.nil Tryz.func123 Tryz.call123 (fun a0 a1 σ=>by kernel_rfl) rfl rfl
theorem aeR:Sound Tryz.prog aG 125 N1:=q2 [2,4,7] 22 (.s .n (.s (.s .n (.b (.l [4,5,11] [.exit 0,.ret] (.s .n (.s bL (.s (.b (.s .n bp)) .n)))))) aR)) aC.nil Tryz.func125 Tryz.call125 (fun a0 a1 σ=>by kernel_rfl) rfl rfl
theorem Fp:Sound Tryz.prog aG 70 zX:=q2 [2,3,4,7] 34 (.s .n (.s .n (.s bp (.s .n aR)))) (aC.cons af0 (aC.cons Jf (aC.cons aeR aC.nil))) Tryz.func70 Tryz.call70 (fun a0 a1 σ=>by kernel_rfl) rfl rfl
theorem Js:Sound Tryz.prog aG 88 Dy:=q2 [2,3] 24 (.s .n aR) aC.nil Tryz.func88 Tryz.call88 (fun a0 a1 σ=>by kernel_rfl) rfl rfl
theorem abw:Sound Tryz.prog aG 69 Mq:=q2 [2,7,9,10] 99 (.s .n (.s (.s .n bp) (.s bp (.s (.s .n (.b (.l [2,4,22] [.exit 0,.ret] (.s .n (.s bL (.s (.b (.s .n (.s (.b (.s .n (.j aR (.s .n (.j aR (.s .n (.j aR bp))))))) (.s .n (.b (.l [2,4,7,64] [.exit 3,.ret] (.s .n (.s bL (.s (.b (.s .n (.s (.s .n bp) (.s bp bp)))) .n))))))))) .n)))))) aR)))) (aC.cons acy (aC.cons yw (aC.cons Tv (aC.cons Fp (aC.cons Je (aC.cons Js aC.nil)))))) Tryz.func69 Tryz.call69 (fun a0 a1 σ=>by kernel_rfl) rfl rfl
theorem TU:Sound Tryz.prog aG 106 Ac:=q1 [] 5 (.s .n aR) (aC.cons yw aC.nil) Tryz.func106 Tryz.call106 (fun a0 σ=>by kernel_rfl) rfl rfl
theorem abT:Sound Tryz.prog aG 107 MA:=q1 [1,4] 108 (.s .n (.s (.b (.s .n (.j aR (.s .n (.j aR (.s .n (.j aR (.s .n (.j aR bp))))))))) (.s (.s .n (.b (.l [1,2,38] [.exit 1,.ret] (.s .n (.s bL (.s (.b (.s .n bp)) .n)))))) (.s bp (.s (.s .n (.b (.l [1,2,5] [.exit 3,.ret] (.s (.s .n bL) (.s (.b bp) .n))))) aR))))) (aC.cons yw aC.nil) Tryz.func107 Tryz.call107 (fun a0 σ=>by kernel_rfl) rfl rfl
theorem ab9:Sound Tryz.prog aG 148 MJ:=q2 [2] 93 (.s .n (.s (.b (.s .n (.j aR (.s .n (.j aR (.s .n (.j aR (.s .n (.j aR (.s .n (.j aR (.s .n (.j aR bp))))))))))))) aR)) (aC.cons yw (aC.cons NO (aC.cons Je (aC.cons TU (aC.cons Js aC.nil))))) Tryz.func148 Tryz.call148 (fun a0 a1 σ=>by kernel_rfl) rfl rfl
theorem abV:Sound Tryz.prog aG 108 MC:=q1 [4] 25 (.s .n (.s bp (.s (.s .n (.b (.l [2,11] [.exit 0,.ret] (.s .n (.s bL (.s (.b (.s .n (.s .n bp))) .n)))))) aR))) (aC.cons ab9 aC.nil) Tryz.func108 Tryz.call108 (fun a0 σ=>by kernel_rfl) rfl rfl
theorem Td:Sound Tryz.prog aG 59 Dj:=q1 [5] 96 (.s .n (.s bp (.s .n (.s (.s .n (.b (.l [2,3,13] [.exit 0,.ret] (.s .n (.s bL (.s (.b (.s .n (.s (.b (.s .n (.j aR (.s .n (.j aR (.s .n (.j aR bp))))))) (.s (.s .n bp) (.s (.s .n bp) .n))))) .n)))))) (.s bp aR))))) (aC.cons yw (aC.cons Tv (aC.cons TU (aC.cons abT (aC.cons abV aC.nil))))) Tryz.func59 Tryz.call59 (fun a0 σ=>by kernel_rfl) rfl rfl
theorem acz:Sound Tryz.prog aG 126 MR:=q2 [4,7] 21 (.s .n (.s (.s .n (.b (.l [4,5,10] [.exit 0,.ret] (.s .n (.s bL (.s (.b (.s .n bp)) .n)))))) aR)) aC.nil Tryz.func126 Tryz.call126 (fun a0 a1 σ=>by kernel_rfl) rfl rfl
theorem Uq:Sound Tryz.prog aG 71 Jy:=q3 [4,5,8,11] 55 (.s .n (.s (.b (.s .n (.j aR (.s .n (.j aR bp))))) (.s .n (.s bp (.s (.s .n (.b (.l [4,6,7,44] [.exit 1,.ret] (.s .n (.s bL (.s (.b (.s .n bp)) .n)))))) aR))))) (aC.cons Je (aC.cons acz aC.nil)) Tryz.func71 Tryz.call71 (fun a0 a1 a2 σ=>by kernel_rfl) rfl rfl
theorem Te:Sound Tryz.prog aG 21 Fi:=q3 [3,10,12,13] 64 (.s .n (.s (.s .n bp) (.s (.s .n bp) (.s (.s .n (.b (.l [3,6,30] [.exit 0,.ret] (.s .n (.s bL (.s (.b (.s .n (.s .n (.b (.l [3,6,37] [.exit 2,.ret] (.s .n (.s bL (.s (.b (.s .n (.s (.s .n bp) (.s .n bp)))) .n)))))))) .n)))))) aR)))) (aC.cons abw (aC.cons Td (aC.cons Fp (aC.cons Uq aC.nil)))) Tryz.func21 Tryz.call21 (fun a0 a1 a2 σ=>by kernel_rfl) rfl rfl
noncomputable def aa1:Fx:=⟨Tryz.prog,aG,A.tab (fun _ _=>none) [],(fun _ _ _=>none),[],[],8,[]⟩
theorem aaX:Sound Tryz.prog aG 159 (A.wrap true [(.s 5)] .k (A.dU (L0))):=
 Sound.wrap (Sound.vL (X:=aa1) (fn:=Tryz.f159) (bP:=(.s .n (.s bp aR))) .K trivial (cL.of rfl aC.nil (fun _=>Sound.none)) Tryz.func159 Tryz.call159 (fun a0 σ=>by kernel_rfl)) _ _ _ rfl rfl
theorem aaU:Sound Tryz.prog aG 159 IC:=Jg aaX Tryz.call159 agB
theorem Us:Sound Tryz.prog aG 129 DH:=q2 [3] 36 (.s .n (.s .n (.s (.b (.l [3,6] [.exit 0] (.s (.s .n bL) (.b .n)))) aR))) (aC.cons Js aC.nil) Tryz.func129 Tryz.call129 (fun a0 a1 σ=>by kernel_rfl) rfl rfl
noncomputable def aaP:Fx:=⟨Tryz.prog,aG,A.tab (fun _ _=>none) [],(fun _ _ _=>none),[],[],33,[]⟩
theorem aaM:Sound Tryz.prog aG 160 (A.wrap false [] .k (A.eG (IA))):=
 Sound.wrap (Sound.qg (X:=aaP) (fn:=Tryz.f160) (bP:=(.s .n (.s .n (.s bp (.s .n (.s .n (.s .n aR))))))) .R trivial (cL.of rfl aC.nil (fun _=>Sound.none)) Tryz.func160 Tryz.call160 (fun a0 a1 a2 σ=>by kernel_rfl)) _ _ _ rfl rfl
theorem aaJ:Sound Tryz.prog aG 160 C8:=aaM
noncomputable def aaI:Fx:=⟨Tryz.prog,aG,A.tab (fun _ _=>none) [],(fun _ _ _=>none),[],[],28,[]⟩
theorem aaF:Sound Tryz.prog aG 197 (A.wrap false [] .k (A.dU (SM))):=
 Sound.wrap (Sound.vL (X:=aaI) (fn:=Tryz.f197) (bP:=(.s .n (.b (.l [2,3] [.exit 0] (.s (.s .n bL) (.s (.b .n) .n)))))) .K trivial (cL.of rfl aC.nil (fun _=>Sound.none)) Tryz.func197 Tryz.call197 (fun a0 σ=>by kernel_rfl)) _ _ _ rfl rfl
theorem aaC:Sound Tryz.prog aG 197 E6:=aaF
noncomputable def aap:Fx:=⟨Tryz.prog,aG,A.tab (fun _ _=>none) [(197,E6)],(fun _ _ _=>none),[],[],14,[]⟩
theorem aam:Sound Tryz.prog aG 193 (A.wrap false [] .k (A.cM (SJ))):=
 Sound.wrap (Sound.pO (X:=aap) (fn:=Tryz.f193) (bP:=(.s .n aR)) .K trivial (cL.of rfl (aC.cons aaC aC.nil) (fun _=>Sound.none)) Tryz.func193 Tryz.call193 (fun a0 a1 σ=>by kernel_rfl)) _ _ _ rfl rfl
theorem aaj:Sound Tryz.prog aG 193 LX:=aam
noncomputable def aag:Fx:=⟨Tryz.prog,aG,A.tab (fun _ _=>none) [(193,LX)],(fun _ _ _=>none),[],[],10,[]⟩
theorem aad:Sound Tryz.prog aG 185 (A.wrap false [] .k (A.cM (SI))):=
 Sound.wrap (Sound.pO (X:=aag) (fn:=Tryz.f185) (bP:=.n) .K trivial (cL.of rfl (aC.cons aaj aC.nil) (fun _=>Sound.none)) Tryz.func185 Tryz.call185 (fun a0 a1 σ=>by kernel_rfl)) _ _ _ rfl rfl
theorem aaa:Sound Tryz.prog aG 185 E4:=aad
noncomputable def aaQ:Fx:=⟨Tryz.prog,aG,A.tab (fun _ _=>none) [(184,su),(185,E4)],(fun _ _ _=>none),[],[],95,[]⟩
theorem aaN:Sound Tryz.prog aG 161 (A.wrap false [] .k (A.eG (IB))):=
 Sound.wrap (Sound.qg (X:=aaQ) (fn:=Tryz.f161) (bP:=(.s .n (.s .n (.s .n (.s bp (.s .n (.s bp (.s (.s .n (.j (.s .n (.s .n (.s .n aR))) .n)) (.s .n (.s (.s .n (.j (.s .n (.s .n aR)) .n)) (.s .n (.s .n aR)))))))))))) .R trivial (cL.of rfl (aC.cons aar (aC.cons aaa aC.nil)) (fun _=>Sound.none)) Tryz.func161 Tryz.call161 (fun a0 a1 a2 σ=>by kernel_rfl)) _ _ _ rfl rfl
theorem aaK:Sound Tryz.prog aG 161 E7:=aaN
noncomputable def afa:Fx:=⟨Tryz.prog,aG,A.tab (fun _ _=>none) [(159,IC),(129,DH),(160,C8),(161,E7)],(fun _ _ _=>none),[3,7],[],48,[]⟩
theorem ae8:Sound Tryz.prog aG 114 (A.wrap true [(.s 5),(.a eZ)] .k (A.cM (JC))):=
 Sound.wrap (Sound.pO (X:=afa) (fn:=Tryz.f114) (bP:=(.s .n (.s .n (.s (.s .n (.b (.l [3,5,15] [.exit 0] (.s .n (.s bL (.s (.b (.s .n (.s .n (.s (.s .n (.c [3,5,7] .n .n)) (.s .n (.c [3,5] .n .n)))))) .n)))))) aR)))) .K trivial (cL.of rfl (aC.cons aaU (aC.cons Us (aC.cons aaJ (aC.cons aaK aC.nil)))) (fun _=>Sound.none)) Tryz.func114 Tryz.call114 (fun a0 a1 σ=>by kernel_rfl)) _ _ _ rfl rfl
theorem aeU:Sound Tryz.prog aG 114 FF:=ae8
noncomputable def ad2:Fx:=⟨Tryz.prog,aG,A.tab (fun _ _=>none) [(114,FF)],(fun _ _ _=>none),[7],[],21,[]⟩
theorem adW:Sound Tryz.prog aG 65 (A.wrap true [(.e 11 eZ)] .k (A.cM (Jm))):=
 Sound.wrap (Sound.pO (X:=ad2) (fn:=Tryz.f65) (bP:=(.s .n (.s .n (.s (.s .n (.b (.l [5,12] [.exit 0] (.s .n (.s bL (.s (.b aR) .n)))))) aR)))) .K trivial (cL.of rfl (aC.cons aeU aC.nil) (fun _=>Sound.none)) Tryz.func65 Tryz.call65 (fun a0 a1 σ=>by kernel_rfl)) _ _ _ rfl rfl
theorem adJ:Sound Tryz.prog aG 65 Jj:=adW
end
section
set_option maxRecDepth 100000
theorem adI:Sound Tryz.prog aG 128 Nv:=q1 [1,5,6,9] 43 (.s .n (.s .n (.s (.s .n (.b (.l [1,3,13] [.exit 0] (.s .n (.s bL (.s (.b (.s .n (.s .n (.s .n (.b (.l [1,3,5,28] [.exit 2] (.s .n (.s bL (.s (.b aR) .n))))))))) .n)))))) aR))) (aC.cons Jf aC.nil) Tryz.func128 Tryz.call128 (fun a0 σ=>by kernel_rfl) rfl rfl
theorem adM:Sound Tryz.prog aG 73 Jl:=q3 [3,9,10] 56 (.s .n (.s .n (.s (.s .n (.b (.l [3,7,18] [.exit 0] (.s .n (.s bL (.s (.b (.s .n (.s .n (.s .n (.s (.s .n (.s .n (.c [3,9,12] .n .n))) .n))))) .n)))))) aR))) (aC.cons adI (aC.cons Fp (aC.cons Us (aC.cons Uq aC.nil)))) Tryz.func73 Tryz.call73 (fun a0 a1 a2 σ=>by kernel_rfl) rfl rfl
theorem af1:Sound Tryz.prog aG 79 tc:=q3 [3,9,10] 40 (.s .n (.s .n (.s (.s .n (.b (.l [3,6,7,14] [.exit 0,.ret] (.s .n (.s bL (.s (.b (.s .n (.s .n (.s (.s .n bL) (.s .n bp))))) .n)))))) aR))) (aC.cons Fp aC.nil) Tryz.func79 Tryz.call79 (fun a0 a1 a2 σ=>by kernel_rfl) rfl rfl
noncomputable def ad5:Fx:=⟨Tryz.prog,aG,A.tab (fun _ _=>none) [(70,zX)],(fun _ _ _=>none),[3,4,9,10],[],42,[]⟩
theorem adZ:Sound Tryz.prog aG 38 (A.wrap true [lJ,(.a eZ)] .k (A.eG (Jp))):=
 Sound.wrap (Sound.qg (X:=ad5) (fn:=Tryz.f38) (bP:=(.s .n (.s .n (.s (.s .n (.b (.l [3,7,15] [.exit 0] (.s .n (.s bL (.s (.b (.s .n (.s .n (.s .n (.c [3,7] .n .n))))) .n)))))) aR)))) .K trivial (cL.of rfl (aC.cons Fp aC.nil) (fun _=>Sound.none)) Tryz.func38 Tryz.call38 (fun a0 a1 a2 σ=>by kernel_rfl)) _ _ _ rfl rfl
theorem TW:Sound Tryz.prog aG 38 sv:=adZ
theorem ac3:Sound Tryz.prog aG 80 sZ:=q3 [4,8] 23 (.s .n (.s (.s .n (.b (.l [4,6,11] [.exit 0,.ret] (.s .n (.s bL (.s (.b (.s .n bp)) .n)))))) aR)) aC.nil Tryz.func80 Tryz.call80 (fun a0 a1 a2 σ=>by kernel_rfl) rfl rfl
theorem Ur:Sound Tryz.prog aG 28 FG:=q3 [3,12,15] 148 (.s .n (.s .n (.s (.s .n (.b (.l [3,7,19] [.exit 0] (.s .n (.s bL (.s (.b aR) .n)))))) (.s .n (.s (.s .n (.b (.l [3,9,10] [.exit 2] (.s (.s .n bL) (.s (.b (.s .n (.b (.l [3,9,42] [.exit 4] (.s .n (.s bL (.s (.b (.s .n (.s (.s .n bL) (.s .n (.s (.s .n (.b (.l [3,12,13,75] [.exit 6] (.s .n (.s bL (.s (.b aR) .n)))))) (.s (.s .n bL) (.s .n (.s (.b (.l [3,12,16] [.exit 8] (.s (.s .n bL) (.b .n)))) .n)))))))) .n))))))) .n))))) aR))))) (aC.cons (Sound.ij adJ (.s 5) rfl) (aC.cons adM (aC.cons af1 (aC.cons (Sound.ij TW (.s 8) rfl) (aC.cons ac3 aC.nil))))) Tryz.func28 Tryz.call28 (fun a0 a1 a2 σ=>by kernel_rfl) rfl rfl
theorem aeT:Sound Tryz.prog aG 7 N2:=q3 [3] 20 (.s .n (.s (.s .n bp) aR)) (aC.cons Te (aC.cons Ur aC.nil)) Tryz.func7 Tryz.call7 (fun a0 a1 a2 σ=>by kernel_rfl) rfl rfl
theorem aa7:Sound Tryz.prog aG 8 L2:=q2 [] 26 (.s .n (.s bp (.s (.s .n (.b (.l [4,13] [.exit 0,.ret] (.s .n (.s bL (.s (.b (.s .n bp)) .n)))))) aR))) aC.nil Tryz.func8 Tryz.call8 (fun a0 a1 σ=>by kernel_rfl) rfl rfl
noncomputable def aa2:Fx:=⟨Tryz.prog,aG,A.tab (fun _ _=>none) [],(fun _ _ _=>none),[],[],8,[]⟩
theorem aaY:Sound Tryz.prog aG 49 (A.wrap true [(.s 2)] .k (A.dU (SO))):=
 Sound.wrap (Sound.vL (X:=aa2) (fn:=Tryz.f49) (bP:=(.s .n (.s bp aR))) .K trivial (cL.of rfl aC.nil (fun _=>Sound.none)) Tryz.func49 Tryz.call49 (fun a0 σ=>by kernel_rfl)) _ _ _ rfl rfl
theorem SP:Sound Tryz.prog aG 49 C9:=Jg aaY Tryz.call49 agC
noncomputable def aba:Fx:=⟨Tryz.prog,aG,A.tab (fun _ _=>none) [],(fun _ _ _=>none),[],[],8,[]⟩
theorem aa9:Sound Tryz.prog aG 81 (A.wrap true [(.s 8)] .k (A.dU (SR))):=
 Sound.wrap (Sound.vL (X:=aba) (fn:=Tryz.f81) (bP:=(.s .n (.s bp aR))) .K trivial (cL.of rfl aC.nil (fun _=>Sound.none)) Tryz.func81 Tryz.call81 (fun a0 σ=>by kernel_rfl)) _ _ _ rfl rfl
theorem SS:Sound Tryz.prog aG 81 Dc:=Jg aa9 Tryz.call81 ahC
noncomputable def adg:Fx:=⟨Tryz.prog,aG,A.tab (fun _ _=>none) [(49,C9),(81,Dc)],(fun _ _ _=>none),[5],[],28,[]⟩
theorem ada:Sound Tryz.prog aG 29 (A.wrap true [(.e 11 eZ)] .k (A.dU (Jb))):=
 Sound.wrap (Sound.vL (X:=adg) (fn:=Tryz.f29) (bP:=(.s .n (.s .n (.s (.s .n (.b (.l [3,8] [.exit 0] (.s .n (.s bL (.s (.b (.s .n (.s .n aR))) .n)))))) aR)))) .K trivial (cL.of rfl (aC.cons SP (aC.cons SS aC.nil)) (fun _=>Sound.none)) Tryz.func29 Tryz.call29 (fun a0 σ=>by kernel_rfl)) _ _ _ rfl rfl
theorem ac5:Sound Tryz.prog aG 29 I7:=ada
noncomputable def Z5 (dyn:Nat→List U→Heap→Option (U×Heap)):Fx:=⟨Tryz.prog,aG,A.tab (fun _ _=>none) [],dyn,[],[],49,[]⟩
theorem Z4 (dyn:Nat→List U→Heap→Option (U×Heap)) (hd:∀f,Sound Tryz.prog aG f (dyn (aG.getD f 0))):Sound Tryz.prog aG 82 (A.wrap true [(.s 11)] .k (A.eG (C7 dyn))):=
 Sound.wrap (Sound.qg (X:=Z5 dyn) (fn:=Tryz.f82) (bP:=(.s .n (.s .n (.s .n (.s (.b (.l [9,10] [.exit 0] (.s (.s .n bL) (.b (.s .n (.s .n (.c [9,10] .n .n))))))) aR))))) .F trivial (cL.of rfl aC.nil (hd)) Tryz.func82 Tryz.call82 (fun a0 a1 a2 σ=>by kernel_rfl)) _ _ _ rfl rfl
theorem Z3 (dyn:Nat→List U→Heap→Option (U×Heap)) (hd:∀f,Sound Tryz.prog aG f (dyn (aG.getD f 0))):Sound Tryz.prog aG 82 (C6 dyn):=Z4 dyn hd
theorem S7:Sound Tryz.prog aG 83 Bq:=q2 [2] 9 (.s .n aR) aC.nil Tryz.func83 Tryz.call83 (fun a0 a1 σ=>by kernel_rfl) rfl rfl
noncomputable def ad7:Fx:=⟨Tryz.prog,aG,A.tab (fun _ _=>none) [(82,C6 (A.tab (fun _ _=>none) [(177,Bq)]))],(A.tab (fun _ _=>none) [(177,Bq)]),[],[],11,[]⟩
theorem ad1:Sound Tryz.prog aG 30 (A.wrap true [(.e 11 eZ)] .k (A.cM (Jr))):=
 Sound.wrap (Sound.pO (X:=ad7) (fn:=Tryz.f30) (bP:=(.s .n aR)) .F trivial (cL.of rfl (aC.cons (Z3 _ (qG (gm.cons (lu S7 (by kernel_rfl) rfl) gm.nil))) aC.nil) (qG (gm.cons (lu S7 (by kernel_rfl) rfl) gm.nil))) Tryz.func30 Tryz.call30 (fun a0 a1 σ=>by kernel_rfl)) _ _ _ rfl rfl
theorem adQ:Sound Tryz.prog aG 30 Bw:=ad1
noncomputable def Z2 (dyn:Nat→List U→Heap→Option (U×Heap)):Fx:=⟨Tryz.prog,aG,A.tab (fun _ _=>none) [],dyn,[4],[],49,[]⟩
theorem Z1 (dyn:Nat→List U→Heap→Option (U×Heap)) (hd:∀f,Sound Tryz.prog aG f (dyn (aG.getD f 0))):Sound Tryz.prog aG 84 (A.wrap true [(.s 8)] .k (A.eG (Ip dyn))):=
 Sound.wrap (Sound.qg (X:=Z2 dyn) (fn:=Tryz.f84) (bP:=(.s .n (.s .n (.s .n (.s (.b (.l [4,9,10] [.exit 0] (.s (.s .n bL) (.b (.s .n (.s .n (.c [4,9,10] .n .n))))))) aR))))) .F trivial (cL.of rfl aC.nil (hd)) Tryz.func84 Tryz.call84 (fun a0 a1 a2 σ=>by kernel_rfl)) _ _ _ rfl rfl
theorem Z0 (dyn:Nat→List U→Heap→Option (U×Heap)) (hd:∀f,Sound Tryz.prog aG f (dyn (aG.getD f 0))):Sound Tryz.prog aG 84 (Io dyn):=Z1 dyn hd
theorem S3:Sound Tryz.prog aG 85 Fe:=q2 [2,3] 9 (.s .n aR) (aC.cons Tk aC.nil) Tryz.func85 Tryz.call85 (fun a0 a1 σ=>by kernel_rfl) rfl rfl
noncomputable def adi:Fx:=⟨Tryz.prog,aG,A.tab (fun _ _=>none) [(84,Io (A.tab (fun _ _=>none) [(185,Fe)]))],(A.tab (fun _ _=>none) [(185,Fe)]),[2,3],[],12,[]⟩
theorem ade:Sound Tryz.prog aG 32 (A.wrap true [(.a eZ)] .k (A.cM (Jd))):=
 Sound.wrap (Sound.pO (X:=adi) (fn:=Tryz.f32) (bP:=(.s .n aR)) .F trivial (cL.of rfl (aC.cons (Z0 _ (qG (gm.cons (lu S3 (by kernel_rfl) rfl) gm.nil))) aC.nil) (qG (gm.cons (lu S3 (by kernel_rfl) rfl) gm.nil))) Tryz.func32 Tryz.call32 (fun a0 a1 σ=>by kernel_rfl)) _ _ _ rfl rfl
theorem Ty:Sound Tryz.prog aG 32 Aa:=ade
noncomputable def aa3:Fx:=⟨Tryz.prog,aG,A.tab (fun _ _=>none) [],(fun _ _ _=>none),[],[],33,[]⟩
theorem aaZ:Sound Tryz.prog aG 33 (A.wrap false [] .k (A.eG (ID))):=
 Sound.wrap (Sound.qg (X:=aa3) (fn:=Tryz.f33) (bP:=(.s .n (.s .n (.s bp (.s .n (.s .n (.s .n aR))))))) .R trivial (cL.of rfl aC.nil (fun _=>Sound.none)) Tryz.func33 Tryz.call33 (fun a0 a1 a2 σ=>by kernel_rfl)) _ _ _ rfl rfl
theorem aaV:Sound Tryz.prog aG 33 Da:=aaZ
noncomputable def aaR:Fx:=⟨Tryz.prog,aG,A.tab (fun _ _=>none) [],(fun _ _ _=>none),[],[],28,[]⟩
theorem aaO:Sound Tryz.prog aG 188 (A.wrap false [] .k (A.dU (SN))):=
 Sound.wrap (Sound.vL (X:=aaR) (fn:=Tryz.f188) (bP:=(.s .n (.b (.l [2,3] [.exit 0] (.s (.s .n bL) (.s (.b .n) .n)))))) .K trivial (cL.of rfl aC.nil (fun _=>Sound.none)) Tryz.func188 Tryz.call188 (fun a0 σ=>by kernel_rfl)) _ _ _ rfl rfl
theorem aaL:Sound Tryz.prog aG 188 E8:=aaO
noncomputable def aav:Fx:=⟨Tryz.prog,aG,A.tab (fun _ _=>none) [(188,E8)],(fun _ _ _=>none),[],[],14,[]⟩
theorem aau:Sound Tryz.prog aG 169 (A.wrap false [] .k (A.cM (SL))):=
 Sound.wrap (Sound.pO (X:=aav) (fn:=Tryz.f169) (bP:=(.s .n aR)) .K trivial (cL.of rfl (aC.cons aaL aC.nil) (fun _=>Sound.none)) Tryz.func169 Tryz.call169 (fun a0 a1 σ=>by kernel_rfl)) _ _ _ rfl rfl
theorem aat:Sound Tryz.prog aG 169 LY:=aau
noncomputable def aaq:Fx:=⟨Tryz.prog,aG,A.tab (fun _ _=>none) [(169,LY)],(fun _ _ _=>none),[],[],10,[]⟩
theorem aan:Sound Tryz.prog aG 134 (A.wrap false [] .k (A.cM (SK))):=
 Sound.wrap (Sound.pO (X:=aaq) (fn:=Tryz.f134) (bP:=.n) .K trivial (cL.of rfl (aC.cons aat aC.nil) (fun _=>Sound.none)) Tryz.func134 Tryz.call134 (fun a0 a1 σ=>by kernel_rfl)) _ _ _ rfl rfl
theorem aak:Sound Tryz.prog aG 134 E5:=aan
noncomputable def aa4:Fx:=⟨Tryz.prog,aG,A.tab (fun _ _=>none) [(133,su),(134,E5)],(fun _ _ _=>none),[],[],95,[]⟩
theorem aa0:Sound Tryz.prog aG 86 (A.wrap false [] .k (A.eG (IE))):=
 Sound.wrap (Sound.qg (X:=aa4) (fn:=Tryz.f86) (bP:=(.s .n (.s .n (.s .n (.s bp (.s .n (.s bp (.s (.s .n (.j (.s .n (.s .n (.s .n aR))) .n)) (.s .n (.s (.s .n (.j (.s .n (.s .n aR)) .n)) (.s .n (.s .n aR)))))))))))) .R trivial (cL.of rfl (aC.cons aax (aC.cons aak aC.nil)) (fun _=>Sound.none)) Tryz.func86 Tryz.call86 (fun a0 a1 a2 σ=>by kernel_rfl)) _ _ _ rfl rfl
theorem SQ:Sound Tryz.prog aG 86 Bp:=aa0
noncomputable def agf:Fx:=⟨Tryz.prog,aG,A.tab (fun _ _=>none) [(32,Aa),(86,Bp)],(fun _ _ _=>none),[3],[],34,[86]⟩
theorem agd:Sound Tryz.prog aG 34 (A.wrap false [] .k (A.cM (FM))):=
 Sound.wrap (Sound.pO (X:=agf) (fn:=Tryz.f34) (bP:=(.s .n (.s .n (.s bp .n)))) .K trivial (cL.of rfl (aC.cons Ty (aC.cons SQ aC.nil)) (fun _=>Sound.none)) Tryz.func34 Tryz.call34 (fun a0 a1 σ=>by kernel_rfl)) _ _ _ rfl rfl
theorem af2:Sound Tryz.prog aG 34 DP:=agd
noncomputable def afb:Fx:=⟨Tryz.prog,aG,A.tab (fun _ _=>none) [(44,DI)],(fun _ _ _=>none),[],[],11,[]⟩
theorem ae9:Sound Tryz.prog aG 35 (A.wrap false [] .k (A.dU (JD))):=
 Sound.wrap (Sound.vL (X:=afb) (fn:=Tryz.f35) (bP:=(.s .n (.s (.s .n bp) aR))) .K trivial (cL.of rfl (aC.cons Ut aC.nil) (fun _=>Sound.none)) Tryz.func35 Tryz.call35 (fun a0 σ=>by kernel_rfl)) _ _ _ rfl rfl
theorem aeV:Sound Tryz.prog aG 35 FH:=ae9
noncomputable def adf:Fx:=⟨Tryz.prog,aG,A.tab (fun _ _=>none) [(20,Ff),(26,FL),(29,I7),(27,Fb),(30,Bw),(31,A.ij (.s 8) rA),(32,Aa),(33,Da),(34,DP),(35,FH)],(fun _ _ _=>none),[3,12,18],[],107,[34]⟩
theorem ac9:Sound Tryz.prog aG 9 (A.wrap true [lJ,qL,(.e 11 eZ)] (.t [(.e 11 eZ),.k]) (A.eG (Ja))):=
 Sound.wrap (Sound.qg (X:=adf) (fn:=Tryz.f9) (bP:=(.s .n (.s (.s .n bp) (.s .n (.s .n (.s (.s .n (.b (.l [39] [.exit 0] (.s .n (.s bL (.s (.b (.s .n (.s .n (.s .n (.s .n (.b (.l [66] [.exit 2] (.s .n (.s bL (.s (.b (.s .n (.s .n (.s .n aR)))) .n)))))))))) .n)))))) aR)))))) .F trivial (cL.of rfl (aC.cons S6 (aC.cons Vb (aC.cons ac5 (aC.cons SY (aC.cons adQ (aC.cons (Sound.ij SZ (.s 8) rfl) (aC.cons Ty (aC.cons aaV (aC.cons af2 (aC.cons aeV aC.nil)))))))))) (fun _=>Sound.none)) Tryz.func9 Tryz.call9 (fun a0 a1 a2 σ=>by kernel_rfl)) _ _ _ rfl rfl
theorem ac4:Sound Tryz.prog aG 9 M6:=ac9
noncomputable def abi:Fx:=⟨Tryz.prog,aG,A.tab (fun _ _=>none) [],(fun _ _ _=>none),[],[],8,[]⟩
theorem abh:Sound Tryz.prog aG 87 (A.wrap true [(.s 11)] .k (A.dU (SV))):=
 Sound.wrap (Sound.vL (X:=abi) (fn:=Tryz.f87) (bP:=(.s .n (.s bp aR))) .K trivial (cL.of rfl aC.nil (fun _=>Sound.none)) Tryz.func87 Tryz.call87 (fun a0 σ=>by kernel_rfl)) _ _ _ rfl rfl
theorem abg:Sound Tryz.prog aG 87 IF:=Jg abh Tryz.call87 ai1
noncomputable def ad4:Fx:=⟨Tryz.prog,aG,A.tab (fun _ _=>none) [(87,IF),(81,Dc),(49,C9)],(fun _ _ _=>none),[],[],36,[]⟩
theorem adY:Sound Tryz.prog aG 36 (A.wrap true [(.e 11 eZ)] .k (A.dU (Jo))):=
 Sound.wrap (Sound.vL (X:=ad4) (fn:=Tryz.f36) (bP:=(.s .n (.s .n (.s (.s .n (.b (.l [9] [.exit 0] (.s .n (.s bL (.s (.b (.s .n aR)) .n)))))) aR)))) .K trivial (cL.of rfl (aC.cons abg (aC.cons SS (aC.cons SP aC.nil))) (fun _=>Sound.none)) Tryz.func36 Tryz.call36 (fun a0 σ=>by kernel_rfl)) _ _ _ rfl rfl
theorem adL:Sound Tryz.prog aG 36 Jk:=adY
theorem aiC:Sound Tryz.prog aG 37 D6:=q2 [6] 20 (.s .n (.s (.s .n (.b (.l [4,9] [.exit 0,.ret] (.s .n (.s bL (.s (.b (.s .n bp)) .n)))))) aR)) aC.nil Tryz.func37 Tryz.call37 (fun a0 a1 σ=>by kernel_rfl) rfl rfl
theorem TV:Sound Tryz.prog aG 39 Ad:=q2 [3] 36 (.s .n (.s .n (.s (.b (.l [3,6] [.exit 0] (.s (.s .n bL) (.b .n)))) aR))) (aC.cons Js aC.nil) Tryz.func39 Tryz.call39 (fun a0 a1 σ=>by kernel_rfl) rfl rfl
noncomputable def ahm:Fx:=⟨Tryz.prog,aG,A.tab (fun _ _=>none) [(39,Ad),(86,Bp)],(fun _ _ _=>none),[3],[],25,[]⟩
theorem ahl:Sound Tryz.prog aG 40 (A.wrap false [] .k (A.cM (FY))):=
 Sound.wrap (Sound.pO (X:=ahm) (fn:=Tryz.f40) (bP:=(.s .n (.s .n (.s (.s .n (.j (.s .n aR) .n)) aR)))) .K trivial (cL.of rfl (aC.cons TV (aC.cons SQ aC.nil)) (fun _=>Sound.none)) Tryz.func40 Tryz.call40 (fun a0 a1 σ=>by kernel_rfl)) _ _ _ rfl rfl
theorem ahf:Sound Tryz.prog aG 40 BI:=ahl
noncomputable def ad6:Fx:=⟨Tryz.prog,aG,A.tab (fun _ _=>none) [(59,Dj)],(fun _ _ _=>none),[],[],11,[]⟩
theorem ad0:Sound Tryz.prog aG 41 (A.wrap false [] .k (A.dU (Jq))):=
 Sound.wrap (Sound.vL (X:=ad6) (fn:=Tryz.f41) (bP:=(.s .n (.s (.s .n bp) aR))) .K trivial (cL.of rfl (aC.cons Td aC.nil) (fun _=>Sound.none)) Tryz.func41 Tryz.call41 (fun a0 σ=>by kernel_rfl)) _ _ _ rfl rfl
theorem adN:Sound Tryz.prog aG 41 Fw:=ad0
noncomputable def ad3:Fx:=⟨Tryz.prog,aG,A.tab (fun _ _=>none) [(21,Fi),(36,Jk),(28,FG),(37,D6),(38,A.ij (.s 8) sv),(39,Ad),(40,BI),(41,Fw)],(fun _ _ _=>none),[3,11,17,21],[],114,[40]⟩
theorem adX:Sound Tryz.prog aG 10 (A.wrap true [lJ,qL,(.e 11 eZ)] (.t [(.e 11 eZ),.k]) (A.eG (Jn))):=
 Sound.wrap (Sound.qg (X:=ad3) (fn:=Tryz.f10) (bP:=(.s .n (.s (.s .n bp) (.s .n (.s (.s .n (.b (.l [3,36] [.exit 0] (.s .n (.s bL (.s (.b (.s .n (.s .n (.s .n (.s .n (.s (.s .n (.b (.l [3,15,62] [.exit 2] (.s .n (.s bL (.s (.b (.s .n (.s .n (.s .n (.c [3,15] .n .n))))) .n)))))) (.s .n (.s .n (.b (.l [3,87] [.exit 4] (.s .n (.s bL (.s (.b aR) .n))))))))))))) .n)))))) aR))))) .F trivial (cL.of rfl (aC.cons Te (aC.cons adL (aC.cons Ur (aC.cons aiC (aC.cons (Sound.ij TW (.s 8) rfl) (aC.cons TV (aC.cons ahf (aC.cons adN aC.nil)))))))) (fun _=>Sound.none)) Tryz.func10 Tryz.call10 (fun a0 a1 a2 σ=>by kernel_rfl)) _ _ _ rfl rfl
theorem adK:Sound Tryz.prog aG 10 Nw:=adX
noncomputable def aaG (dyn:Nat→List U→Heap→Option (U×Heap)):Fx:=⟨Tryz.prog,aG,A.tab (fun _ _=>none) [],dyn,[8,9],[],32,[]⟩
theorem aaD (dyn:Nat→List U→Heap→Option (U×Heap)) (hd:∀f,Sound Tryz.prog aG f (dyn (aG.getD f 0))):Sound Tryz.prog aG 42 (A.wrap true [(.s 11),(.s 11)] .k (A.eG (Iy dyn))):=
 Sound.wrap (Sound.qg (X:=aaG dyn) (fn:=Tryz.f42) (bP:=(.s .n (.s bp (.s (.s .n (.b (.l [6,17] [.exit 0,.ret] (.s .n (.s bL (.s (.b (.s .n (.s .n bp))) .n)))))) aR)))) .F trivial (cL.of rfl aC.nil (hd)) Tryz.func42 Tryz.call42 (fun a0 a1 a2 σ=>by kernel_rfl)) _ _ _ rfl rfl
theorem aaA (dyn:Nat→List U→Heap→Option (U×Heap)) (hd:∀f,Sound Tryz.prog aG f (dyn (aG.getD f 0))):Sound Tryz.prog aG 42 (Iw dyn):=aaD dyn hd
theorem aaW:Sound Tryz.prog aG 89 LZ:=q2 [] 26 (.s .n (.s bp (.s (.s .n (.b (.l [4,13] [.exit 0,.ret] (.s .n (.s bL (.s (.b (.s .n bp)) .n)))))) aR))) aC.nil Tryz.func89 Tryz.call89 (fun a0 a1 σ=>by kernel_rfl) rfl rfl
theorem aa8:Sound Tryz.prog aG 90 L3:=q2 [] 26 (.s .n (.s bp (.s (.s .n (.b (.l [4,13] [.exit 0,.ret] (.s .n (.s bL (.s (.b (.s .n bp)) .n)))))) aR))) aC.nil Tryz.func90 Tryz.call90 (fun a0 a1 σ=>by kernel_rfl) rfl rfl
theorem Tw:Sound Tryz.prog aG 43 zY:=q2 [2,3] 84 (.s .n aR) (aC.cons aaW (aC.cons aa8 aC.nil)) Tryz.func43 Tryz.call43 (fun a0 a1 σ=>by kernel_rfl) rfl rfl
noncomputable def acD:Fx:=⟨Tryz.prog,aG,A.tab (fun _ _=>none) [(42,Iw (A.tab (fun _ _=>none) [(201,zY)]))],(A.tab (fun _ _=>none) [(201,zY)]),[],[],8,[]⟩
theorem acC:Sound Tryz.prog aG 11 (A.wrap true [(.e 11 eZ),(.e 11 eZ)] .k (A.cM (I2))):=
 Sound.wrap (Sound.pO (X:=acD) (fn:=Tryz.f11) (bP:=(.s .n aR)) .F trivial (cL.of rfl (aC.cons (aaA _ (qG (gm.cons (lu Tw (by kernel_rfl) rfl) gm.nil))) aC.nil) (qG (gm.cons (lu Tw (by kernel_rfl) rfl) gm.nil))) Tryz.func11 Tryz.call11 (fun a0 a1 σ=>by kernel_rfl)) _ _ _ rfl rfl
theorem acA:Sound Tryz.prog aG 11 MT:=acC
theorem abd:Sound Tryz.prog aG 3 SU:=q3 [3] 58 (.s .n (.s .n (.s .n (.s bp (.s .n (.s .n aR)))))) (aC.cons adP (aC.cons aeT (aC.cons aa7 (aC.cons ac4 (aC.cons adK (aC.cons acA aC.nil)))))) Tryz.func3 Tryz.call3 (fun a0 a1 a2 σ=>by kernel_rfl) rfl rfl
end
section
theorem bq (s t:ByteArray):(s==t)=decide (s=t):=by
 obtain⟨a⟩:=s
 obtain⟨b⟩:=t
 show(a==b)=_
 rw[Bool.eq_iff_iff]
 simp
section
variable {α β : Type}
theorem cT (t e:Option α):A.cond (.bool true) t e=t:=rfl
theorem cF (t e:Option α):A.cond (.bool false) t e=e:=rfl
theorem Zg (e d:Option α):A.guard (.bool true) true e d=e:=rfl
theorem Zf (e d:Option α):A.guard (.bool true) false e d=d:=rfl
theorem Ze (e d:Option α):A.guard (.bool false) true e d=d:=rfl
theorem Zd (e d:Option α):A.guard (.bool false) false e d=e:=rfl
theorem pT (x y:U):A.pick (.bool true) x y=some x:=rfl
theorem pF (x y:U):A.pick (.bool false) x y=some y:=rfl
theorem mh {p:Prop} [Decidable p] {w:Bool} {e d:Option α} {f:α→Option β}:(A.guard (.bool (decide p)) w e d).bind f=if p then(A.guard (.bool true) w e d).bind f else(A.guard (.bool false) w e d).bind f:=by by_cases h:p<;>simp [h]
theorem mg {b w:Bool} {e d:Option α} {f:α→Option β}:(A.guard (.bool b) w e d).bind f=match b with|true=>(A.guard (.bool true) w e d).bind f|false=>(A.guard (.bool false) w e d).bind f:=by cases b<;>rfl
theorem me {p:Prop} [Decidable p] {t e:Option α}:A.cond (.bool (decide p)) t e=if p then t else e:=by by_cases h:p<;>simp [h,A.cond]
theorem lY {p:Prop} [Decidable p] {t e:Option α}:A.cond (.bool (!decide p)) t e=if p then e else t:=by by_cases h:p<;>simp [h,A.cond]
theorem l9 {b:Bool} {t e:Option α}:A.cond (.bool (!b)) t e=match b with|true=>e|false=>t:=by cases b<;>rfl
theorem l8 {b:Bool} {t e:Option α}:A.cond (.bool b) t e=match b with|true=>t|false=>e:=by cases b<;>rfl
theorem gN (w:Bool) (e d:Option α):A.guard (.aL []) w e d=d:=rfl
theorem xN (a b:AX):(a==b)=decide (a=b):=by rw[Bool.eq_iff_iff];simp
end
section
variable (k : IntKind) (a b : Int) (p q : Prop) [Decidable p] [Decidable q] (s t : ByteArray) (x y : U) (σ : Heap) (cs : List U)
theorem Gu:A.add (.int .i64 a) (.int .i64 b)=some (.int .i64 (IntKind.i64.wrap (a+b))):=rfl
theorem uQ:A.sub (.int .i64 a) (.int .i64 b)=some (.int .i64 (IntKind.i64.wrap (a-b))):=rfl
theorem YB:A.mul (.int .i64 a) (.int .i64 b)=some (.int .i64 (IntKind.i64.wrap (a*b))):=rfl
theorem vC:A.lss (.int .i64 a) (.int .i64 b)=some (.bool (decide (a<b))):=rfl
theorem YA:A.leq (.int .i64 a) (.int .i64 b)=some (.bool (decide (a≤b))):=rfl
theorem B7:A.gtr (.int .i64 a) (.int .i64 b)=some (.bool (decide (b<a))):=rfl
theorem Yz:A.geq (.int .i64 a) (.int .i64 b)=some (.bool (decide (b≤a))):=rfl
theorem X4:A.lss (.int .u8 a) (.int .u8 b)=some (.bool (decide (a<b))):=rfl
theorem X3:A.leq (.int .u8 a) (.int .u8 b)=some (.bool (decide (a≤b))):=rfl
theorem X1:A.gtr (.int .u8 a) (.int .u8 b)=some (.bool (decide (b<a))):=rfl
theorem X0:A.geq (.int .u8 a) (.int .u8 b)=some (.bool (decide (b≤a))):=rfl
theorem l5:A.eql .i (.int k a) (.int k b)=some (.bool (decide (a=b))):=by
 simp only[A.eql,A.ff,A.oL,if_true,Option.map_some];congr 2
theorem gB:A.neq .i (.int k a) (.int k b)=some (.bool (decide (¬a=b))):=by
 simp only[A.neq,A.ff,A.oL,if_true,Option.map_some]
 congr 2
 rw[Bool.eq_iff_iff];simp
theorem En:A.eql .z (.str s) (.str t)=some (.bool (decide (s=t))):=by
 simp only[A.eql,A.ff,A.rT,Option.map_some,bq]
theorem Gv:A.neq .z (.str s) (.str t)=some (.bool (decide (¬s=t))):=by
 simp only[A.neq,A.ff,A.rT,Option.map_some,bq];simp
theorem YC (b:Bool):A.not (.bool b)=some (.bool (!b)):=rfl
theorem X5:A.not (.bool (decide p))=some (.bool (decide (¬p))):=by simp [A.not]
theorem Y9:A.lb (.lbx cs)=some cs:=rfl
theorem XW (l:List U):A.ext 0 (.aL (x::l))=some x:=rfl
theorem XX (x0 x:U) (l:List U):A.ext 1 (.aL (x0::x::l))=some x:=rfl
theorem XY (x0 x1 x:U) (l:List U):A.ext 2 (.aL (x0::x1::x::l))=some x:=rfl
theorem XZ (x0 x1 x2 x:U) (l:List U):A.ext 3 (.aL (x0::x1::x2::x::l))=some x:=rfl
theorem Y7:A.deref (.rp cs) σ=some cs:=rfl
theorem Y8 (o:Nat):A.bA o (.rp cs)=some (.rp (cs.drop o)):=rfl
theorem X2:A.tO (.str s)=some (.int .i64 s.size):=rfl
theorem Y5 (n:Int):A.cell (.int k n)=some (.int k n):=rfl
theorem Y4 (b:Bool):A.cell (.bool b)=some (.bool b):=rfl
theorem Y6:A.cell (.str s)=some (.str s):=rfl
theorem Yy (sz:Nat) (es:List (List U)):A.cell (.sl sz es)=some (.sl sz es):=rfl
theorem R9 (o k:Nat):A.an o (cs.drop k)=A.an (k+o) cs:=by simp [A.an,List.getElem?_drop]
end
theorem Zi (a d:U) (l:List U):(a::l).getD 0 d=a:=rfl
theorem Zj (a b d:U) (l:List U):(b::a::l).getD 1 d=a:=rfl
theorem Zk (a b c d:U) (l:List U):(b::c::a::l).getD 2 d=a:=rfl
theorem Zl (a b c e d:U) (l:List U):(b::c::e::a::l).getD 3 d=a:=rfl
theorem Zm (a b c e f d:U) (l:List U):(b::c::e::f::a::l).getD 4 d=a:=rfl
theorem Zn (a b c e f g d:U) (l:List U):(b::c::e::f::g::a::l).getD 5 d=a:=rfl
theorem Zo (a b c e f g h d:U) (l:List U):(b::c::e::f::g::h::a::l).getD 6 d=a:=rfl
theorem Zp (a b c e f g h i d:U) (l:List U):(b::c::e::f::g::h::i::a::l).getD 7 d=a:=rfl
theorem Zq (a b c e f g h i j d:U) (l:List U):(b::c::e::f::g::h::i::j::a::l).getD 8 d=a:=rfl
theorem wrap64 {n:Int} (h:aZ n):IntKind.i64.wrap n=n:=IntWalk.i64_in n h
theorem wrap_eq {ro:Bool} {cB:List Sh} {eo:Sh} {r:List U→Heap→Option (U×Heap)} {args:List U} {σ σ':Heap} {v v':U} (h:args.any A.own=false) (e:r (A.bY cB args) σ=some (v,σ')) (hv:A.nn eo v=v'):A.wrap ro cB eo r args σ=some (v',σ'):=by
 unfold A.wrap
 rw[h,Bool.and_false,cond_false,e]
 simp [hv]
theorem NS {v:U} (n:Nat) (h:A.tH v=true):A.fresh v=true∧A.shift n v=v:=by
 cases v<;>first|exact⟨h,rfl⟩|cases h
theorem Uw {v:U} (n:Nat) (h:A.xP v=true):A.xy v=true∧A.vr n v=v:=by
 have key:(∀vs,v≠.aL vs)→A.xy v=true∧A.vr n v=v:=by
  intro k
  have:=NS (v:=v) n
  cases v<;>first|exact absurd rfl (k _)|exact this h
 by_cases ht:∃vs,v=.aL vs
 ·obtain⟨vs,rfl⟩:=ht
  simp only[A.xP,List.all_eq_true]at h
  refine⟨by simp only[A.xy,List.all_eq_true];exact fun x hx=>(NS n (h x hx)).1,?_⟩
  simp only[A.vr]
  congr 1
  calc vs.map (A.shift n)=vs.map id:=List.map_congr_left fun x hx=>(NS n (h x hx)).2
   _=vs:=List.map_id vs
 ·exact key fun vs e=>ht ⟨vs,e⟩
theorem F1 {cB:List Sh} {eo:Sh} {r:List U→Heap→Option (U×Heap)} {args args':List U} {σ:Heap} {v:U} (h:args.any A.own=true) (hz:A.fE σ 0 8 args=some args') (ho:args'.any A.own=false) (e:A.wrap true cB eo r args' []=some (v,[])) (hs:A.xP v=true):A.wrap true cB eo r args σ=some (v,σ):=by
 unfold A.wrap at e ⊢
 rw[ho,Bool.and_false,cond_false]at e
 obtain⟨⟨q1,q2⟩,e1,e2⟩:=Option.map_eq_some_iff.1 e
 simp only[Prod.mk.injEq]at e2
 obtain⟨rfl,rfl⟩:=e2
 rw[h,Bool.and_self,cond_true,hz]
 simp [e1,(Uw σ.length hs).1,(Uw σ.length hs).2]
theorem bK (σ:Heap) (r:U):A.fin σ r σ=some (r,σ):=by simp [A.fin]
theorem UQ (σ:Heap) (n d:Nat) {a:U} (h:A.pL a=true):A.bT σ n d a=some a:=by
 cases a<;>simp only[A.pL]at h<;>first|(cases h;done)|skip
 case sl sz es=>cases es with
  |nil=>cases d<;>simp [A.bT,A.lG]
  |cons _ _=>simp at h
 all_goals cases d<;>simp [A.bT]
theorem Ua (σ:Heap) (n d:Nat):∀{l:List U},l.all A.pL=true→A.fE σ n d l=some l
 |[],_=>by simp [A.fE]
 |a::l,h=>by
  simp only[List.all_cons,Bool.and_eq_true]at h
  simp [A.fE,UQ σ n d h.1,Ua σ n d h.2]
theorem UR (σ:Heap) (n d:Nat) {a:U} (h:A.tH a=true):A.bT σ n d a=some a:=by
 unfold A.tH at h
 split at h
 ·cases d<;>simp [A.bT,Ua σ n _ h]
 ·exact UQ σ n d h
theorem Ub (σ:Heap) (n d:Nat):∀{l:List U},l.all A.tH=true→A.fE σ n d l=some l
 |[],_=>by simp [A.fE]
 |a::l,h=>by
  simp only[List.all_cons,Bool.and_eq_true]at h
  simp [A.fE,UR σ n d h.1,Ub σ n d h.2]
theorem agN (σ:Heap) (n d:Nat) {a:U} (h:A.xP a=true):A.bT σ n d a=some a:=by
 unfold A.xP at h
 split at h
 ·cases d<;>simp [A.bT,Ub σ n _ h]
 ·exact UR σ n d h
theorem J5 (σ bs:Heap) {r:U} (h:A.xP r=true):A.fin σ r (σ++bs)=some (r,σ):=by
 unfold A.fin
 split
 ·rfl
 ·rw[if_pos (by simp),agN _ _ _ h];rfl
theorem Pk (σ bs:Heap) (k:IntKind) (n:Int):A.fin σ (.int k n) (σ++bs)=some (.int k n,σ):=J5 σ bs rfl
theorem VN (σ bs:Heap) (b:Bool):A.fin σ (.bool b) (σ++bs)=some (.bool b,σ):=J5 σ bs rfl
theorem WG (σ bs:Heap) (s:ByteArray):A.fin σ (.str s) (σ++bs)=some (.str s,σ):=J5 σ bs rfl
theorem VO (σ bs:Heap):A.fin σ (.aL []) (σ++bs)=some (.aL [],σ):=J5 σ bs rfl
theorem zD (σ bs:Heap) (j:Nat):(σ++bs)[σ.length+j]? =bs[j]? :=by rw[List.getElem?_append_right (by omega)];congr 1;omega
theorem Er (σ bs:Heap):(σ++bs)[σ.length]? =bs[0]? :=by rw[List.getElem?_append_right (Nat.le_refl _),Nat.sub_self]
theorem qc (σ bs:Heap) (j:Nat) (b:aV):(σ++bs).set (σ.length+j) b=σ++bs.set j b:=by rw[List.set_append_right _ _ (by omega)];congr 2;omega
theorem Qo (σ bs:Heap) (b:aV):(σ++bs).set σ.length b=σ++bs.set 0 b:=by rw[List.set_append_right _ _ (Nat.le_refl _),Nat.sub_self]
section
variable {α : Type} (sz : Nat) (c : α → List U) (l : List α)
theorem cu:A.aT (sl sz c l)=some (.int .i64 l.length):=by simp [sl,A.aT]
theorem jy {k:Nat} {x:α} (h:l[k]? =some x):A.aN sz (sl sz c l) (.int .i64 (k:Int))=some (.rp (c x)):=by
 have hk:k<l.length:=(List.getElem?_eq_some_iff.1 h).1
 have hx:l[k]=x:=(List.getElem?_eq_some_iff.1 h).2
 simp [A.aN,sl,A.idx,hk,hx]
theorem afF {i:Int} {x:α} (h0:0≤i) (h:l[i.toNat]? =some x):A.aN sz (sl sz c l) (.int .i64 i)=some (.rp (c x)):=by
 have:=jy sz c l h
 rwa[Int.toNat_of_nonneg h0]at this
end
inductive Rd (S R : Type) where
 |go (s:S)
 |out (r:R)
def Rd.el {S R γ:Type} (x:Rd S R) (f:S→γ) (g:R→γ):γ:=match x with|.go s=>f s|.out r=>g r
theorem uL {S R γ:Type} (s:S) (f:S→γ) (g:R→γ):(Rd.go s:Rd S R).el f g=f s:=rfl
theorem uK {S R γ:Type} (r:R) (f:S→γ) (g:R→γ):(Rd.out r:Rd S R).el f g=g r:=rfl
theorem xx {S R γ:Type} {p:Prop} [Decidable p] (x y:Rd S R) (f:S→γ) (g:R→γ):(if p then x else y).el f g=if p then x.el f g else y.el f g:=by split<;>rfl
def jL {α S R:Type} (body:List α→α→S→Rd S R):List α→List α→S→Rd S R
 |_,[],s=>.go s
 |pre,x::l,s=>match body pre x s with|.go s'=>jL body (pre++[x]) l s'|.out r=>.out r
theorem afH {f:List U→Heap→Option (AX×List U×Heap)} {v:List U} {σ:Heap}:∀{n m:Nat} {r r':AX×List U×Heap},A.iter f n v σ=some r→A.iter f m v σ=some r'→r=r':=by
 intro n
 induction n generalizing v σ with
 |zero=>intro m r r' h;cases h
 |succ n ih=>
  intro m r r' h1 h2
  cases m with
  |zero=>cases h2
  |succ m=>
   simp only[A.iter]at h1 h2
   cases hf:f v σ with
   |none=>rw[hf]at h1;cases h1
   |some q=>
    rw[hf]at h1 h2
    simp only[Option.bind_some]at h1 h2
    obtain⟨e,v',σ'⟩:=q
    cases e with
    |normal=>exact ih h1 h2
    |exit i=>simp only at h1 h2;rw[h1]at h2;injection h2
    |ret=>simp only at h1 h2;rw[h1]at h2;injection h2
theorem wG {f:List U→Heap→Option (AX×List U×Heap)} {v:List U} {σ:Heap} {n:Nat} {r:AX×List U×Heap} (h:A.iter f n v σ=some r):A.loop f v σ=some r:=by
 have hex:∃n r,A.iter f n v σ=some r:=⟨n,r,h⟩
 unfold A.loop
 rw[dif_pos hex]
 exact congrArg some (afH (Classical.choose_spec (Classical.choose_spec hex)) h)
theorem wS {f:List U→Heap→Option (AX×List U×Heap)} {v v':List U} {σ σ':Heap} {r:AX×List U×Heap} (h:f v σ=some (.normal,v',σ')) (k:∃n,A.iter f n v' σ'=some r):∃n,A.iter f n v σ=some r:=by
 obtain⟨n,k⟩:=k
 exact⟨n+1,by simp [A.iter,h,k]⟩
theorem qC {f:List U→Heap→Option (AX×List U×Heap)} {v:List U} {σ:Heap} {r:AX×List U×Heap} (h:f v σ=some r) (hr:r.1≠.normal):∃n,A.iter f n v σ=some r:=by
 obtain⟨e,v',σ'⟩:=r
 refine⟨1,?_⟩
 cases e<;>first|(simp [A.iter,h];done)|exact absurd rfl hr
theorem mU {α S R γ:Type} {f:List U→Heap→Option (AX×List U×Heap)} (l:List α) (body:List α→α→S→Rd S R) (st:List α→S→List U) (hp:List α→S→Heap)
  (fin:S→AX×List U×Heap) (out:List α→S→R→AX×List U×Heap) (P:List α→S→Prop) (s0:S) {k:AX×List U×Heap→Option γ} (K1:S→Option γ) (K2:R→Option γ)
  (hstep:∀pre x rest s,l=pre++x::rest→P pre s→f (st pre s) (hp pre s)=some ((body pre x s).el (fun s'=>(.normal,st (pre++[x]) s',hp (pre++[x]) s')) (fun r=>out pre s r)))
  (hend:∀s,P l s→f (st l s) (hp l s)=some (fin s)) (h0:P [] s0)
  (hP:∀pre x rest s s',l=pre++x::rest→P pre s→body pre x s=.go s'→P (pre++[x]) s')
  (hk1:∀s,P l s→k (fin s)=K1 s) (hk2:∀pre x rest s r,l=pre++x::rest→P pre s→body pre x s=.out r→k (out pre s r)=K2 r)
  (za:∀s,(fin s).1≠.normal:=by intros;simp) (hout:∀pre s r,(out pre s r).1≠.normal:=by intros;simp) {v:List U} {σ:Heap} (hv:v=st [] s0:=by rfl) (fQ:σ=hp [] s0:=by rfl):
  (A.loop f v σ).bind k=(jL body [] l s0).el K1 K2:=by
 have key:∀(rest pre:List α) (s:S),l=pre++rest→P pre s→∃q,(∃n,A.iter f n (st pre s) (hp pre s)=some q)∧k q=(jL body pre rest s).el K1 K2:=by
  intro rest
  induction rest with
  |nil=>
   intro pre s hl hp'
   rw[List.append_nil]at hl
   subst hl
   exact⟨fin s,qC (hend s hp') (za s),by rw[jL,uL,hk1 s hp']⟩
  |cons x rest ih=>
   intro pre s hl hp'
   have h:=hstep pre x rest s hl hp'
   rw[jL]
   cases hb:body pre x s with
   |go s'=>
    rw[hb]at h
    obtain⟨q,h1,h2⟩:=ih (pre++[x]) s' (by simpa using hl) (hP pre x rest s s' hl hp' hb)
    exact⟨q,wS h h1,h2⟩
   |out r=>
    rw[hb]at h
    exact⟨out pre s r,qC h (hout pre s r),by rw[uK,hk2 pre x rest s r hl hp' hb]⟩
 obtain⟨q,⟨n,h1⟩,h2⟩:=key l [] s0 rfl h0
 rw[hv,fQ,wG h1,Option.bind_some,h2]
theorem Af {α:Type} {body:List α→α→Unit→Rd Unit Int} {ql:List α→List α→Int} (h0:∀pre,ql pre []=0) (h:∀pre x rest,ql pre (x::rest)=(body pre x ()).el (fun _=>ql (pre++[x]) rest) (fun r=>r)) {γ:Type} (K:Int→γ):
  ∀(l pre:List α),(jL body pre l ()).el (fun _=>K 0) K=K (ql pre l)
 |[],pre=>by rw[jL,h0];rfl
 |x::l,pre=>by
  rw[jL,h]
  cases body pre x ()with
  |go s=>exact Af h0 h K l (pre++[x])
  |out r=>rfl
theorem mZ {α:Type} {l pre rest:List α} {x:α} (h:l=pre++x::rest):l[pre.length]? =some x:=by rw[h];simp
theorem pq {α:Type} {l pre rest:List α} {x:α} (h:l=pre++x::rest):pre.length<l.length:=by rw[h];simp
theorem OY {α:Type} {l pre rest:List α} {x:α} (h:l=pre++x::rest) (h0:0<pre.length):∃y,pre.getLast? =some y∧l[pre.length-1]? =some y:=by
 cases hp:pre.getLast? with
 |none=>rw[List.getLast?_eq_none_iff]at hp;subst hp;simp at h0
 |some y=>
  refine⟨y,rfl,?_⟩
  rw[h,List.getElem?_append_left (by omega),←hp,List.getLast?_eq_getElem?]
theorem JV {γ:Type} {p:UInt8→Bool} {f:List U→Heap→Option (AX×List U×Heap)} (s:ByteArray) {σ:Heap} {k:AX×List U×Heap→Option γ} (K2:Option γ)
  (hstep:∀(i:Nat) (c:UInt8),i<s.size→A.nr (.str s) (.int .i64 (i:Int))=some (.int .u8 c.toNat)→f [.bool false,.int .i64 (i:Int)] σ=if p c=true then some (.normal,[.bool false,.int .i64 ((i:Int)+1)],σ)else some (.ret,[.bool false,.int .i64 (i:Int)],σ))
  (hend:f [.bool false,.int .i64 (s.size:Int)] σ=some (.exit 0,[.bool false,.int .i64 (s.size:Int)],σ)) (hk2:∀i:Int,k (.ret,[.bool false,.int .i64 i],σ)=K2):
  (A.loop f [.bool false,.int .i64 0] σ).bind k=if s.data.toList.all p=true then k (.exit 0,[.bool false,.int .i64 (s.size:Int)],σ)else K2:=by
 have hsz:s.data.toList.length=s.size:=rfl
 refine(mU (S:=Unit) (R:=Unit) s.data.toList (fun _ c _=>if p c=true then .go ()else .out ()) (fun pre _=>[.bool false,.int .i64 (pre.length:Int)]) (fun _ _=>σ) (fun _=>(.exit 0,[.bool false,.int .i64 (s.size:Int)],σ)) (fun pre _ _=>(.ret,[.bool false,.int .i64 (pre.length:Int)],σ)) (fun _ _=>True) ()
  (fun _=>k (.exit 0,[.bool false,.int .i64 (s.size:Int)],σ)) (fun _=>K2) ?_ ?_ trivial (fun _ _ _ _ _ _ _ _=>trivial) (fun _ _=>rfl) (fun _ _ _ _ _ _ _ _=>hk2 _)).trans ?_
 ·intro pre c rest u hl _
  have hlt:=pq hl
  have hc:=mZ hl
  rw[hsz]at hlt
  have hsi:A.nr (.str s) (.int .i64 (pre.length:Int))=some (.int .u8 c.toNat):=by
   have h2:s[pre.length]=c:=(List.getElem?_eq_some_iff.1 hc).2
   simp [A.nr,A.idx,hlt,h2]
  rw[hstep pre.length c hlt hsi]
  cases p c<;>simp [Rd.el]
 ·intro u _;rw[hsz];exact hend
 ·have key:∀(l pre:List UInt8),(jL (fun(_:List UInt8) c (_:Unit)=>if p c=true then(Rd.go ():Rd Unit Unit)else .out ()) pre l ()).el (fun _=>k (.exit 0,[.bool false,.int .i64 (s.size:Int)],σ)) (fun _=>K2)=if l.all p=true then k (.exit 0,[.bool false,.int .i64 (s.size:Int)],σ)else K2:=by
   intro l
   induction l with
   |nil=>intro pre;simp [jL,Rd.el]
   |cons c l ih=>
    intro pre
    rw[jL]
    cases hc:p c
    ·simp [hc,Rd.el]
    ·simp only[if_true]
     rw[ih]
     simp [hc]
  exact key s.data.toList []
section
variable {α : Type} (g : α → ByteArray) (gi : α → Int) (v : α → U)
theorem Xl (k:ByteArray):∀(l:List α),A.find .z (.str k) (l.map fun x=>(U.str (g x),v x))=some ((l.find? fun x=>decide (k=g x)).map v)
 |[]=>rfl
 |x::l=>by
  simp only[List.map_cons,A.find,A.ff,A.rT,Option.bind_some,List.find?]
  by_cases h:k=g x
  ·rw[bq];simp [h]
  ·rw[bq];simp [h,Xl k l]
theorem Xk (kk:IntKind) (k:Int):∀(l:List α),A.find .i (.int kk k) (l.map fun x=>(U.int kk (gi x),v x))=some ((l.find? fun x=>decide (k=gi x)).map v)
 |[]=>rfl
 |x::l=>by
  simp only[List.map_cons,A.find,A.ff,A.oL,if_true,Option.bind_some,List.find?]
  by_cases h:k=gi x
  ·have:(k==gi x)=true:=by simpa using h
   simp [this,h]
  ·have:(k==gi x)=false:=by simpa using h
   simp [this,h,Xk kk k l]
theorem Qy {k:ByteArray} {w:U}:∀{l:List α},(∀x∈l,g x≠k)→A.upd .z (.str k) w (l.map fun x=>(U.str (g x),v x))=some ((l.map fun x=>(U.str (g x),v x))++[(.str k,w)])
 |[],_=>rfl
 |x::l,h=>by
  have h1:(k==g x)=false:=by rw[bq];exact decide_eq_false fun e:k=g x=>h x (by simp) e.symm
  simp only[List.map_cons,A.upd,A.ff,A.rT,Option.bind_some,h1,cond_false]
  rw[Qy (fun y hy=>h y (by simp [hy]))]
  rfl
theorem Qw {kk:IntKind} {k:Int} {w:U}:∀{l:List α},(∀x∈l,gi x≠k)→A.upd .i (.int kk k) w (l.map fun x=>(U.int kk (gi x),v x))=some ((l.map fun x=>(U.int kk (gi x),v x))++[(.int kk k,w)])
 |[],_=>rfl
 |x::l,h=>by
  have h1:(k==gi x)=false:=by simpa using fun e:k=gi x=>h x (by simp) e.symm
  simp only[List.map_cons,A.upd,A.ff,A.oL,if_true,Option.bind_some,h1,cond_false]
  rw[Qw (fun y hy=>h y (by simp [hy]))]
  rfl
end
theorem Ap (e:A.EK) {k z:U} {σ:Heap} {id:Nat} {es:List (U×U)} (hk:A.jS e k=true) (h:σ[id]? =some (.map es)):A.look e (.om id) k z σ=(A.find e k es).map fun r=>r.getD z:=by
 simp [A.look,hk,A.entries,h]
theorem F8 (e:A.EK) {k w:U} {σ:Heap} {id:Nat} {es:List (U×U)} (hk:A.jS e k=true) (h:σ[id]? =some (.map es)):A.hG e (.om id) k w σ=(A.upd e k w es).map fun es=>σ.set id (.map es):=by
 simp [A.hG,hk,h]
theorem VY {α:Type} (l:List α) (x:α):(((l++[x]).length:Nat):Int)=(l.length:Int)+1:=by simp
theorem Ae {α:Type} (sz:Nat) (c:α→List U) (l:List α) {k:Nat} {x:α} (h0:0<k) (h:l[k-1]? =some x):A.aN sz (sl sz c l) (.int .i64 ((k:Int) -1))=some (.rp (c x)):=by
 have:=jy sz c l h
 rwa[show((k-1:Nat):Int)=(k:Int) -1 by omega]at this
def mM {α:Type} (g:α→ByteArray) (l:List α):List (U×U):=l.map fun x=>(U.str (g x),U.bool true)
def qR {α:Type} (g:α→Int) (l:List α):List (U×U):=l.map fun x=>(U.int .i64 (g x),U.bool true)
theorem OF {α:Type} (p:α→Bool):∀(l:List α),((l.find? p).map fun _=>U.bool true).getD aD=U.bool (l.any p)
 |[]=>rfl
 |x::l=>by
  simp only[List.find?,List.any_cons]
  cases h:p x
  ·simpa using OF p l
  ·rfl
theorem Vh {α:Type} (g:α→ByteArray) (k:ByteArray) (l:List α):(A.find .z (.str k) (mM g l)).map (fun r=>r.getD (.bool false))=some (.bool (fu k (l.map g))):=by
 unfold mM
 rw[Xl g (fun _=>U.bool true) k l,Option.map_some,OF]
 refine congrArg some (congrArg U.bool ?_)
 rw[Bool.eq_iff_iff,BJ]
 simp only[List.any_eq_true,decide_eq_true_eq,List.mem_map]
 exact⟨fun⟨x,h,e⟩=>⟨x,h,e.symm⟩,fun⟨x,h,e⟩=>⟨x,h,e.symm⟩⟩
theorem Vd {α:Type} (g:α→Int) (k:Int) (l:List α):(A.find .i (.int .i64 k) (qR g l)).map (fun r=>r.getD (.bool false))=some (.bool (fu k (l.map g))):=by
 unfold qR
 rw[Xk g (fun _=>U.bool true) .i64 k l,Option.map_some,OF]
 refine congrArg some (congrArg U.bool ?_)
 rw[Bool.eq_iff_iff,BJ]
 simp only[List.any_eq_true,decide_eq_true_eq,List.mem_map]
 exact⟨fun⟨x,h,e⟩=>⟨x,h,e.symm⟩,fun⟨x,h,e⟩=>⟨x,h,e.symm⟩⟩
section
variable {α : Type} (g : α → ByteArray) (gi : α → Int) (l : List α) (k : ByteArray) (n : Int) (σ bs : Heap) (b0 : aV)
theorem Uz:A.look .z (.om σ.length) (.str k) (.bool false) (σ++aV.map (mM g l)::bs)=some (.bool (fu k (l.map g))):=by
 rw[Ap .z rfl (by rw[Er];rfl),Vh]
theorem Ux:A.look .i (.om σ.length) (.int .i64 n) (.bool false) (σ++aV.map (qR gi l)::bs)=some (.bool (fu n (l.map gi))):=by
 rw[Ap .i rfl (by rw[Er];rfl),Vd]
theorem UA:A.look .z (.om (σ.length+1)) (.str k) (.bool false) (σ++b0::aV.map (mM g l)::bs)=some (.bool (fu k (l.map g))):=by
 rw[Ap .z rfl (by rw[zD];rfl),Vh]
theorem Uy:A.look .i (.om (σ.length+1)) (.int .i64 n) (.bool false) (σ++b0::aV.map (qR gi l)::bs)=some (.bool (fu n (l.map gi))):=by
 rw[Ap .i rfl (by rw[zD];rfl),Vd]
theorem Vj (h:fu k (l.map g)=false):A.hG .z (.om σ.length) (.str k) (.bool true) (σ++aV.map (mM g l)::bs)=some (σ++aV.map (mM g l++[(.str k,.bool true)])::bs):=by
 rw[F8 .z rfl (by rw[Er];rfl),mM,Qy g _ (fun x hx e=>Jz.1 h (by rw[←e];exact List.mem_map_of_mem hx)),Option.map_some,Qo];rfl
theorem Vf (h:fu n (l.map gi)=false):A.hG .i (.om σ.length) (.int .i64 n) (.bool true) (σ++aV.map (qR gi l)::bs)=some (σ++aV.map (qR gi l++[(.int .i64 n,.bool true)])::bs):=by
 rw[F8 .i rfl (by rw[Er];rfl),qR,Qw gi _ (fun x hx e=>Jz.1 h (by rw[←e];exact List.mem_map_of_mem hx)),Option.map_some,Qo];rfl
theorem Vk (h:fu k (l.map g)=false):A.hG .z (.om (σ.length+1)) (.str k) (.bool true) (σ++b0::aV.map (mM g l)::bs)=some (σ++b0::aV.map (mM g l++[(.str k,.bool true)])::bs):=by
 rw[F8 .z rfl (by rw[zD];rfl),mM,Qy g _ (fun x hx e=>Jz.1 h (by rw[←e];exact List.mem_map_of_mem hx)),Option.map_some,qc];rfl
theorem Vg (h:fu n (l.map gi)=false):A.hG .i (.om (σ.length+1)) (.int .i64 n) (.bool true) (σ++b0::aV.map (qR gi l)::bs)=some (σ++b0::aV.map (qR gi l++[(.int .i64 n,.bool true)])::bs):=by
 rw[F8 .i rfl (by rw[zD];rfl),qR,Qw gi _ (fun x hx e=>Jz.1 h (by rw[←e];exact List.mem_map_of_mem hx)),Option.map_some,qc];rfl
end
theorem Vi {α:Type} (g:α→ByteArray) (l:List α) (x:α):mM g (l++[x])=mM g l++[(.str (g x),.bool true)]:=by simp [mM]
theorem N6 (σ:Heap) (v:U):A.quiet (some (v,σ)) σ=some v:=by simp [A.quiet]
def Fz (a:U):Prop:=∀σ n d,A.bT σ n d a=some a
def jD (l:List U):Prop:=∀σ n d,A.fE σ n d l=some l
theorem gd (k:IntKind) (n:Int):Fz (.int k n):=fun _ _ d=>by cases d<;>simp [A.bT]
theorem F6 (b:Bool):Fz (.bool b):=fun _ _ d=>by cases d<;>simp [A.bT]
theorem yH (s:ByteArray):Fz (.str s):=fun _ _ d=>by cases d<;>simp [A.bT]
theorem ai6:Fz .aH:=fun _ _ d=>by cases d<;>simp [A.bT]
theorem pY {l:List U} (h:jD l):Fz (.agg l):=fun σ n d=>by cases d<;>simp [A.bT,h σ n]
theorem qE:jD []:=fun _ _ _=>by simp [A.fE]
theorem dL {a:U} {l:List U} (h:Fz a) (k:jD l):jD (a::l):=fun σ n d=>by simp [A.fE,h σ n d,k σ n d]
theorem xF {α:Type} {sz:Nat} {c:α→List U} (h:∀x,jD (c x)) (l:List α):Fz (sl sz c l):=by
 intro σ n d
 have:A.lG σ n d (l.map c)=some (l.map c):=by
  induction l with
  |nil=>simp [A.lG]
  |cons x l ih=>simp [A.lG,h x σ n d,ih]
 cases d<;>simp [sl,A.bT,this]
theorem QS {α:Type} {c:α→List U} (h:∀x,jD (c x)) (l:List α) (σ:Heap) (n d:Nat):A.lG σ n d (l.map c)=some (l.map c):=by
 induction l with
 |nil=>simp [A.lG]
 |cons x l ih=>simp [A.lG,h x σ n d,ih]
def uV {α:Type} (id sz:Nat) (l:List α):U:=if l=[]then .aH else .os id l.length sz 0 l.length
def rJ {α:Type} (sz:Nat) (c:α→List U) (l:List α):Heap:=if l=[]then[]else[.arr l.length sz (l.map c)]
theorem ag5 {α:Type} (sz:Nat) (c:α→List U):rJ sz c []=[]:=rfl
theorem aez {α:Type} {sz most:Nat} (c:α→List U) (l:List α) (x:α) (σ:Heap) (h:l.length+1≤most):A.append sz most (uV σ.length sz l) (.sl sz [c x]) (σ++rJ sz c l)=some (uV σ.length sz (l++[x]),σ++rJ sz c (l++[x])):=by
 unfold uV rJ
 cases l with
 |nil=>
  have h1:1≤most:=by simpa using h
  simp [A.append,A.mX,A.elems,h1]
 |cons y l=>
  have h1:l.length+1+1≤most:=by simpa using h
  simp [A.append,A.mX,A.elems,h1,Er,Qo,Nat.add_assoc,List.take_of_length_le]
theorem aio {α:Type} {sz:Nat} {c:α→List U} (hc:∀x,jD (c x)) (l:List α) (σ:Heap) (d:Nat):A.bT (σ++rJ sz c l) σ.length (d+1) (uV σ.length sz l)=some (if l=[]then .aH else sl sz c l):=by
 unfold uV rJ
 split
 ·simp [A.bT]
 ·rename_i hl
  simp only[A.bT,Nat.lt_irrefl,if_false,Er,List.getElem?_cons_zero]
  rw[if_pos (by simp)]
  have e:(List.take l.length (List.drop 0 (l.map c)))=l.map c:=by simp [List.take_of_length_le]
  rw[e,BG,QS hc]
  rfl
theorem agK {α:Type} {sz:Nat} {c:α→List U} (hc:∀x,jD (c x)) (l:List α) (k:IntKind) (n:Int) (σ:Heap):A.fin σ (.aL [uV σ.length sz l,.int k n]) (σ++rJ sz c l)=some (.aL [if l=[]then .aH else sl sz c l,.int k n],σ):=by
 unfold A.fin
 split
 ·rename_i h
  have:rJ sz c l=[]:=by simpa using h
  have hl:l=[]:=by
   unfold rJ at this
   split at this
   ·assumption
   ·cases this
  subst hl;rfl
 ·rw[if_pos (by simp)]
  have:A.bT (σ++rJ sz c l) σ.length 8 (.aL [uV σ.length sz l,.int k n])=some (.aL [if l=[]then .aH else sl sz c l,.int k n]):=by
   simp only[A.bT,A.fE,aio hc,gd k n _ _ _,Option.bind_some,Option.map_some]
  rw[this];rfl
theorem ajh {α:Type} (sz:Nat) (c:α→List U) (l:List α):A.nn (.s sz) (if l=[]then .aH else sl sz c l)=sl sz c l:=by
 split
 ·rename_i h;subst h;rfl
 ·rfl
def kN {α:Type} (p:α→Bool) (l:List α):Int:=match l.findIdx? p with|some i=>i|none=>-1
theorem wO {α:Type} (p:α→Bool) (l:List α):(kN p l=-1∧(∀x∈l,p x=false)∧l.find? p=none)∨∃(k:Nat) (x:α),l[k]? =some x∧p x=true∧kN p l=k∧l.find? p=some x∧∀(j:Nat) (y:α),j<k→l[j]? =some y→p y=false:=by
 induction l with
 |nil=>left;exact⟨rfl,by simp,rfl⟩
 |cons x l ih=>
  cases h:p x
  ·rcases ih with⟨h1,h2,h3⟩|⟨k,y,h1,h2,h3,h4,h5⟩
   ·left
    refine⟨?_,?_,?_⟩
    ·unfold kN at h1 ⊢
     rw[List.findIdx?_cons,h]
     cases hf:l.findIdx? p with
     |none=>simp
     |some i=>rw[hf]at h1;simp at h1
    ·intro y hy
     rcases List.mem_cons.1 hy with rfl|hy
     ·exact h
     ·exact h2 y hy
    ·simp [List.find?,h,h3]
   ·right
    refine⟨k+1,y,by simpa using h1,h2,?_,by simp [List.find?,h,h4],?_⟩
    ·unfold kN at h3 ⊢
     rw[List.findIdx?_cons,h]
     cases hf:l.findIdx? p with
     |none=>rw[hf]at h3;simp at h3
     |some i=>rw[hf]at h3;simp at h3 ⊢;omega
    ·intro j z hj hz
     cases j with
     |zero=>simp at hz;subst hz;exact h
     |succ j=>exact h5 j z (by omega) (by simpa using hz)
  ·right
   refine⟨0,x,rfl,h,?_,by simp [List.find?,h],by intro j y hj;omega⟩
   unfold kN
   rw[List.findIdx?_cons,h];rfl
theorem DU {α:Type} {γ:Type} (p:α→Bool) (K1:Option γ) (K2:Int→Option γ):∀(l pre:List α),(∀x∈pre,p x=false)→(jL (fun pre x (_:Unit)=>if p x=true then(Rd.out (pre.length:Int):Rd Unit Int)else .go ()) pre l ()).el (fun _=>K1) K2=if kN p (pre++l)=-1 then K1 else K2 (kN p (pre++l))
 |[],pre,h=>by
  have:kN p (pre++[])=-1:=by
   rcases wO p (pre++[])with h1|⟨k,x,h1,h2,_⟩
   ·exact h1.1
   ·have:=h x (by have:=List.mem_of_getElem? h1;simpa using this)
    rw[h2]at this;cases this
  rw[jL,uL,if_pos this]
 |x::l,pre,h=>by
  rw[jL]
  cases hx:p x
  ·simp only[Bool.false_eq_true,if_false]
   have:=DU p K1 K2 l (pre++[x]) (fun y hy=>by
    rcases List.mem_append.1 hy with hy|hy
    ·exact h y hy
    ·simp at hy;subst hy;exact hx)
   simpa using this
  ·simp only[if_true,uK]
   have:kN p (pre++x::l)=pre.length:=by
    rcases wO p (pre++x::l)with h1|⟨k,y,h1,h2,h3,_,h5⟩
    ·have:=h1.2.1 x (by simp);rw[hx]at this;cases this
    ·rw[h3]
     rcases Nat.lt_trichotomy k pre.length with hk|hk|hk
     ·rw[List.getElem?_append_left hk]at h1
      have:=h y (List.mem_of_getElem? h1);rw[h2]at this;cases this
     ·omega
     ·have:=h5 pre.length x hk (by simp);rw[hx]at this;cases this
   rw[this,if_neg (by omega)]
theorem Wd {α R γ:Type} (p:α→Bool) (r:R) (K1:Unit→γ) (K2:R→γ):∀(l pre:List α),(jL (fun _ x (_:Unit)=>if p x=true then(Rd.out r:Rd Unit R)else .go ()) pre l ()).el K1 K2=if l.any p=true then K2 r else K1 ()
 |[],pre=>by simp [jL,Rd.el]
 |x::l,pre=>by
  rw[jL]
  cases h:p x
  ·simp only[Bool.false_eq_true,if_false]
   rw[Wd p r K1 K2 l (pre++[x])]
   simp [h]
  ·simp [h,Rd.el]
theorem DC {α:Type} (sz:Nat) (c:α→List U) (l:List α) {k:Nat} (h:k≤l.length) {σ:Heap}:A.bG sz (sl sz c l) none (some (.int .i64 (k:Int))) σ=some (sl sz c (l.take k)):=by
 simp [A.bG,sl,A.bound,h,List.map_take]
theorem Kf {α:Type} {l pre rest:List α} {x:α} (h:l=pre++x::rest):l.take pre.length=pre:=by rw[h];simp
theorem Ve (l:List Int) (n:Int):qR id l++[(.int .i64 n,.bool true)]=qR id (l++[n]):=by simp [qR]
theorem afM {κ:Type} [DecidableEq κ] (k x:κ) (S:List κ):fu k (S++[x])=(fu k S||decide (x=k)):=by simp [fu]
theorem gR {α:Type} {sz:Nat} {c:α→List U} {sh:List Sh} (h:∀x,A.bY sh (c x)=c x) (l:List α):A.nn (.e sz sh) (sl sz c l)=sl sz c l:=by
 simp only[sl,A.nn,List.map_map]
 congr 1
 exact List.map_congr_left fun x _=>h x
theorem WU (sz:Nat) (sh:List Sh):A.nn (.e sz sh) .aH=.sl sz []:=by simp [A.nn]
theorem xg {α γ:Type} {f:List U→Heap→Option (AX×List U×Heap)} (l:List α) (p:α→Bool) (vs:Nat→List U) (σ:Heap) (fin:AX×List U×Heap) (ret:Nat→AX×List U×Heap) {k:AX×List U×Heap→Option γ} (K1 K2:Option γ)
  (hstep:∀(i:Nat) (x:α),l[i]? =some x→f (vs i) σ=if p x=true then some (ret i)else some (.normal,vs (i+1),σ)) (hend:f (vs l.length) σ=some fin) (hk1:k fin=K1) (hk2:∀i,k (ret i)=K2)
  (za:fin.1≠.normal:=by simp) (Cj:∀i,(ret i).1≠.normal:=by intros;simp) {v:List U} {σ':Heap} (hv:v=vs 0:=by rfl) (fQ:σ'=σ:=by rfl):
  (A.loop f v σ').bind k=if l.any p=true then K2 else K1:=by
 subst hv fQ
 refine(mU (S:=Unit) (R:=Unit) l (fun _ x _=>if p x=true then .out ()else .go ()) (fun pre _=>vs pre.length) (fun _ _=>σ') (fun _=>fin) (fun pre _ _=>ret pre.length) (fun _ _=>True) () (fun _=>K1) (fun _=>K2)
  ?_ (fun _ _=>hend) trivial (fun _ _ _ _ _ _ _ _=>trivial) (fun _ _=>hk1) (fun _ _ _ _ _ _ _ _=>hk2 _) (fun _=>za) (fun _ _ _=>Cj _)).trans (Wd p () _ _ l [])
 intro pre x rest u hl _
 rw[hstep pre.length x (mZ hl)]
 cases p x<;>simp [Rd.el]
theorem J9 {α κ:Type} [DecidableEq κ] (k:κ) (g:α→κ) (l:List α):fu k (l.map g)=l.any fun x=>decide (g x=k):=by simp [fu,List.any_map];rfl
theorem uF {α:Type} (sz:Nat) (c:α→List U) {l:List α} {k:Nat} {x:α} (h:l[k]? =some x):A.aN sz (sl sz c l) (.int .i64 (k:Int))=some (.rp (c x))∧(k:Int)<(l.length:Int)∧(l.length≤aY→IntKind.i64.wrap ((k:Int)+1)=(k:Int)+1):=
 ⟨jy sz c l h,by have:=(List.getElem?_eq_some_iff.1 h).1;omega,fun hl=>wrap64 (by have:=(List.getElem?_eq_some_iff.1 h).1;unfold aZ;unfold aY at hl;omega)⟩
theorem UZ {α γ:Type} {f:List U→Heap→Option (AX×List U×Heap)} (l:List α) (p:α→Bool) (vs:Nat→List U) (σ:Heap) (fin:AX×List U×Heap) (ret:Nat→α→AX×List U×Heap) {k:AX×List U×Heap→Option γ} (K1:Option γ) (K2:α→Option γ)
  (hstep:∀(i:Nat) (x:α),l[i]? =some x→f (vs i) σ=if p x=true then some (ret i x)else some (.normal,vs (i+1),σ)) (hend:f (vs l.length) σ=some fin) (hk1:k fin=K1) (hk2:∀i x,k (ret i x)=K2 x)
  (za:fin.1≠.normal:=by simp) (Cj:∀i x,(ret i x).1≠.normal:=by intros;simp) {v:List U} {σ':Heap} (hv:v=vs 0:=by rfl) (fQ:σ'=σ:=by rfl):
  (A.loop f v σ').bind k=(l.find? p).elim K1 K2:=by
 subst hv fQ
 have run:∀(l pre:List α),(jL (fun _ x (_:Unit)=>if p x=true then(Rd.out x:Rd Unit α)else .go ()) pre l ()).el (fun _=>K1) K2=(l.find? p).elim K1 K2:=by
  intro l
  induction l with
  |nil=>intro pre;rfl
  |cons x l ih=>
   intro pre
   rw[jL]
   cases h:p x
   ·simp only[Bool.false_eq_true,if_false]
    rw[ih,List.find?_cons,h]
   ·simp [h,Rd.el]
 refine(mU (S:=Unit) (R:=α) l (fun _ x _=>if p x=true then .out x else .go ()) (fun pre _=>vs pre.length) (fun _ _=>σ') (fun _=>fin) (fun pre _ x=>ret pre.length x) (fun _ _=>True) () (fun _=>K1) K2
  ?_ (fun _ _=>hend) trivial (fun _ _ _ _ _ _ _ _=>trivial) (fun _ _=>hk1) (fun _ _ _ _ _ _ _ _=>hk2 _ _) (fun _=>za) (fun _ _ _=>Cj _ _)).trans (run l [])
 intro pre x rest u hl _
 rw[hstep pre.length x (mZ hl)]
 cases p x<;>simp [Rd.el]
theorem agX {α γ:Type} {f:List U→Heap→Option (AX×List U×Heap)} (l:List α) (p:α→Bool) (vs:Nat→List U) (σ:Heap) (fin:AX×List U×Heap) (ret:Nat→AX×List U×Heap) {k:AX×List U×Heap→Option γ} (K1:Option γ) (K2:Int→Option γ)
  (hstep:∀(i:Nat) (x:α),l[i]? =some x→f (vs i) σ=if p x=true then some (ret i)else some (.normal,vs (i+1),σ)) (hend:f (vs l.length) σ=some fin) (hk1:k fin=K1) (hk2:∀i:Nat,k (ret i)=K2 i)
  (za:fin.1≠.normal:=by simp) (Cj:∀i,(ret i).1≠.normal:=by intros;simp) {v:List U} {σ':Heap} (hv:v=vs 0:=by rfl) (fQ:σ'=σ:=by rfl):
  (A.loop f v σ').bind k=if kN p l=-1 then K1 else K2 (kN p l):=by
 subst hv fQ
 refine(mU (S:=Unit) (R:=Int) l (fun pre x _=>if p x=true then .out (pre.length:Int)else .go ()) (fun pre _=>vs pre.length) (fun _ _=>σ') (fun _=>fin) (fun pre _ _=>ret pre.length) (fun _ _=>True) () (fun _=>K1) K2
  ?_ (fun _ _=>hend) trivial (fun _ _ _ _ _ _ _ _=>trivial) (fun _ _=>hk1) ?_ (fun _=>za) (fun _ _ _=>Cj _)).trans ?_
 ·intro pre x rest u hl _
  rw[hstep pre.length x (mZ hl)]
  cases p x<;>simp [Rd.el]
 ·intro pre x rest s r hl _ hb
  rw[hk2]
  cases h:p x
  ·rw[h]at hb;cases hb
  ·rw[h]at hb;simp at hb;rw[hb]
 ·have:=DU p K1 K2 l [] (by simp)
  simpa using this
theorem th {α:Type} (n:Int) (B:U→Option α) (s:Option α):((A.lss (.int .i64 n) (.int .i64 n)).bind fun x=>A.cond x (B x) s)=s:=by
 simp only[vC,Int.lt_irrefl,Option.bind_some,decide_false,cF]
section
variable {α β : Type}
theorem afq {c c':U} (h:c=c') (t e:Option α):A.cond c t e=A.cond c' t e:=by rw[h]
theorem aet {c c':U} (h:c=c') (w:Bool) (e d:Option α):A.guard c w e d=A.guard c' w e d:=by rw[h]
theorem afj {x y:Option α} (h:x=y) (f:α→Option β):x.bind f=y.bind f:=by rw[h]
attribute [congr] afq aet afj
end
theorem aB:type_of% @Option.bind_some.{0,0}∧type_of% @Option.map_some.{0,0}∧type_of% @cT∧type_of% @cF∧type_of% @Zg∧type_of% @Zf∧type_of% @Ze∧type_of% @Zd∧type_of% @gN∧type_of% @pT∧type_of% @pF∧type_of% @cond_true.{1}∧type_of% @cond_false.{1}∧type_of% @xN∧type_of% @Gu∧type_of% @uQ∧type_of% @YB∧type_of% @vC∧type_of% @YA∧type_of% @B7∧type_of% @Yz∧type_of% @X4∧type_of% @X3∧type_of% @X1∧type_of% @X0∧type_of% @l5∧type_of% @gB∧type_of% @En∧type_of% @Gv∧type_of% @YC∧type_of% @X5∧type_of% @Y9∧type_of% @XW∧type_of% @XX∧type_of% @XY∧type_of% @XZ∧type_of% @Y7∧type_of% @Y8∧type_of% @X2∧type_of% @Y5∧type_of% @Y4∧type_of% @Y6∧type_of% @Yy∧type_of% @R9∧type_of% @Zi∧type_of% @Zj∧type_of% @Zk∧type_of% @Zl∧type_of% @Zm∧type_of% @Zn∧type_of% @Zo∧type_of% @Zp∧type_of% @Zq∧type_of% @bK∧type_of% @Pk∧type_of% @VN∧type_of% @WG∧type_of% @VO∧type_of% @cu∧type_of% @ite_true.{1}∧type_of% @ite_false.{1}∧type_of% @if_true.{1}∧type_of% @if_false.{1}∧type_of% @Bool.false_eq_true∧type_of% @not_true_eq_false∧type_of% @not_false_eq_true∧type_of% @decide_true∧type_of% @decide_false∧type_of% @Bool.not_true∧type_of% @Bool.not_false∧type_of% @List.append_assoc.{0}∧type_of% @List.cons_append.{0}∧type_of% @List.nil_append.{0}∧type_of% @List.drop_zero.{0}∧type_of% @W4∧type_of% @W5∧type_of% @VY∧type_of% @Int.natCast_add∧type_of% @Int.cast_ofNat_Int∧type_of% @N6∧type_of% @uL∧type_of% @uK∧type_of% @xx∧type_of% @Uz∧type_of% @Ux∧type_of% @UA∧type_of% @Uy∧type_of% @Vi∧type_of% @Vj∧type_of% @Vf∧type_of% @Vk∧type_of% @Vg∧type_of% @true_and∧type_of% @and_true∧type_of% @false_and∧type_of% @and_false∧type_of% @true_or∧type_of% @or_true∧type_of% @false_or∧type_of% @or_false∧type_of% @Option.getD_some.{0}∧type_of% @Option.getD_none.{0}∧type_of% @List.length_append.{0}∧type_of% @List.length_cons.{0}∧type_of% @List.length_nil.{0}∧type_of% @Nat.zero_add∧type_of% @Nat.add_zero:=
 ⟨@Option.bind_some.{0,0},@Option.map_some.{0,0},@cT,@cF,@Zg,@Zf,@Ze,@Zd,@gN,@pT,@pF,@cond_true.{1},@cond_false.{1},@xN,@Gu,@uQ,@YB,@vC,@YA,@B7,@Yz,@X4,@X3,@X1,@X0,@l5,@gB,@En,@Gv,@YC,@X5,@Y9,@XW,@XX,@XY,@XZ,@Y7,@Y8,@X2,@Y5,@Y4,@Y6,@Yy,@R9,@Zi,@Zj,@Zk,@Zl,@Zm,@Zn,@Zo,@Zp,@Zq,@bK,@Pk,@VN,@WG,@VO,@cu,@ite_true.{1},@ite_false.{1},@if_true.{1},@if_false.{1},@Bool.false_eq_true,@not_true_eq_false,@not_false_eq_true,@decide_true,@decide_false,@Bool.not_true,@Bool.not_false,@List.append_assoc.{0},@List.cons_append.{0},@List.nil_append.{0},@List.drop_zero.{0},@W4,@W5,@VY,@Int.natCast_add,@Int.cast_ofNat_Int,@N6,@uL,@uK,@xx,@Uz,@Ux,@UA,@Uy,@Vi,@Vj,@Vf,@Vk,@Vg,@true_and,@and_true,@false_and,@and_false,@true_or,@or_true,@false_or,@or_false,@Option.getD_some.{0},@Option.getD_none.{0},@List.length_append.{0},@List.length_cons.{0},@List.length_nil.{0},@Nat.zero_add,@Nat.add_zero⟩
end
theorem US (x:kL):jD (cW x):=(dL (gd _ _) (dL (gd _ _) qE))
theorem afA (x:ng):jD (jR x):=(dL (gd _ _) (dL (gd _ _) (dL (yH _) qE)))
theorem afz (x:dI):jD (cm x):=(dL (yH _) (dL (gd _ _) (dL (gd _ _) (dL (gd _ _) (dL (gd _ _) (dL (F6 _) (dL (xF afA _) qE)))))))
theorem Nr (x:bV):jD (cA x):=(dL (yH _) (dL (gd _ _) (dL (xF afz _) qE)))
theorem OP (x:bX):jD (bQ x):=(dL (gd _ _) (dL (yH _) (dL (gd _ _) (dL (gd _ _) qE))))
theorem WI (x:bu):jD (aP x):=(dL (xF Nr _) (dL (xF OP _) qE))
theorem uI (x:aA):jD (aK x):=(dL (gd _ _) (dL (yH _) qE))
theorem TN (x:bW):jD (dc x):=(dL (gd _ _) (dL (yH _) (dL (gd _ _) qE)))
theorem Ai (x:aS):jD (aF x):=(dL (gd _ _) (dL (yH _) (dL (gd _ _) (dL (gd _ _) (dL (F6 _) (dL (F6 _) (dL (gd _ _) (dL (gd _ _) qE))))))))
theorem Ku (x:aO):jD (aM x):=(dL (gd _ _) (dL (yH _) (dL (gd _ _) (dL (gd _ _) (dL (gd _ _) (dL (gd _ _) (dL (gd _ _) (dL (xF US _) (dL (F6 _) (dL (gd _ _) (dL (xF Ai _) qE)))))))))))
theorem JK (x:bJ):jD (cz x):=(dL (gd _ _) (dL (yH _) (dL (gd _ _) (dL (gd _ _) (dL (gd _ _) qE)))))
theorem VU (x:jk):jD (cZ x):=(dL (gd _ _) (dL (gd _ _) (dL (gd _ _) qE)))
instance : Inhabited ByteArray := ⟨⟨#[]⟩⟩
instance : Inhabited kL := ⟨⟨0, 0⟩⟩
theorem afv (a b:kL):A.ff (.s [0,0]) (.agg (cW a)) (.agg (cW b))=some (decide (a=b)):=by
 obtain⟨x1,x2⟩:=a
 obtain⟨x101,x102⟩:=b
 simp only[A.ff,cW,A.iK,A.uf,A.oL,A.vT,A.rT,if_true,Option.bind_some,Option.map_some,bq]
 congr 1
 rw[Bool.eq_iff_iff]
 simp [and_assoc]
theorem ag4 (a b:kL):A.neq (.s [0,0]) (.agg (cW a)) (.agg (cW b))=some (.bool (decide (¬(a=b)))):=by rw[A.neq,afv,Option.map_some,decide_not]
instance : Inhabited rB := ⟨⟨0, []⟩⟩
instance : Inhabited XT := ⟨⟨0, 0, 0, 0, 0, ⟨0, []⟩⟩⟩
instance : Inhabited ahp := ⟨⟨0, 0⟩⟩
instance : Inhabited ng := ⟨⟨0, 0, ⟨#[]⟩⟩⟩
instance : Inhabited dI := ⟨⟨⟨#[]⟩, 0, 0, 0, 0, false, []⟩⟩
instance : Inhabited bV := ⟨⟨⟨#[]⟩, 0, []⟩⟩
instance : Inhabited bX := ⟨⟨0, ⟨#[]⟩, 0, 0⟩⟩
instance : Inhabited bu := ⟨⟨[], []⟩⟩
instance : Inhabited aA := ⟨⟨0, ⟨#[]⟩⟩⟩
theorem yD (a b:aA):A.ff (.s [0,2]) (.agg (aK a)) (.agg (aK b))=some (decide (a=b)):=by
 obtain⟨x1,x2⟩:=a
 obtain⟨x101,x102⟩:=b
 simp only[A.ff,aK,A.iK,A.uf,A.oL,A.vT,A.rT,if_true,Option.bind_some,Option.map_some,bq]
 congr 1
 rw[Bool.eq_iff_iff]
 simp [and_assoc]
theorem Ge (a b:aA):A.eql (.s [0,2]) (.agg (aK a)) (.agg (aK b))=some (.bool (decide (a=b))):=by rw[A.eql,yD];rfl
instance : Inhabited bW := ⟨⟨⟨0, ⟨#[]⟩⟩, 0⟩⟩
instance : Inhabited bO := ⟨⟨0, ⟨#[]⟩, []⟩⟩
instance : Inhabited aj4 := ⟨⟨[], 0, 0⟩⟩
instance : Inhabited iG := ⟨⟨0, 0⟩⟩
theorem afw (a b:iG):A.ff (.s [0,0]) (.agg (ou a)) (.agg (ou b))=some (decide (a=b)):=by
 obtain⟨x1,x2⟩:=a
 obtain⟨x101,x102⟩:=b
 simp only[A.ff,ou,A.iK,A.uf,A.oL,A.vT,A.rT,if_true,Option.bind_some,Option.map_some,bq]
 congr 1
 rw[Bool.eq_iff_iff]
 simp [and_assoc]
theorem V2 (a b:iG):A.neq (.s [0,0]) (.agg (ou a)) (.agg (ou b))=some (.bool (decide (¬(a=b)))):=by rw[A.neq,afw,Option.map_some,decide_not]
instance : Inhabited aS := ⟨⟨⟨0, ⟨#[]⟩⟩, ⟨0, 0⟩, false, false, 0, 0⟩⟩
theorem agJ (a b:aS):A.ff (.s [0,2,0,0,1,1,0,0]) (.agg (aF a)) (.agg (aF b))=some (decide (a=b)):=by
 obtain⟨⟨x1,x2⟩,⟨x3,x4⟩,x5,x6,x7,x8⟩:=a
 obtain⟨⟨x101,x102⟩,⟨tU,x104⟩,Cp,sL,xR,xS⟩:=b
 simp only[A.ff,aF,A.iK,A.uf,A.oL,A.vT,A.rT,if_true,Option.bind_some,Option.map_some,bq]
 congr 1
 rw[Bool.eq_iff_iff]
 simp [and_assoc]
theorem aid (a b:aS):A.neq (.s [0,2,0,0,1,1,0,0]) (.agg (aF a)) (.agg (aF b))=some (.bool (decide (¬(a=b)))):=by rw[A.neq,agJ,Option.map_some,decide_not]
instance : Inhabited aO := ⟨⟨0, ⟨#[]⟩, 0, 0, 0, 0, ⟨0, []⟩, false, 0, []⟩⟩
instance : Inhabited bJ := ⟨⟨⟨0, ⟨#[]⟩⟩, ⟨0, 0⟩, 0⟩⟩
instance : Inhabited jk := ⟨⟨0, 0, 0⟩⟩
theorem agI (a b:jk):A.ff (.s [0,0,0]) (.agg (cZ a)) (.agg (cZ b))=some (decide (a=b)):=by
 obtain⟨x1,x2,x3⟩:=a
 obtain⟨x101,x102,tU⟩:=b
 simp only[A.ff,cZ,A.iK,A.uf,A.oL,A.vT,A.rT,if_true,Option.bind_some,Option.map_some,bq]
 congr 1
 rw[Bool.eq_iff_iff]
 simp [and_assoc]
theorem aic (a b:jk):A.neq (.s [0,0,0]) (.agg (cZ a)) (.agg (cZ b))=some (.bool (decide (¬(a=b)))):=by rw[A.neq,agI,Option.map_some,decide_not]
instance : Inhabited XU := ⟨⟨0, []⟩⟩
instance : Inhabited UG := ⟨⟨0, 0, 0⟩⟩
instance : Inhabited aiT := ⟨⟨⟨[], []⟩, [], [], []⟩⟩
instance : Inhabited Wp := ⟨⟨0, 0, 0, 0, 0⟩⟩
instance : Inhabited aiR := ⟨⟨0, ⟨0, 0, 0, 0, 0⟩⟩⟩
instance : Inhabited aiU := ⟨⟨0, 0, 0, 0⟩⟩
instance : Inhabited Yx := ⟨⟨⟨0, ⟨#[]⟩⟩, ⟨0, 0, 0, 0, 0, ⟨0, []⟩⟩, 0, false⟩⟩
instance : Inhabited afh := ⟨⟨0, 0, 0, false, 0, []⟩⟩
instance : Inhabited TF := ⟨⟨0, 0, 0⟩⟩
instance : Inhabited Wq := ⟨⟨0, 0, 0, 0, 0, 0, false, false, []⟩⟩
instance : Inhabited XV := ⟨⟨0, 0⟩⟩
instance : Inhabited ago := ⟨⟨⟨0, 0, 0, 0, 0, 0, false, false, []⟩, [], 0, [], 0, 0, 0⟩⟩
section
def Rf {β τ:Type} (M:Option β) (T:Option τ) (Q:τ→β→Prop):Prop:=∀t,T=some t→∃b,M=some b∧Q t b
section
variable {α β ω τ ζ : Type}
theorem ak {M0:Option α} {K:α→Option β} {T:Option τ} {Q:τ→β→Prop} (a:α) (h:M0=some a) (k:Rf (K a) T Q):Rf (M0.bind K) T Q:=by
 intro t ht;obtain⟨b,h1,h2⟩:=k t ht;exact⟨b,by rw[h];exact h1,h2⟩
theorem iq {M0:Option α} {K:α→Option β} {o:Option ω} {K':ω→Option τ} {Q:τ→β→Prop} (e:ω→α) (h:∀t,o=some t→M0=some (e t)) (k:∀t,o=some t→Rf (K (e t)) (K' t) Q):Rf (M0.bind K) (o.bind K') Q:=by
 intro t ht
 obtain⟨x,h1,h2⟩:=Option.bind_eq_some_iff.1 ht
 obtain⟨b,h3,h4⟩:=k x h1 t h2
 exact⟨b,by rw[h x h1];exact h3,h4⟩
theorem Rg {M0:Option α} {K:α→Option β} {o:Option ω} {K':ω→Option τ} {Q:τ→β→Prop} (Q0:ω→α→Prop) (h:Rf M0 o Q0) (k:∀t a,Q0 t a→Rf (K a) (K' t) Q):Rf (M0.bind K) (o.bind K') Q:=by
 intro t ht
 obtain⟨x,h1,h2⟩:=Option.bind_eq_some_iff.1 ht
 obtain⟨a,h3,h4⟩:=h x h1
 obtain⟨b,h5,h6⟩:=k x a h4 t h2
 exact⟨b,by rw[h3];exact h5,h6⟩
theorem bn {t:τ} {b:β} {Q:τ→β→Prop} (h:Q t b):Rf (some b) (some t) Q:=by
 intro u hu;cases hu;exact⟨b,rfl,h⟩
theorem cq {M:Option β} {t:τ} {Q:τ→β→Prop} (b:β) (e:M=some b) (h:Q t b):Rf M (some t) Q:=by
 rw[e];exact bn h
theorem aix {M:Option β} {Q:τ→β→Prop}:Rf M (none:Option τ) Q:=by intro u hu;cases hu
theorem Lb {M:Option β} {p:Prop} [Decidable p] {T:Option τ} {Q:τ→β→Prop} (h:p→Rf M T Q):Rf M (if p then T else none) Q:=by
 split
 ·exact h ‹_›
 ·exact aix
theorem gU {p:Prop} [Decidable p] {X Y:Option β} {X' Y':Option τ} {Q:τ→β→Prop} (h1:p→Rf X X' Q) (h2:¬p→Rf Y Y' Q):Rf (A.cond (.bool (decide p)) X Y) (if p then X' else Y') Q:=by
 by_cases h:p
 ·simp only[h,decide_true,if_true];exact h1 h
 ·simp only[h,decide_false,if_false];exact h2 h
theorem fJ {c:Bool} {X Y:Option β} {X' Y':Option τ} {Q:τ→β→Prop} (h1:c=true→Rf X X' Q) (h2:c=false→Rf Y Y' Q):Rf (A.cond (.bool c) X Y) (if c=true then X' else Y') Q:=by
 cases c
 ·exact h2 rfl
 ·exact h1 rfl
theorem jo {X Y:Option β} {T:Option τ} {Q:τ→β→Prop} (h:Rf X T Q):Rf (A.cond (.bool true) X Y) T Q:=h
theorem jm {X Y:Option β} {T:Option τ} {Q:τ→β→Prop} (h:Rf Y T Q):Rf (A.cond (.bool false) X Y) T Q:=h
theorem dS {c:Bool} {X Y:Option β} {T:Option τ} {Q:τ→β→Prop} (e:c=true) (h:Rf X T Q):Rf (bif c then X else Y) T Q:=by rw[e];exact h
theorem mm {c:Bool} {X Y:Option β} {T:Option τ} {Q:τ→β→Prop} (e:c=false) (h:Rf Y T Q):Rf (bif c then X else Y) T Q:=by rw[e];exact h
def gv {α:Type} (g:Bool) (e:α→U) (t:α):U:=bif g then e t else .aL []
end
inductive Lr (S B R : Type) where
 |go (s:S)
 |brk (b:B)
 |ret (r:R)
def kM {α S B R:Type} (body:Nat→α→S→Option (Lr S B R)) (fin:S→Option B):List α→Nat→S→Option (B ⊕ R)
 |[],_,s=>(fin s).map .inl
 |x::l,i,s=>(body i x s).bind fun q=>match q with|.go s'=>kM body fin l (i+1) s'|.brk b=>some (.inl b)|.ret r=>some (.inr r)
def gz {α S B R γ:Type} (l:List α) (body:Nat→α→S→Option (Lr S B R)) (fin:S→Option B) (s:S) (K1:B→Option γ) (K2:R→Option γ):Option γ:=
 if l.length≤aY then(kM body fin l 0 s).bind fun q=>q.elim K1 K2 else none
def rW {S B R:Type} (body:S→Option (Lr S B R)):Nat→S→Option (B ⊕ R)
 |0,_=>none
 |n+1,s=>(body s).bind fun q=>match q with|.go s'=>rW body n s'|.brk b=>some (.inl b)|.ret r=>some (.inr r)
noncomputable def uv {S B R:Type} (body:S→Option (Lr S B R)) (s:S):Option (B ⊕ R):=open Classical in if h:∃n r,rW body n s=some r then some (Classical.choose (Classical.choose_spec h))else none
noncomputable def E1 {S B R γ:Type} (body:S→Option (Lr S B R)) (s:S) (K1:B→Option γ) (K2:R→Option γ):Option γ:=(uv body s).bind fun q=>q.elim K1 K2
theorem ahZ {S B R:Type} {body:S→Option (Lr S B R)}:∀{n m:Nat} {s:S} {r r':B ⊕ R},rW body n s=some r→rW body m s=some r'→r=r':=by
 intro n
 induction n with
 |zero=>intro m s r r' h;cases h
 |succ n ih=>
  intro m s r r' h1 h2
  cases m with
  |zero=>cases h2
  |succ m=>
   simp only[rW]at h1 h2
   cases hf:body s with
   |none=>rw[hf]at h1;cases h1
   |some q=>
    rw[hf]at h1 h2
    simp only[Option.bind_some]at h1 h2
    cases q with
    |go s'=>exact ih h1 h2
    |brk b=>simp only at h1 h2;rw[h1]at h2;injection h2
    |ret b=>simp only at h1 h2;rw[h1]at h2;injection h2
theorem KT {S B R:Type} {body:S→Option (Lr S B R)} {n:Nat} {s:S} {r:B ⊕ R} (h:rW body n s=some r):uv body s=some r:=by
 have hex:∃n r,rW body n s=some r:=⟨n,r,h⟩
 unfold uv
 rw[dif_pos hex]
 exact congrArg some (ahZ (Classical.choose_spec (Classical.choose_spec hex)) h)
theorem Qf {S B R:Type} {body:S→Option (Lr S B R)} {s:S} {r:B ⊕ R} (h:uv body s=some r):∃n,rW body n s=some r:=by
 unfold uv at h
 split at h
 ·rename_i hx
  injection h with h
  subst h
  exact⟨_,Classical.choose_spec (Classical.choose_spec hx)⟩
 ·cases h
theorem O8 {S B R:Type} (body:S→Option (Lr S B R)) (s:S):uv body s=(body s).bind fun q=>match q with|.go s'=>uv body s'|.brk b=>some (.inl b)|.ret r=>some (.inr r):=by
 cases hf:body s with
 |none=>
  rw[Option.bind_none]
  unfold uv
  rw[dif_neg]
  rintro⟨n,r,h⟩
  cases n with
  |zero=>cases h
  |succ n=>simp [rW,hf]at h
 |some q=>
  rw[Option.bind_some]
  cases q with
  |brk b=>exact KT (n:=1) (by simp [rW,hf])
  |ret b=>exact KT (n:=1) (by simp [rW,hf])
  |go s'=>
   show uv body s=uv body s'
   cases h:uv body s' with
   |some r=>
    obtain⟨n,hn⟩:=Qf h
    exact KT (n:=n+1) (by simp [rW,hf,hn])
   |none=>
    cases h2:uv body s with
    |none=>rfl
    |some r=>
     obtain⟨n,hn⟩:=Qf h2
     cases n with
     |zero=>cases hn
     |succ n=>
      simp only[rW,hf,Option.bind_some]at hn
      rw[KT hn]at h;cases h
section
variable {α S B R β τ : Type}
abbrev LS:=AX×List U×Heap
def G4 (I:S→List U→Heap→Prop) (QB:B→LS→Prop) (QR:R→LS→Prop) (t:Lr S B R) (q:LS):Prop:=match t with
 |.go s=>q.1=.normal∧I s q.2.1 q.2.2
 |.brk b=>q.1≠.normal∧QB b q
 |.ret r=>q.1≠.normal∧QR r q
theorem iH {I:S→List U→Heap→Prop} {QB:B→LS→Prop} {QR:R→LS→Prop} {s:S} {v:List U} {σ:Heap} (h:I s v σ):G4 I QB QR (.go s) (.normal,v,σ):=⟨rfl,h⟩
theorem PJ {I:S→List U→Heap→Prop} {QB:B→LS→Prop} {QR:R→LS→Prop} {b:B} {q:LS} (n:q.1≠.normal) (h:QB b q):G4 I QB QR (.brk b) q:=⟨n,h⟩
theorem ey {I:S→List U→Heap→Prop} {QB:B→LS→Prop} {QR:R→LS→Prop} {r:R} {q:LS} (n:q.1≠.normal) (h:QR r q):G4 I QB QR (.ret r) q:=⟨n,h⟩
theorem jj {f:List U→Heap→Option LS} {K:LS→Option β} {Q:τ→β→Prop} {l:List α} {body:Nat→α→S→Option (Lr S B R)} {fin:S→Option B} {s0:S} {K1:B→Option τ} {K2:R→Option τ} {v0:List U} {ay:Heap}
  (I:Nat→S→List U→Heap→Prop) (QB:B→LS→Prop) (QR:R→LS→Prop)
  (hstep:l.length≤aY→∀i x s v σ,l[i]? =some x→I i s v σ→Rf (f v σ) (body i x s) (G4 (I (i+1)) QB QR))
  (hend:l.length≤aY→∀s v σ,I l.length s v σ→Rf (f v σ) (fin s) (fun b q=>q.1≠.normal∧QB b q))
  (h0:I 0 s0 v0 ay) (k1:l.length≤aY→∀b q,QB b q→Rf (K q) (K1 b) Q) (k2:l.length≤aY→∀r q,QR r q→Rf (K q) (K2 r) Q):
  Rf ((A.loop f v0 ay).bind K) (gz l body fin s0 K1 K2) Q:=by
 unfold gz
 refine Lb fun hl=>?_
 have hstep:=hstep hl
 have hend:=hend hl
 have key:∀(rest pre:List α) (s:S) (v:List U) (σ:Heap),l=pre++rest→I pre.length s v σ→∀t,kM body fin rest pre.length s=some t→∃q,(∃n,A.iter f n v σ=some q)∧(match t with|.inl b=>QB b q|.inr r=>QR r q):=by
  intro rest
  induction rest with
  |nil=>
   intro pre s v σ hl hI t ht
   rw[List.append_nil]at hl
   subst hl
   simp only[kM]at ht
   obtain⟨b,hb,rfl⟩:=Option.map_eq_some_iff.1 ht
   obtain⟨q,h1,h2,h3⟩:=hend s v σ hI b hb
   exact⟨q,qC h1 h2,h3⟩
  |cons x rest ih=>
   intro pre s v σ hl hI t ht
   simp only[kM]at ht
   obtain⟨y,hy,h2⟩:=Option.bind_eq_some_iff.1 ht
   obtain⟨q,h3,h4⟩:=hstep pre.length x s v σ (by rw[hl];simp) hI y hy
   obtain⟨e,v',σ'⟩:=q
   cases y with
   |go s'=>
    obtain⟨rfl,Hq⟩:=h4
    obtain⟨q,h5,h6⟩:=ih (pre++[x]) s' v' σ' (by simpa using hl) (by simpa using Hq) t (by simpa using h2)
    exact⟨q,wS h3 h5,h6⟩
   |brk b=>simp only[Option.some.injEq]at h2;subst h2;exact⟨_,qC h3 h4.1,h4.2⟩
   |ret b=>simp only[Option.some.injEq]at h2;subst h2;exact⟨_,qC h3 h4.1,h4.2⟩
 intro t ht
 obtain⟨y,hy,h2⟩:=Option.bind_eq_some_iff.1 ht
 obtain⟨q,⟨n,hn⟩,h3⟩:=key l [] s0 v0 ay rfl h0 y hy
 cases y with
 |inl b=>obtain⟨z,h4,h5⟩:=k1 hl b q h3 t h2;exact⟨z,by rw[wG hn];exact h4,h5⟩
 |inr b=>obtain⟨z,h4,h5⟩:=k2 hl b q h3 t h2;exact⟨z,by rw[wG hn];exact h4,h5⟩
theorem Yq {f:List U→Heap→Option LS} {K:LS→Option β} {Q:τ→β→Prop} {body:S→Option (Lr S B R)} {s0:S} {K1:B→Option τ} {K2:R→Option τ} {v0:List U} {ay:Heap}
  (I:S→List U→Heap→Prop) (QB:B→LS→Prop) (QR:R→LS→Prop)
  (hstep:∀s v σ,I s v σ→Rf (f v σ) (body s) (G4 I QB QR))
  (h0:I s0 v0 ay) (k1:∀b q,QB b q→Rf (K q) (K1 b) Q) (k2:∀r q,QR r q→Rf (K q) (K2 r) Q):
  Rf ((A.loop f v0 ay).bind K) (E1 body s0 K1 K2) Q:=by
 have key:∀(n:Nat) (s:S) (v:List U) (σ:Heap),I s v σ→∀t,rW body n s=some t→∃q,(∃n,A.iter f n v σ=some q)∧(match t with|.inl b=>QB b q|.inr r=>QR r q):=by
  intro n
  induction n with
  |zero=>intro s v σ hI t ht;cases ht
  |succ n ih=>
   intro s v σ hI t ht
   simp only[rW]at ht
   obtain⟨y,hy,h2⟩:=Option.bind_eq_some_iff.1 ht
   obtain⟨q,h3,h4⟩:=hstep s v σ hI y hy
   obtain⟨e,v',σ'⟩:=q
   cases y with
   |go s'=>
    obtain⟨rfl,Hq⟩:=h4
    obtain⟨q,h5,h6⟩:=ih s' v' σ' Hq t h2
    exact⟨q,wS h3 h5,h6⟩
   |brk b=>simp only[Option.some.injEq]at h2;subst h2;exact⟨_,qC h3 h4.1,h4.2⟩
   |ret b=>simp only[Option.some.injEq]at h2;subst h2;exact⟨_,qC h3 h4.1,h4.2⟩
 intro t ht
 obtain⟨y,hy,h2⟩:=Option.bind_eq_some_iff.1 ht
 obtain⟨n,hn⟩:=Qf hy
 obtain⟨q,⟨m,hm⟩,h3⟩:=key n s0 v0 ay h0 y hn
 cases y with
 |inl b=>obtain⟨z,h4,h5⟩:=k1 b q h3 t h2;exact⟨z,by rw[wG hm];exact h4,h5⟩
 |inr b=>obtain⟨z,h4,h5⟩:=k2 b q h3 t h2;exact⟨z,by rw[wG hm];exact h4,h5⟩
theorem eR {l:List α} {i:Nat} {x:α} (h:l[i]? =some x):A.lss (.int .i64 (i:Int)) (.int .i64 (l.length:Int))=some (.bool true):=by
 have:=(List.getElem?_eq_some_iff.1 h).1
 rw[vC];simp;omega
theorem eO (l:List α):A.lss (.int .i64 (l.length:Int)) (.int .i64 (l.length:Int))=some (.bool false):=by rw[vC];simp
theorem dB {l:List α} {i:Nat} {x:α} (h:l[i]? =some x) (hl:l.length≤aY):A.add (.int .i64 (i:Int)) (.int .i64 1)=some (.int .i64 ((i+1:Nat):Int)):=by
 have:=(List.getElem?_eq_some_iff.1 h).1
 rw[Gu,wrap64 (by unfold aZ;unfold aY at hl;omega)]
 simp
def kf (l:List α) (i:Int):Option α:=if 0≤i then l[i.toNat]? else none
theorem pI {sz:Nat} {c:α→List U} {l:List α} {i:Int} {x:α} (h:kf l i=some x):A.aN sz (sl sz c l) (.int .i64 i)=some (.rp (c x)):=by
 unfold kf at h
 split at h
 ·exact afF sz c l ‹_› h
 ·cases h
theorem dR {sz:Nat} {c:α→List U} {l:List α} {i:Nat} {x:α} (h:l[i]? =some x):A.aN sz (sl sz c l) (.int .i64 (i:Int))=some (.rp (c x)):=jy sz c l h
end
theorem quiet_of {M:Option (U×Heap)} {v:U} {σ:Heap} (h:M=some (v,σ)):A.quiet M σ=some v:=by rw[h,N6]
noncomputable def tq {α:Type} (p:Prop) (x:α):Option α:=open Classical in if p then some x else none
theorem qH {α:Type} {p:Prop} {x:α} (h:p):tq p x=some x:=if_pos h
theorem p5 {α β:Type} {p:Prop} {x r:α} {M:Option β} {e:α→β} (h:p→M=some (e x)) (k:tq p x=some r):M=some (e r):=by
 unfold tq at k
 split at k
 ·rename_i hp;injection k with k;subst k;exact h hp
 ·cases k
theorem iR (b t:Bool):A.pick (.bool b) (bif b then .bool t else .aL []) (.bool false)=some (.bool (b&&t)):=by cases b<;>rfl
theorem pK (b t:Bool):A.pick (.bool b) (.bool true) (bif !b then .bool t else .aL [])=some (.bool (b||t)):=by cases b<;>rfl
section
variable {α β ω τ : Type} {G b : Bool} {M0 : Option U} {K : U → Option β} {T : Option τ} {K' : ω → Option τ} {o : Option ω} {Q : τ → β → Prop}
theorem bh (a:U) (h:b=true→M0=some a) (k:Rf (K (bif b then a else .aL [])) T Q):Rf ((A.guard (.bool b) true M0 (some (.aL []))).bind K) T Q:=by
 refine ak _ ?_ k
 cases b<;>simp_all [A.guard]
theorem eX (a:U) (h:(!b)=true→M0=some a) (k:Rf (K (bif !b then a else .aL [])) T Q):Rf ((A.guard (.bool b) false M0 (some (.aL []))).bind K) T Q:=by
 refine ak _ ?_ k
 cases b<;>simp_all [A.guard]
theorem BY (a:U) (h:(G&&b)=true→M0=some a) (k:Rf (K (bif G&&b then a else .aL [])) T Q):Rf ((A.guard (bif G then .bool b else .aL []) true M0 (some (.aL []))).bind K) T Q:=by
 refine ak _ ?_ k
 cases G<;>cases b<;>simp_all [A.guard]
theorem KQ (a:U) (h:(G&&!b)=true→M0=some a) (k:Rf (K (bif G&&!b then a else .aL [])) T Q):Rf ((A.guard (bif G then .bool b else .aL []) false M0 (some (.aL []))).bind K) T Q:=by
 refine ak _ ?_ k
 cases G<;>cases b<;>simp_all [A.guard]
theorem ajZ {g:Bool} {M:Option U} {d:ω} (e:ω→U) (hM:M=bif g then M0 else some (.aL [])) (h:g=true→∀t,o=some t→M0=some (e t)) (k:∀t,(g=true→o=some t)→Rf (K (bif g then e t else .aL [])) (K' t) Q):Rf (M.bind K) ((if g=true then o else some d).bind K') Q:=by
 subst hM
 cases g
 ·exact k d (by simp)
 ·intro t ht
  simp only[if_true]at ht
  obtain⟨x,h1,h2⟩:=Option.bind_eq_some_iff.1 ht
  obtain⟨y,h3,h4⟩:=k x (fun _=>h1) t h2
  refine⟨y,?_,h4⟩
  simp only[cond_true,h rfl x h1,Option.bind_some]
  exact h3
theorem oz {d:ω} (e:ω→U) (h:b=true→∀t,o=some t→M0=some (e t)) (k:∀t,(b=true→o=some t)→Rf (K (bif b then e t else .aL [])) (K' t) Q):Rf ((A.guard (.bool b) true M0 (some (.aL []))).bind K) ((if b=true then o else some d).bind K') Q:=ajZ e (by cases b<;>rfl) h k
theorem aj6 (b c:Bool):A.eql .b (.bool b) (.bool c)=some (.bool (decide (b=c))):=by cases b<;>cases c<;>rfl
end
theorem PL {ro:Bool} {cB:List Sh} {eo:Sh} {r:List U→Heap→Option (U×Heap)} {args args':List U} {σ:Heap} (hn:A.bY cB args=A.bY cB args') (h1:args.any A.own=false) (h2:args'.any A.own=false):A.wrap ro cB eo r args σ=A.wrap ro cB eo r args' σ:=by
 unfold A.wrap
 rw[h1,h2,hn,Bool.and_false,cond_false,cond_false]
theorem PI {τ:Type} {ro:Bool} {cB:List Sh} {eo:Sh} {r:List U→Heap→Option (U×Heap)} {args args':List U} {σ:Heap} {T:Option τ} {enc:τ→U} (hn:A.bY cB args=args') (h:args.any A.own=false) (e:Rf (r args' σ) T (fun t b=>A.nn eo b.1=enc t∧b.2=σ)):∀t,T=some t→A.wrap ro cB eo r args σ=some (enc t,σ):=by
 intro t ht
 obtain⟨⟨v,σ'⟩,h1,h2,h3⟩:=e t ht
 simp only at h2 h3
 subst h3
 exact wrap_eq h (by rw[hn];exact h1) h2
theorem Aj {τ:Type} {ro:Bool} {cB:List Sh} {eo:Sh} {f:U→Heap→Option (U×Heap)} {x0 y0:U} {σ:Heap} {T:Option τ} {enc:τ→U} (hn:A.bY cB [x0]=[y0]) (h:([x0]:List U).any A.own=false) (e:Rf (f y0 σ) T (fun t b=>A.nn eo b.1=enc t∧b.2=σ)):∀t,T=some t→A.wrap ro cB eo (A.dU f) [x0] σ=some (enc t,σ):=PI hn h e
theorem oo {τ:Type} {ro:Bool} {cB:List Sh} {eo:Sh} {f:U→U→Heap→Option (U×Heap)} {x0 x1 y0 y1:U} {σ:Heap} {T:Option τ} {enc:τ→U} (hn:A.bY cB [x0,x1]=[y0,y1]) (h:([x0,x1]:List U).any A.own=false) (e:Rf (f y0 y1 σ) T (fun t b=>A.nn eo b.1=enc t∧b.2=σ)):∀t,T=some t→A.wrap ro cB eo (A.cM f) [x0,x1] σ=some (enc t,σ):=PI hn h e
theorem Ak {τ:Type} {ro:Bool} {cB:List Sh} {eo:Sh} {f:U→U→U→Heap→Option (U×Heap)} {x0 x1 x2 y0 y1 y2:U} {σ:Heap} {T:Option τ} {enc:τ→U} (hn:A.bY cB [x0,x1,x2]=[y0,y1,y2]) (h:([x0,x1,x2]:List U).any A.own=false) (e:Rf (f y0 y1 y2 σ) T (fun t b=>A.nn eo b.1=enc t∧b.2=σ)):∀t,T=some t→A.wrap ro cB eo (A.eG f) [x0,x1,x2] σ=some (enc t,σ):=PI hn h e
end
end Go.Proofs.YtphgchakmkankaaGreat
