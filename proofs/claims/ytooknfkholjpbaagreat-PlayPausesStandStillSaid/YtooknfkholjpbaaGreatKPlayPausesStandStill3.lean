/- Parts of the proof of PlayPausesStandStill, in order. -/
import Derived.Orders
import Derived.Below
import Derived.WalkKit
import Derived.Laws.StructEq
import Derived.Laws.Append
import Derived.Laws.AppendOwn
import Derived.Test.YtooknfkholjpbaaGreatRows
import Derived.KernelRfl
import Derived.Lib.Bytealg
import Derived.Sort.Defs
import Derived.Lib.BitFns
import Derived.Test.YtooknfkholjpbaaGreatShelf
import Derived.Laws.Externs
import Derived.Lib.Overlaps
import Derived.IntWalk
import Derived.Sort.Statements
import Derived.Shelf.SlSortCmp.WholeK
import Derived.Shelf.SlSortCmp.NoneTotal
import Derived.Sort.AssemblyPlain
import Derived.Test.YtooknfkholjpbaaGreatKPlayPausesStandStill2
namespace Go.Proofs.YtooknfkholjpbaaGreat
set_option linter.unusedVariables false
set_option linter.unusedSimpArgs false
set_option linter.unusedSectionVars false
section
set_option maxRecDepth 100000
noncomputable def N7 (a0:AV) (σ:Heap):Option (AV×Heap):=
 (jC [a0,ah,(AV.int .i64 65535)] σ).bind fun r1=>
 A.fin σ r1.1 r1.2
noncomputable def GN:List AV→Heap→Option (AV×Heap):=A.wrap true [] .k (A.cD N7)
noncomputable def NT (a0:AV) (σ:Heap):Option (AV×Heap):=
 (A.bG a0).bind fun x1=>
 (A.gtr x1 (AV.int .i64 30)).bind fun x2=>
 A.cond x2 (
  A.fin σ (AV.int .i64 2) σ) (
  (A.bG a0).bind fun x3=>
  (A.loop (fun v4 s5=>
    (A.lss (v4.getD 1 AV.undef) x3).bind fun x7=>
    A.cond x7 (
     (A.aU 3 a0 (v4.getD 1 AV.undef)).bind fun x8=>
     ((A.deref x8 s5).bind fun c9=>A.ay 0 3 c9).bind fun bJ=>
     (A.cells 3 bJ).bind fun gh=>
     (A.splice 0 gh [ah,ah,br]).bind fun eo=>
     (A.aj 0 eo).bind fun dr=>
     (GN [dr] s5).bind fun jd=>
     (A.not jd.1).bind fun cU=>
     (A.guard cU false (A.aj 1 eo) an).bind fun cz=>
     (A.guard cU false (A.quiet (GN [cz] jd.2) jd.2) an).bind fun cG=>
     (A.guard cU false (A.not cG) an).bind fun bK=>
     (A.pick cU cL bK).bind fun cW=>
     (A.guard cW false (A.aj 0 eo) an).bind fun dg=>
     (A.guard cW false (A.aj 1 eo) an).bind fun bM=>
     (A.guard cW false (A.gtr dg bM) an).bind fun dh=>
     (A.pick cW cL dh).bind fun eP=>
     A.cond eP (
      some (AX.ret,[aG,(v4.getD 1 AV.undef)],jd.2)) (
      (A.gtr (v4.getD 1 AV.undef) ah).bind fun x24=>
      (A.guard x24 true (A.aj 0 eo) an).bind fun x25=>
      (A.guard x24 true (some a0) an).bind fun fC=>
      (A.guard x24 true (some (v4.getD 1 AV.undef)) an).bind fun dK=>
      (A.guard x24 true (A.sub dK aG) an).bind fun x28=>
      (A.guard x24 true (A.aU 3 fC x28) an).bind fun x29=>
      (A.guard x24 true (A.aA 1 x29) an).bind fun cH=>
      (A.guard x24 true ((A.deref cH jd.2).bind fun vC=>A.aj 0 vC) an).bind fun x32=>
      (A.guard x24 true (A.leq x25 x32) an).bind fun ey=>
      (A.pick x24 ey aM).bind fun x34=>
      A.cond x34 (
       some (AX.ret,[(AV.int .i64 7),(v4.getD 1 AV.undef)],jd.2)) (
       (A.aj 2 eo).bind fun gn=>
       (E5 [gn] jd.2).bind fun Jx=>
       (A.not Jx.1).bind fun bU=>
       A.cond bU (
        some (AX.ret,[(AV.int .i64 5),(v4.getD 1 AV.undef)],Jx.2)) (
        (A.aj 2 eo).bind fun x38=>
        (A.look .z (AV.om σ.length) x38 aM Jx.2).bind fun ff=>
        A.cond ff (
         some (AX.ret,[(AV.int .i64 6),(v4.getD 1 AV.undef)],Jx.2)) (
         (A.aj 2 eo).bind fun cZ=>
         (A.ew .z (AV.om σ.length) cZ cL Jx.2).bind fun h41=>
         (A.add (v4.getD 1 AV.undef) aG).bind fun ga=>
         some (AX.normal,[(v4.getD 0 AV.undef),ga],h41)))))) (
     some (AX.exit 0,[(v4.getD 0 AV.undef),(v4.getD 1 AV.undef)],s5))) [ah,ah] (σ++[aJ.map []])).bind fun iS=>
  bif iS.1==AX.exit 0 then(
   A.fin σ ah iS.2.2)else
  bif iS.1==AX.ret then(
   A.fin σ (iS.2.1.getD 0 AV.undef) iS.2.2)else
  none)
noncomputable def NS:List AV→Heap→Option (AV×Heap):=A.wrap true [(.s 3)] .k (A.cD NT)
noncomputable def NP (a0:AV) (σ:Heap):Option (AV×Heap):=
 (A.cells 3 a0).bind fun c1=>
 (A.aj 0 c1).bind fun x2=>
 (E5 [x2] σ).bind fun r3=>
 (A.not r3.1).bind fun x4=>
 A.cond x4 (
  A.fin σ (AV.int .i64 5) r3.2) (
  (A.aj 1 c1).bind fun x5=>
  (jC [x5,aG,(AV.int .i64 512)] r3.2).bind fun r6=>
  (A.not r6.1).bind fun x7=>
  A.cond x7 (
   A.fin σ aG r6.2) (
   (A.aj 2 c1).bind fun x8=>
   (A.bG x8).bind fun x9=>
   (A.eql .i x9 ah).bind fun bJ=>
   A.cond bJ (
    A.fin σ (AV.int .i64 8) r6.2) (
    (A.aj 2 c1).bind fun bT=>
    (A.bG bT).bind fun cO=>
    (A.gtr cO (AV.int .i64 40)).bind fun dr=>
    A.cond dr (
     A.fin σ (AV.int .i64 2) r6.2) (
     (A.aj 2 c1).bind fun dc=>
     (A.bG dc).bind fun cU=>
     (A.loop (fun aX kS=>
       (A.lss (aX.getD 2 AV.undef) cU).bind fun cW=>
       A.cond cW (
        (A.aU 7 dc (aX.getD 2 AV.undef)).bind fun dg=>
        ((A.deref dg kS).bind fun kC=>A.ay 0 7 kC).bind fun dh=>
        (A.cells 7 dh).bind fun eF=>
        (A.splice 0 eF [br,ah,ah,ah,ah,aM,AV.au]).bind fun gr=>
        (A.aj 0 gr).bind fun x25=>
        (E5 [x25] kS).bind fun kn=>
        (A.not kn.1).bind fun dK=>
        A.cond dK (
         some (AX.ret,[(aX.getD 0 AV.undef),(AV.int .i64 5),(aX.getD 2 AV.undef)],kn.2)) (
         (A.aj 0 gr).bind fun x28=>
         (A.look .z (AV.om r6.2.length) x28 aM kn.2).bind fun x29=>
         A.cond x29 (
          some (AX.ret,[(aX.getD 0 AV.undef),(AV.int .i64 6),(aX.getD 2 AV.undef)],kn.2)) (
          (A.aj 1 gr).bind fun cH=>
          (jC [cH,aG,(AV.int .i64 4)] kn.2).bind fun sD=>
          (A.not sD.1).bind fun x32=>
          A.cond x32 (
           some (AX.ret,[(aX.getD 0 AV.undef),(AV.int .i64 4),(aX.getD 2 AV.undef)],sD.2)) (
           (A.aj 2 gr).bind fun ey=>
           ((A.lb (aX.getD 0 AV.undef)).bind fun _=>some (1)).bind fun xI=>
           ((A.lb (aX.getD 0 AV.undef)).bind fun gX=>A.aj xI gX).bind fun gI=>
           (jC [ey,aG,gI] sD.2).bind fun mg=>
           (A.not mg.1).bind fun x38=>
           (A.guard x38 false (A.aj 3 gr) an).bind fun ff=>
           ((A.lb (aX.getD 0 AV.undef)).bind fun _=>some (1)).bind fun p40=>
                      (A.guard x38 false ((A.lb (aX.getD 0 AV.undef)).bind fun uq=>A.aj p40 uq) an).bind fun ga=>
           (A.guard x38 false (A.quiet (jC [ff,ah,ga] mg.2) mg.2) an).bind fun fJ=>
           (A.guard x38 false (A.not fJ) an).bind fun eR=>
           (A.pick x38 cL eR).bind fun ef=>
           (A.guard ef false (A.aj 4 gr) an).bind fun fK=>
           (A.guard ef false (A.quiet (GN [fK] mg.2) mg.2) an).bind fun iJ=>
           (A.guard ef false (A.not iJ) an).bind fun ig=>
           (A.pick ef cL ig).bind fun eA=>
           A.cond eA (
            some (AX.ret,[(aX.getD 0 AV.undef),aG,(aX.getD 2 AV.undef)],mg.2)) (
            (A.aj 2 gr).bind fun mO=>
            (A.aj 3 gr).bind fun gP=>
            (A.eql .i mO gP).bind fun eB=>
            (A.guard eB false (some (AV.om (r6.2++[aJ.map []]).length)) an).bind fun gQ=>
            (A.guard eB false (A.aj 2 gr) an).bind fun gy=>
            (A.guard eB false (A.look .i gQ gy aM mg.2) an).bind fun kL=>
            (A.pick eB cL kL).bind fun gz=>
            (A.guard gz false (A.aj 3 gr) an).bind fun jJ=>
            (A.guard gz false (A.gtr jJ ah) an).bind fun gA=>
            (A.guard gz false (some gA) an).bind fun eG=>
            (A.guard eG true (some (AV.om (r6.2++[aJ.map []]).length)) an).bind fun gE=>
            (A.guard eG true (A.aj 3 gr) an).bind fun iT=>
            (A.guard eG true (A.look .i gE iT aM mg.2) an).bind fun eS=>
            (A.guard gz false (A.pick eG eS aM) an).bind fun fD=>
            (A.pick gz cL fD).bind fun lC=>
            A.cond lC (
             some (AX.ret,[(aX.getD 0 AV.undef),(AV.int .i64 12),(aX.getD 2 AV.undef)],mg.2)) (
             (A.aj 6 gr).bind fun iK=>
             (NS [iK] mg.2).bind fun GC=>
             (A.neq .i GC.1 ah).bind fun jy=>
             A.cond jy (
              some (AX.ret,[(aX.getD 0 AV.undef),GC.1,(aX.getD 2 AV.undef)],GC.2)) (
              (A.aj 0 gr).bind fun gJ=>
              (A.aj 2 gr).bind fun fk=>
              (A.ew .z (AV.om r6.2.length) gJ cL GC.2).bind fun h70=>
              (A.ew .i (AV.om (r6.2++[aJ.map []]).length) fk cL h70).bind fun M8=>
              (A.aj 3 gr).bind fun oa=>
              (A.gtr oa ah).bind fun ij=>
              (A.cond ij (
               (A.aj 3 gr).bind fun eC=>
               (A.ew .i (AV.om (r6.2++[aJ.map []]).length) eC cL M8).bind fun h76=>
               some ([(aX.getD 0 AV.undef)],h76)) (
               some ([(aX.getD 0 AV.undef)],M8))).bind fun r74=>
              (A.add (aX.getD 2 AV.undef) aG).bind fun xW=>
              some (AX.normal,[(r74.1.getD 0 AV.undef),(aX.getD 1 AV.undef),xW],r74.2)))))))) (
        some (AX.exit 1,[(aX.getD 0 AV.undef),(aX.getD 1 AV.undef),(aX.getD 2 AV.undef)],kS))) [(AV.lbx c1),ah,ah] ((r6.2++[aJ.map []])++[aJ.map []])).bind fun vN=>
     bif vN.1==AX.exit 1 then(
      A.fin σ ah vN.2.2)else
     bif vN.1==AX.ret then(
      A.fin σ (vN.2.1.getD 1 AV.undef) vN.2.2)else
     none))))
noncomputable def NN:List AV→Heap→Option (AV×Heap):=A.wrap true [(.a [.k,.k,(.s 7)])] .k (A.cD NP)
noncomputable def NO (a0:AV) (σ:Heap):Option (AV×Heap):=
 (A.bG a0).bind fun x1=>
 (A.gtr x1 (AV.int .i64 60)).bind fun x2=>
 A.cond x2 (
  A.fin σ (AV.int .i64 2) σ) (
  (A.bG a0).bind fun x3=>
  (A.loop (fun v4 s5=>
    (A.lss (v4.getD 1 AV.undef) x3).bind fun x7=>
    A.cond x7 (
     (A.aU 3 a0 (v4.getD 1 AV.undef)).bind fun x8=>
     ((A.deref x8 s5).bind fun c9=>A.ay 0 3 c9).bind fun bJ=>
     (A.cells 3 bJ).bind fun gh=>
     (A.splice 0 gh [br,ah,AV.au]).bind fun eo=>
     (A.ay 0 3 eo).bind fun dr=>
     (NN [dr] s5).bind fun jd=>
     (A.neq .i jd.1 ah).bind fun cU=>
     A.cond cU (
      some (AX.ret,[jd.1,(v4.getD 1 AV.undef)],jd.2)) (
      (A.aj 0 eo).bind fun cz=>
      (A.look .z (AV.om σ.length) cz aM jd.2).bind fun cG=>
      A.cond cG (
       some (AX.ret,[(AV.int .i64 6),(v4.getD 1 AV.undef)],jd.2)) (
       (A.aj 0 eo).bind fun bK=>
       (A.ew .z (AV.om σ.length) bK cL jd.2).bind fun h19=>
       (A.add (v4.getD 1 AV.undef) aG).bind fun dg=>
       some (AX.normal,[(v4.getD 0 AV.undef),dg],h19)))) (
     some (AX.exit 0,[(v4.getD 0 AV.undef),(v4.getD 1 AV.undef)],s5))) [ah,ah] (σ++[aJ.map []])).bind fun Jv=>
  bif Jv.1==AX.exit 0 then(
   A.fin σ ah Jv.2.2)else
  bif Jv.1==AX.ret then(
   A.fin σ (Jv.2.1.getD 0 AV.undef) Jv.2.2)else
  none)
noncomputable def NM:List AV→Heap→Option (AV×Heap):=A.wrap true [(.s 3)] .k (A.cD NO)
noncomputable def NU (a0 a1:AV) (σ:Heap):Option (AV×Heap):=
 (A.cells 3 a0).bind fun c1=>
 (A.aj 0 c1).bind fun x2=>
 ((A.deref a1 σ).bind fun c3=>A.aj 0 c3).bind fun x4=>
 (A.eql .z x2 x4).bind fun x5=>
 A.fin σ x5 σ
noncomputable def GK:List AV→Heap→Option (AV×Heap):=A.wrap true [(.a [.k,.k,(.s 7)])] .k (A.cR NU)
noncomputable def Kl (a0 a1:AV) (σ:Heap):Option (AV×Heap):=
 (((A.cell a1).bind fun v=>some [v]).bind fun cs=>some (AV.rp cs)).bind fun x1=>
 (JW (A.tab (fun _ _=>none) [(64,GK)]) [a0,(AV.fn 64 [x1])] σ).bind fun r2=>
 (A.lss r2.1 ah).bind fun x3=>
 A.cond x3 (
  (A.cells 3 (AV.agg [br,ah,AV.au])).bind fun c4=>
  (A.splice 0 c4 [br,ah,AV.au]).bind fun c5=>
  (A.ay 0 3 c5).bind fun x6=>
  A.fin σ (AV.aH [x6,aM]) r2.2) (
  (A.aU 3 a0 r2.1).bind fun x7=>
  ((A.deref x7 r2.2).bind fun c8=>A.ay 0 3 c8).bind fun x9=>
  (A.cells 3 x9).bind fun dY=>
  (A.splice 0 dY [br,ah,AV.au]).bind fun gh=>
  (A.ay 0 3 gh).bind fun cO=>
  A.fin σ (AV.aH [cO,cL]) r2.2)
noncomputable def Kh:List AV→Heap→Option (AV×Heap):=A.wrap true [(.s 3)] (.t [(.a Dq),.k]) (A.cR Kl)
noncomputable def GL (a0 a1 a2:AV) (σ:Heap):Option (AV×Heap):=
 (A.eql .p a0 AV.np).bind fun x1=>
 A.cond x1 (
  (A.add a1 a2).bind fun x2=>
  (A.sub x2 aG).bind fun x3=>
  (A.leq x3 (AV.int .i64 512)).bind fun x4=>
  A.fin σ x4 σ) (
  (A.loop (fun v5 s6=>
    (A.add a1 a2).bind fun x8=>
    (A.lss (v5.getD 1 AV.undef) x8).bind fun x9=>
    A.cond x9 (
     (A.gtr (v5.getD 1 AV.undef) (AV.int .i64 512)).bind fun bJ=>
     (A.guard bJ false (some a0) an).bind fun bT=>
     (A.guard bJ false (some (v5.getD 1 AV.undef)) an).bind fun cO=>
     (A.guard bJ false (A.aL bT) an).bind fun dr=>
     (A.guard bJ false (A.yF 513 1 dr cO) an).bind fun dc=>
     (A.guard bJ false ((A.deref dc s6).bind fun lH=>A.aj 0 lH) an).bind fun cz=>
     (A.pick bJ cL cz).bind fun cG=>
     A.cond cG (
      some (AX.ret,[aM,(v5.getD 1 AV.undef)],s6)) (
      (A.add (v5.getD 1 AV.undef) aG).bind fun bK=>
      some (AX.normal,[(v5.getD 0 AV.undef),bK],s6))) (
     some (AX.exit 0,[(v5.getD 0 AV.undef),(v5.getD 1 AV.undef)],s6))) [aM,a1] σ).bind fun kI=>
  bif kI.1==AX.exit 0 then(
   A.fin σ cL kI.2.2)else
  bif kI.1==AX.ret then(
   A.fin σ (kI.2.1.getD 0 AV.undef) kI.2.2)else
  none)
noncomputable def EJ:List AV→Heap→Option (AV×Heap):=A.wrap true [] .k (A.lG GL)
noncomputable def GX (a0 a1 a2:AV) (σ:Heap):Option (AV×Heap):=
 (A.cells 4 a1).bind fun c1=>
 (A.aj 2 c1).bind fun x2=>
 (A.look .i a0 x2 AV.np σ).bind fun x3=>
 (A.eql .p x3 AV.np).bind fun x4=>
 (A.cond x4 (
  (A.aj 2 c1).bind fun x6=>
  (A.ew .i a0 x6 (AV.op σ.length 0) (σ++[aJ.box (List.replicate 513 aM)])).bind fun h7=>
  some ([(AV.lbx c1)],h7)) (
  some ([(AV.lbx c1)],σ))).bind fun r5=>
 ((A.lb (r5.1.getD 0 AV.undef)).bind fun _=>some (3)).bind fun p8=>
 ((A.lb (r5.1.getD 0 AV.undef)).bind fun c9=>A.aj p8 c9).bind fun bJ=>
 (A.loop (fun v11 kK=>
   ((A.lb (v11.getD 0 AV.undef)).bind fun _=>some (3)).bind fun p14=>
   ((A.lb (v11.getD 0 AV.undef)).bind fun lH=>A.aj p14 lH).bind fun cz=>
   (A.add cz a2).bind fun cG=>
   (A.lss (v11.getD 1 AV.undef) cG).bind fun bK=>
   A.cond bK (
    ((A.lb (v11.getD 0 AV.undef)).bind fun _=>some (2)).bind fun p19=>
    ((A.lb (v11.getD 0 AV.undef)).bind fun iz=>A.aj p19 iz).bind fun bM=>
    (A.look .i a0 bM AV.np kK).bind fun dh=>
    (A.aL dh).bind fun eP=>
    (A.yF 513 1 eP (v11.getD 1 AV.undef)).bind fun x24=>
    ((A.cell cL).bind fun v=>some [v]).bind fun gO=>
    (A.storeAt x24 gO kK).bind fun fM=>
    (A.add (v11.getD 1 AV.undef) aG).bind fun dK=>
    some (AX.normal,[(v11.getD 0 AV.undef),dK],fM)) (
    some (AX.exit 0,[(v11.getD 0 AV.undef),(v11.getD 1 AV.undef)],kK))) [(r5.1.getD 0 AV.undef),bJ] r5.2).bind fun sC=>
 bif sC.1==AX.exit 0 then(
  some ((AV.aH []),sC.2.2))else
 none
noncomputable def Ko:List AV→Heap→Option (AV×Heap):=A.wrap false [] .k (A.lG GX)
noncomputable def N2 (a0:AV) (σ:Heap):Option (AV×Heap):=
 (A.cells 2 a0).bind fun c1=>
 (A.aj 0 c1).bind fun x2=>
 (NM [x2] σ).bind fun r3=>
 (A.neq .i r3.1 ah).bind fun x4=>
 A.cond x4 (
  A.fin σ r3.1 r3.2) (
  (A.aj 1 c1).bind fun x5=>
  (A.bG x5).bind fun x6=>
  (A.gtr x6 (AV.int .i64 400)).bind fun x7=>
  A.cond x7 (
   A.fin σ (AV.int .i64 2) r3.2) (
   (A.aj 1 c1).bind fun x8=>
   (A.bG x8).bind fun x9=>
   (A.loop (fun v10 tG=>
     (A.lss (v10.getD 2 AV.undef) x9).bind fun dr=>
     A.cond dr (
      (A.aU 4 x8 (v10.getD 2 AV.undef)).bind fun dc=>
      ((A.deref dc tG).bind fun lH=>A.ay 0 4 lH).bind fun cz=>
      (A.cells 4 cz).bind fun mF=>
      (A.splice 0 mF [ah,br,ah,ah]).bind fun iZ=>
      (A.aj 0 iZ).bind fun cW=>
      (jC [cW,aG,(AV.int .i64 9999)] tG).bind fun A9=>
      (A.not A9.1).bind fun bM=>
      A.cond bM (
       some (AX.ret,[(v10.getD 0 AV.undef),aG,(v10.getD 2 AV.undef)],A9.2)) (
       (A.gtr (v10.getD 2 AV.undef) ah).bind fun dh=>
       (A.guard dh true (A.aj 0 iZ) an).bind fun eP=>
       ((A.lb (v10.getD 0 AV.undef)).bind fun _ => some (1)).bind fun p24 =>
              (A.guard dh true ((A.lb (v10.getD 0 AV.undef)).bind fun gO=>A.aj p24 gO) an).bind fun fC=>
       (A.guard dh true (some (v10.getD 2 AV.undef)) an).bind fun dK=>
       (A.guard dh true (A.sub dK aG) an).bind fun x28=>
       (A.guard dh true (A.aU 4 fC x28) an).bind fun x29=>
       (A.guard dh true (A.aA 0 x29) an).bind fun cH=>
       (A.guard dh true ((A.deref cH A9.2).bind fun vC=>A.aj 0 vC) an).bind fun x32=>
       (A.guard dh true (A.leq eP x32) an).bind fun ey=>
       (A.pick dh ey aM).bind fun x34=>
       A.cond x34 (
        some (AX.ret,[(v10.getD 0 AV.undef),(AV.int .i64 7),(v10.getD 2 AV.undef)],A9.2)) (
        ((A.lb (v10.getD 0 AV.undef)).bind fun _=>some (0)).bind fun p35=>
        ((A.lb (v10.getD 0 AV.undef)).bind fun gY=>A.aj p35 gY).bind fun bU=>
        (A.aj 1 iZ).bind fun x38=>
        (Kh [bU,x38] A9.2).bind fun Nq=>
        (A.ext 0 Nq.1).bind fun cZ=>
        (A.ext 1 Nq.1).bind fun dW=>
        (A.cells 3 cZ).bind fun lR=>
        (A.splice 0 lR [br,ah,AV.au]).bind fun pQ=>
        (A.not dW).bind fun eR=>
        A.cond eR (
         some (AX.ret,[(v10.getD 0 AV.undef),(AV.int .i64 5),(v10.getD 2 AV.undef)],Nq.2)) (
         (A.aj 2 iZ).bind fun ef=>
         (jC [ef,aG,(AV.int .i64 64)] Nq.2).bind fun n5=>
         (A.not n5.1).bind fun iJ=>
         (A.guard iJ false (A.aj 3 iZ) an).bind fun ig=>
         (A.guard iJ false (A.quiet (jC [ig,aG,(AV.int .i64 512)] n5.2) n5.2) an).bind fun eA=>
         (A.guard iJ false (A.not eA) an).bind fun mO=>
         (A.pick iJ cL mO).bind fun gP=>
         (A.guard gP false (A.aj 3 iZ) an).bind fun eB=>
         (A.guard gP false (A.aj 1 pQ) an).bind fun gQ=>
         (A.guard gP false (A.add eB gQ) an).bind fun gy=>
         (A.guard gP false (A.sub gy aG) an).bind fun kL=>
         (A.guard gP false (A.gtr kL (AV.int .i64 512)) an).bind fun gz=>
         (A.pick gP cL gz).bind fun jJ=>
         A.cond jJ (
          some (AX.ret,[(v10.getD 0 AV.undef),aG,(v10.getD 2 AV.undef)],n5.2)) (
          (A.aj 2 iZ).bind fun gA=>
          (A.look .i (AV.om r3.2.length) gA AV.np n5.2).bind fun eG=>
          (A.aj 3 iZ).bind fun gE=>
          (A.aj 1 pQ).bind fun iT=>
          (EJ [eG,gE,iT] n5.2).bind fun TZ=>
          (A.not TZ.1).bind fun fD=>
          A.cond fD (
           some (AX.ret,[(v10.getD 0 AV.undef),(AV.int .i64 12),(v10.getD 2 AV.undef)],TZ.2)) (
           (A.ay 0 4 iZ).bind fun lC=>
           (A.aj 1 pQ).bind fun iK=>
           (Ko [(AV.om r3.2.length),lC,iK] TZ.2).bind fun GC=>
           (A.add (v10.getD 2 AV.undef) aG).bind fun jy=>
           some (AX.normal,[(v10.getD 0 AV.undef),(v10.getD 1 AV.undef),jy],GC.2))))))) (
      some (AX.exit 0,[(v10.getD 0 AV.undef),(v10.getD 1 AV.undef),(v10.getD 2 AV.undef)],tG))) [(AV.lbx c1),ah,ah] (r3.2++[aJ.map []])).bind fun Bb=>
   bif Bb.1==AX.exit 0 then(
    A.fin σ ah Bb.2.2)else
   bif Bb.1==AX.ret then(
    A.fin σ (Bb.2.1.getD 1 AV.undef) Bb.2.2)else
   none))
noncomputable def J9:List AV→Heap→Option (AV×Heap):=A.wrap true [(.a [(.s 3),(.s 4)])] .k (A.cD N2)
noncomputable def GW (a0:AV) (σ:Heap):Option (AV×Heap):=
 (A.cells 2 a0).bind fun c1=>
 (A.ay 0 2 c1).bind fun x2=>
 (J9 [x2] σ).bind fun r3=>
 (A.neq .i r3.1 ah).bind fun x4=>
 A.cond x4 (
  A.fin σ (AV.aH [AV.au,r3.1]) r3.2) (
  (A.aj 1 c1).bind fun x5=>
  (A.bG x5).bind fun x6=>
  (A.loop (fun v7 s8=>
    (A.lss (v7.getD 2 AV.undef) x6).bind fun bJ=>
    A.cond bJ (
     (A.aU 4 x5 (v7.getD 2 AV.undef)).bind fun bT=>
     ((A.deref bT s8).bind fun eo=>A.ay 0 4 eo).bind fun dr=>
     (A.cells 4 dr).bind fun jP=>
     (A.splice 0 jP [ah,br,ah,ah]).bind fun lH=>
     ((A.lb (v7.getD 0 AV.undef)).bind fun _=>some (0)).bind fun p16=>
     ((A.lb (v7.getD 0 AV.undef)).bind fun mF=>A.aj p16 mF).bind fun bK=>
     (A.aj 1 lH).bind fun cW=>
     (Kh [bK,cW] s8).bind fun A9=>
     (A.ext 0 A9.1).bind fun bM=>
     (A.ext 1 A9.1).bind fun dh=>
     (A.cells 3 bM).bind fun eF=>
     (A.splice 0 eF [br,ah,AV.au]).bind fun gr=>
     (A.aj 2 gr).bind fun x25=>
     (A.bG x25).bind fun fC=>
     (A.loop (fun vP T5=>
       (A.lss (vP.getD 3 AV.undef) fC).bind fun cH=>
       A.cond cH (
        (A.aU 7 x25 (vP.getD 3 AV.undef)).bind fun x31=>
        ((A.deref x31 T5).bind fun Tg=>A.ay 0 7 Tg).bind fun ey=>
        (A.cells 7 ey).bind fun sv=>
        (A.splice 0 sv [br,ah,ah,ah,ah,aM,AV.au]).bind fun gX=>
        ((A.lb (vP.getD 2 AV.undef)).bind fun _=>some (0)).bind fun TV=>
        ((A.lb (vP.getD 2 AV.undef)).bind fun fA=>A.aj TV fA).bind fun x38=>
        (A.aj 0 gX).bind fun ff=>
        ((((A.cell x38).bind fun v=>some [v]).bind fun yT=>(A.splice 0 yT [ah,br]).bind fun uq=>((A.cell ff).bind fun v=>some [v]).bind fun lR=>(A.splice 1 lR uq).bind fun pQ=>some pQ).bind fun cs=>some (AV.agg cs)).bind fun eR=>
        (((A.cells 2 eR).bind fun xu=>(A.splice 0 xu [ah,br]).bind fun D7=>some D7).bind fun cs=>some (AV.sl 2 (chunks 2 1 cs))).bind fun iJ=>
        (A.append 2 (140737488355328 / 24) (vP.getD 1 AV.undef) iJ T5).bind fun kJ=>
        (A.add (vP.getD 3 AV.undef) aG).bind fun eA=>
        some (AX.normal,[(vP.getD 0 AV.undef),kJ.1,(vP.getD 2 AV.undef),eA],kJ.2)) (
        some (AX.exit 2,[(vP.getD 0 AV.undef),(vP.getD 1 AV.undef),(vP.getD 2 AV.undef),(vP.getD 3 AV.undef)],T5))) [(v7.getD 0 AV.undef),(v7.getD 1 AV.undef),(AV.lbx lH),ah] A9.2).bind fun cE=>
     bif cE.1==AX.exit 2 then(
      (A.add (v7.getD 2 AV.undef) aG).bind fun gP=>
      some (AX.normal,[(cE.2.1.getD 0 AV.undef),(cE.2.1.getD 1 AV.undef),gP],cE.2.2))else
     none) (
     some (AX.exit 0,[(v7.getD 0 AV.undef),(v7.getD 1 AV.undef),(v7.getD 2 AV.undef)],s8))) [(AV.lbx c1),AV.au,ah] r3.2).bind fun zb=>
  bif zb.1==AX.exit 0 then(
   A.fin σ (AV.aH [(zb.2.1.getD 1 AV.undef),ah]) zb.2.2)else
  none)
noncomputable def ET:List AV→Heap→Option (AV×Heap):=A.wrap true [(.a [(.s 3),(.s 4)])] (.t [(.s 2),.k]) (A.cD GW)
end
def G3:List AV→Heap→Option (AV×Heap):=A.cR fun a b σ=>match a,b with
 |.int .u64 x,.int .u64 y=>if 0≤x∧x<18446744073709551616∧0≤y∧y<18446744073709551616 then some (.aH [.int .u64 ((x.toNat*y.toNat / 18446744073709551616:Nat):Int),.int .u64 ((x.toNat*y.toNat % 18446744073709551616:Nat):Int)],σ)else none
 |_,_=>none
def EZ:List AV→Heap→Option (AV×Heap):=A.lG fun a b c σ=>match a,b,c with
 |.int .u64 x,.int .u64 y,.int .u64 c=>if 0≤x∧x<18446744073709551616∧0≤y∧y<18446744073709551616∧0≤c∧c≤1 then some (.aH [.int .u64 (((x.toNat+y.toNat+c.toNat) % 18446744073709551616:Nat):Int),.int .u64 (((x.toNat+y.toNat+c.toNat) / 18446744073709551616:Nat):Int)],σ)else none
 |_,_,_=>none
section
set_option maxRecDepth 100000
noncomputable def N3 (a0:AV) (σ:Heap):Option (AV×Heap):=
 (A.cells 2 a0).bind fun c1=>
 (A.aj 0 c1).bind fun x2=>
 (jC [x2,aG,(AV.int .i64 6)] σ).bind fun r3=>
 (A.not r3.1).bind fun x4=>
 A.cond x4 (
  A.fin σ (AV.int .i64 4) r3.2) (
  (A.aj 1 c1).bind fun x5=>
  (A.aj 0 c1).bind fun x6=>
  (A.neq .i x6 (AV.int .i64 6)).bind fun x7=>
  A.cond x7 (
   (A.bG x5).bind fun x8=>
   (A.gtr x8 ah).bind fun x9=>
   (rD [x9,(AV.int .i64 3)] r3.2).bind fun jm=>
   A.fin σ jm.1 jm.2) (
   (A.bG x5).bind fun bT=>
   (A.lss bT (AV.int .i64 2)).bind fun cO=>
   A.cond cO (
    A.fin σ (AV.int .i64 8) r3.2) (
    (A.bG x5).bind fun dr=>
    (A.gtr dr (AV.int .i64 20)).bind fun dc=>
    A.cond dc (
     A.fin σ (AV.int .i64 2) r3.2) (
     (A.bG x5).bind fun cU=>
     (A.loop (fun aX kS=>
       (A.lss (aX.getD 1 AV.undef) cU).bind fun cW=>
       A.cond cW (
        (A.aU 2 x5 (aX.getD 1 AV.undef)).bind fun dg=>
        ((A.deref dg kS).bind fun kC=>A.ay 0 2 kC).bind fun dh=>
        (A.cells 2 dh).bind fun eF=>
        (A.splice 0 eF [ah,ah]).bind fun gr=>
        (A.aj 0 gr).bind fun x25=>
        (jC [x25,ah,(AV.int .i64 1000)] kS).bind fun kn=>
        (A.not kn.1).bind fun dK=>
        (A.guard dK false (A.aj 1 gr) an).bind fun x28=>
        (A.guard dK false (A.quiet (jC [x28,ah,(AV.int .i64 1000)] kn.2) kn.2) an).bind fun x29=>
        (A.guard dK false (A.not x29) an).bind fun cH=>
        (A.pick dK cL cH).bind fun x31=>
        A.cond x31 (
         some (AX.ret,[aG,(aX.getD 1 AV.undef)],kn.2)) (
         (A.add (aX.getD 1 AV.undef) aG).bind fun x32=>
         some (AX.normal,[(aX.getD 0 AV.undef),x32],kn.2))) (
        some (AX.exit 0,[(aX.getD 0 AV.undef),(aX.getD 1 AV.undef)],kS))) [ah,ah] r3.2).bind fun qY=>
     bif qY.1==AX.exit 0 then(
      (A.aU 2 x5 ah).bind fun x34=>
      ((A.deref x34 qY.2.2).bind fun gX=>A.ay 0 2 gX).bind fun gI=>
      (A.neq (.s [0,0]) gI (AV.agg [ah,ah])).bind fun bU=>
      (A.guard bU false (some x5) an).bind fun x38=>
      (A.guard bU false (some x5) an).bind fun ff=>
      (A.guard bU false (A.bG ff) an).bind fun cZ=>
      (A.guard bU false (A.sub cZ aG) an).bind fun dW=>
      (A.guard bU false (A.aU 2 x38 dW) an).bind fun ga=>
      (A.guard bU false ((A.deref ga qY.2.2).bind fun pQ=>A.ay 0 2 pQ) an).bind fun eR=>
      (A.guard bU false ((((A.cell (AV.int .i64 1000)).bind fun v=>some [v]).bind fun xu=>(A.splice 0 xu [ah,ah]).bind fun D7=>((A.cell (AV.int .i64 1000)).bind fun v=>some [v]).bind fun gZ=>(A.splice 1 gZ D7).bind fun mG=>some mG).bind fun cs=>some (AV.agg cs)) an).bind fun eA=>
      (A.guard bU false (A.neq (.s [0,0]) eR eA) an).bind fun mO=>
      (A.pick bU cL mO).bind fun gP=>
      A.cond gP (
       A.fin σ (AV.int .i64 3) qY.2.2) (
       (A.loop (fun zi Ez=>
         (A.bG x5).bind fun kL=>
         (A.lss (zi.getD 1 AV.undef) kL).bind fun gz=>
         A.cond gz (
          (A.aU 2 x5 (zi.getD 1 AV.undef)).bind fun jJ=>
          (A.aA 0 jJ).bind fun gA=>
          ((A.deref gA Ez).bind fun Th=>A.aj 0 Th).bind fun gE=>
          (A.sub (zi.getD 1 AV.undef) aG).bind fun iT=>
          (A.aU 2 x5 iT).bind fun eS=>
          (A.aA 0 eS).bind fun fD=>
          ((A.deref fD Ez).bind fun pS=>A.aj 0 pS).bind fun iK=>
          (A.leq gE iK).bind fun fP=>
          (A.guard fP false (some x5) an).bind fun jy=>
          (A.guard fP false (some (zi.getD 1 AV.undef)) an).bind fun gJ=>
          (A.guard fP false (A.aU 2 jy gJ) an).bind fun fk=>
          (A.guard fP false (A.aA 1 fk) an).bind fun eT=>
          (A.guard fP false ((A.deref eT Ez).bind fun lI=>A.aj 0 lI) an).bind fun oa=>
          (A.guard fP false (some x5) an).bind fun ij=>
          (A.guard fP false (some (zi.getD 1 AV.undef)) an).bind fun iq=>
          (A.guard fP false (A.sub iq aG) an).bind fun eC=>
          (A.guard fP false (A.aU 2 ij eC) an).bind fun jf=>
          (A.guard fP false (A.aA 1 jf) an).bind fun xW=>
          (A.guard fP false ((A.deref xW Ez).bind fun nU=>A.aj 0 nU) an).bind fun jS=>
          (A.guard fP false (A.lss oa jS) an).bind fun fT=>
          (A.pick fP cL fT).bind fun p6=>
          A.cond p6 (
           some (AX.ret,[(AV.int .i64 7),(zi.getD 1 AV.undef)],Ez)) (
           (A.add (zi.getD 1 AV.undef) aG).bind fun p7=>
           some (AX.normal,[(zi.getD 0 AV.undef),p7],Ez))) (
          some (AX.exit 2,[(zi.getD 0 AV.undef),(zi.getD 1 AV.undef)],Ez))) [(qY.2.1.getD 0 AV.undef),aG] qY.2.2).bind fun JA=>
       bif JA.1==AX.exit 2 then(
        A.fin σ ah JA.2.2)else
       bif JA.1==AX.ret then(
        A.fin σ (JA.2.1.getD 0 AV.undef) JA.2.2)else
       none))else
     bif qY.1==AX.ret then(
      A.fin σ (qY.2.1.getD 0 AV.undef) qY.2.2)else
     none))))
noncomputable def Ka:List AV→Heap→Option (AV×Heap):=A.wrap true [(.a [.k,(.s 2)])] .k (A.cD N3)
noncomputable def On (a0:AV) (σ:Heap):Option (AV×Heap):=
 (jC [a0,ah,(AV.int .i64 65535)] σ).bind fun r1=>
 A.fin σ r1.1 r1.2
noncomputable def Oj:List AV→Heap→Option (AV×Heap):=A.wrap true [] .k (A.cD On)
noncomputable def Ox (a0:AV) (σ:Heap):Option (AV×Heap):=
 (A.bG a0).bind fun x1=>
 (A.loop (fun v2 s3=>
   (A.lss (v2.getD 1 AV.undef) x1).bind fun x5=>
   A.cond x5 (
    (A.aU 1 a0 (v2.getD 1 AV.undef)).bind fun x6=>
    ((A.deref x6 s3).bind fun c7=>A.aj 0 c7).bind fun x8=>
    (Oj [x8] s3).bind fun r9=>
    (A.not r9.1).bind fun bJ=>
    A.cond bJ (
     some (AX.ret,[aG,(v2.getD 1 AV.undef)],r9.2)) (
     (A.add (v2.getD 1 AV.undef) aG).bind fun bT=>
     some (AX.normal,[(v2.getD 0 AV.undef),bT],r9.2))) (
    some (AX.exit 0,[(v2.getD 0 AV.undef),(v2.getD 1 AV.undef)],s3))) [ah,ah] σ).bind fun gD=>
 bif gD.1==AX.exit 0 then(
  A.fin σ ah gD.2.2)else
 bif gD.1==AX.ret then(
  A.fin σ (gD.2.1.getD 0 AV.undef) gD.2.2)else
 none
noncomputable def Kp:List AV→Heap→Option (AV×Heap):=A.wrap true [(.s 1)] .k (A.cD Ox)
noncomputable def Ow (a0:AV) (σ:Heap):Option (AV×Heap):=
 (jC [a0,ah,(AV.int .i64 36000000)] σ).bind fun r1=>
 A.fin σ r1.1 r1.2
noncomputable def CQ:List AV→Heap→Option (AV×Heap):=A.wrap true [] .k (A.cD Ow)
noncomputable def N8 (a0:AV) (σ:Heap):Option (AV×Heap):=
 (A.cells 7 a0).bind fun c1=>
 (A.aj 0 c1).bind fun x2=>
 (A.aj 1 c1).bind fun x3=>
 ((((A.cell x2).bind fun v=>some [v]).bind fun c4=>(A.splice 0 c4 [ah,ah]).bind fun c5=>((A.cell x3).bind fun v=>some [v]).bind fun c6=>(A.splice 1 c6 c5).bind fun c7=>some c7).bind fun cs=>some (AV.sl 1 (chunks 1 2 cs))).bind fun x8=>
 (Kp [x8] σ).bind fun r9=>
 (A.neq .i r9.1 ah).bind fun bJ=>
 A.cond bJ (
  A.fin σ r9.1 r9.2) (
  (A.aj 2 c1).bind fun bT=>
  (CQ [bT] r9.2).bind fun gD=>
  (A.not gD.1).bind fun dr=>
  (A.guard dr false (A.aj 3 c1) an).bind fun dc=>
  (A.guard dr false (A.quiet (CQ [dc] gD.2) gD.2) an).bind fun cU=>
  (A.guard dr false (A.not cU) an).bind fun cz=>
  (A.pick dr cL cz).bind fun cG=>
  (A.guard cG false (A.aj 4 c1) an).bind fun bK=>
  (A.guard cG false (A.quiet (CQ [bK] gD.2) gD.2) an).bind fun cW=>
  (A.guard cG false (A.not cW) an).bind fun dg=>
  (A.pick cG cL dg).bind fun bM=>
  (A.guard bM false (A.aj 2 c1) an).bind fun dh=>
  (A.guard bM false (A.aj 3 c1) an).bind fun eP=>
  (A.guard bM false (A.add dh eP) an).bind fun x24=>
  (A.guard bM false (A.aj 4 c1) an).bind fun x25=>
  (A.guard bM false (A.add x24 x25) an).bind fun fC=>
  (A.guard bM false (A.quiet (CQ [fC] gD.2) gD.2) an).bind fun dK=>
  (A.guard bM false (A.not dK) an).bind fun x28=>
  (A.pick bM cL x28).bind fun x29=>
  A.cond x29 (
   A.fin σ aG gD.2) (
   (A.ay 5 2 c1).bind fun cH=>
   (Ka [cH] gD.2).bind fun sD=>
   A.fin σ sD.1 sD.2))
noncomputable def N6:List AV→Heap→Option (AV×Heap):=A.wrap true [Dr] .k (A.cD N8)
noncomputable def PC (a0:AV) (σ:Heap):Option (AV×Heap):=
 (A.conv .u64 a0).bind fun x1=>
 ((((A.cell (AV.int .u64 0)).bind fun v=>some [v]).bind fun c2=>(A.splice 0 c2 [(AV.int .u64 0),(AV.int .u64 0)]).bind fun c3=>((A.cell x1).bind fun v=>some [v]).bind fun c4=>(A.splice 1 c4 c3).bind fun c5=>some c5).bind fun cs=>some (AV.agg cs)).bind fun x6=>
 (A.cells 2 x6).bind fun c7=>
 (A.splice 0 c7 [(AV.int .u64 0),(AV.int .u64 0)]).bind fun c8=>
 (A.ay 0 2 c8).bind fun x9=>
 A.fin σ x9 σ
noncomputable def oo:List AV→Heap→Option (AV×Heap):=A.wrap true [] .k (A.cD PC)
noncomputable def N9 (a0 a1:AV) (σ:Heap):Option (AV×Heap):=
 (A.cells 2 a0).bind fun c1=>
 (A.cells 2 a1).bind fun c2=>
 (A.aj 0 c1).bind fun x3=>
 (A.aj 0 c2).bind fun x4=>
 (A.lss x3 x4).bind fun x5=>
 (A.guard x5 false (A.aj 0 c1) an).bind fun x6=>
 (A.guard x5 false (A.aj 0 c2) an).bind fun x7=>
 (A.guard x5 false (A.eql .i x6 x7) an).bind fun x8=>
 (A.guard x5 false (some x8) an).bind fun x9=>
 (A.guard x9 true (A.aj 1 c1) an).bind fun bJ=>
 (A.guard x9 true (A.aj 1 c2) an).bind fun bT=>
 (A.guard x9 true (A.lss bJ bT) an).bind fun cO=>
 (A.guard x5 false (A.pick x9 cO aM) an).bind fun dr=>
 (A.pick x5 cL dr).bind fun dc=>
 A.fin σ dc σ
noncomputable def EN:List AV→Heap→Option (AV×Heap):=A.wrap true [] .k (A.cR N9)
noncomputable def OG (a0 a1:AV) (σ:Heap):Option (AV×Heap):=
 ((((A.cell a0).bind fun v=>some [v]).bind fun c1=>(A.splice 0 c1 [ah,ah]).bind fun c2=>((A.cell a1).bind fun v=>some [v]).bind fun c3=>(A.splice 1 c3 c2).bind fun c4=>some c4).bind fun cs=>some (AV.sl 1 (chunks 1 2 cs))).bind fun x5=>
 (Kp [x5] σ).bind fun r6=>
 (A.neq .i r6.1 ah).bind fun x7=>
 A.cond x7 (
  A.fin σ (AV.aH [ah,r6.1]) r6.2) (
  (A.mul a0 a1).bind fun x8=>
  (ON [x8,(AV.int .i64 65535)] r6.2).bind fun r9=>
  A.fin σ (AV.aH [r9.1,ah]) r9.2)
noncomputable def CS:List AV→Heap→Option (AV×Heap):=A.wrap true [] .k (A.cR OG)
noncomputable def N4 (a0 a1:AV) (σ:Heap):Option (AV×Heap):=
 (A.cells 2 a0).bind fun c1=>
 (A.aj 1 c1).bind fun x2=>
 (A.conv .u64 a1).bind fun x3=>
 (G3 [x2,x3] σ).bind fun r4=>
 (A.ext 0 r4.1).bind fun x5=>
 (A.ext 1 r4.1).bind fun x6=>
 (A.aj 0 c1).bind fun x7=>
 (A.conv .u64 a1).bind fun x8=>
 (A.mul x7 x8).bind fun x9=>
 (A.add x9 x5).bind fun bJ=>
 ((((A.cell bJ).bind fun v=>some [v]).bind fun gh=>(A.splice 0 gh [(AV.int .u64 0),(AV.int .u64 0)]).bind fun eo=>((A.cell x6).bind fun v=>some [v]).bind fun iY=>(A.splice 1 iY eo).bind fun jP=>some jP).bind fun cs=>some (AV.agg cs)).bind fun cU=>
 (A.cells 2 cU).bind fun mE=>
 (A.splice 0 mE [(AV.int .u64 0),(AV.int .u64 0)]).bind fun mF=>
 (A.ay 0 2 mF).bind fun bK=>
 A.fin σ bK r4.2
noncomputable def qc:List AV→Heap→Option (AV×Heap):=A.wrap true [] .k (A.cR N4)
noncomputable def KM (a0 a1 a2:AV) (σ:Heap):Option (AV×Heap):=
 (A.cells 2 a0).bind fun c1=>
 (oo [a2] σ).bind fun r2=>
 (qc [r2.1,a2] r2.2).bind fun r3=>
 (A.cells 2 r3.1).bind fun c4=>
 (A.splice 0 c4 [(AV.int .u64 0),(AV.int .u64 0)]).bind fun c5=>
 (A.aj 0 c1).bind fun x6=>
 (A.eql .i x6 (AV.int .i64 2)).bind fun x7=>
 A.cond x7 (
  (A.quiet (oo [a1] r3.2) r3.2).bind fun x8=>
  (A.quiet (qc [x8,a1] r3.2) r3.2).bind fun x9=>
  (A.ay 0 2 c5).bind fun bJ=>
  (A.cells 2 x9).bind fun gh=>
  (A.splice 0 gh [(AV.int .u64 0),(AV.int .u64 0)]).bind fun eo=>
  (A.cells 2 bJ).bind fun iY=>
  (A.splice 0 iY [(AV.int .u64 0),(AV.int .u64 0)]).bind fun jP=>
  (A.ay 0 2 eo).bind fun cU=>
  (A.ay 0 2 jP).bind fun cz=>
  A.fin σ (AV.aH [cU,cz]) r3.2) (
  (A.eql .i x6 (AV.int .i64 3)).bind fun cG=>
  A.cond cG (
   (A.quiet (oo [a1] r3.2) r3.2).bind fun bK=>
   (A.mul (AV.int .i64 2) a2).bind fun cW=>
   (A.sub cW a1).bind fun dg=>
   (A.quiet (qc [bK,dg] r3.2) r3.2).bind fun bM=>
   (A.ay 0 2 c5).bind fun dh=>
   (A.cells 2 bM).bind fun eF=>
   (A.splice 0 eF [(AV.int .u64 0),(AV.int .u64 0)]).bind fun gr=>
   (A.cells 2 dh).bind fun gO=>
   (A.splice 0 gO [(AV.int .u64 0),(AV.int .u64 0)]).bind fun fM=>
   (A.ay 0 2 gr).bind fun dK=>
   (A.ay 0 2 fM).bind fun x28=>
   A.fin σ (AV.aH [dK,x28]) r3.2) (
   (A.eql .i x6 (AV.int .i64 4)).bind fun x29=>
   A.cond x29 (
    (A.quiet (oo [a1] r3.2) r3.2).bind fun cH=>
    (A.quiet (qc [cH,a1] r3.2) r3.2).bind fun x31=>
    (A.mul (AV.int .i64 3) a2).bind fun x32=>
    (A.mul (AV.int .i64 2) a1).bind fun ey=>
    (A.sub x32 ey).bind fun x34=>
    (A.quiet (qc [x31,x34] r3.2) r3.2).bind fun gn=>
    (A.ay 0 2 c5).bind fun gI=>
    (A.quiet (qc [gI,a2] r3.2) r3.2).bind fun bU=>
    (A.cells 2 gn).bind fun lg=>
    (A.splice 0 lg [(AV.int .u64 0),(AV.int .u64 0)]).bind fun l7=>
    (A.cells 2 bU).bind fun yT=>
    (A.splice 0 yT [(AV.int .u64 0),(AV.int .u64 0)]).bind fun uq=>
    (A.ay 0 2 l7).bind fun ga=>
    (A.ay 0 2 uq).bind fun fJ=>
    A.fin σ (AV.aH [ga,fJ]) r3.2) (
    (A.eql .i x6 (AV.int .i64 5)).bind fun eR=>
    A.cond eR (
     (A.lss a1 a2).bind fun ef=>
     A.cond ef (
      (oo [ah] r3.2).bind fun n5=>
      (oo [aG] n5.2).bind fun n9=>
      (A.cells 2 n5.1).bind fun mG=>
      (A.splice 0 mG [(AV.int .u64 0),(AV.int .u64 0)]).bind fun AJ=>
      (A.cells 2 n9.1).bind fun nR=>
      (A.splice 0 nR [(AV.int .u64 0),(AV.int .u64 0)]).bind fun xw=>
      (A.ay 0 2 AJ).bind fun eB=>
      (A.ay 0 2 xw).bind fun gQ=>
      A.fin σ (AV.aH [eB,gQ]) n9.2) (
      (oo [aG] r3.2).bind fun r54=>
      (oo [aG] r54.2).bind fun vL=>
      (A.cells 2 r54.1).bind fun pR=>
      (A.splice 0 pR [(AV.int .u64 0),(AV.int .u64 0)]).bind fun i6=>
      (A.cells 2 vL.1).bind fun iR=>
      (A.splice 0 iR [(AV.int .u64 0),(AV.int .u64 0)]).bind fun Th=>
      (A.ay 0 2 i6).bind fun gE=>
      (A.ay 0 2 Th).bind fun iT=>
      A.fin σ (AV.aH [gE,iT]) vL.2)) (
     (A.eql .i x6 (AV.int .i64 6)).bind fun eS=>
     A.cond eS (
      (A.aj 1 c1).bind fun fD=>
      (A.loop (fun v64 gm=>
        (A.add (v64.getD 2 AV.undef) (AV.int .i64 2)).bind fun jy=>
        (A.bG fD).bind fun gJ=>
        (A.lss jy gJ).bind fun fk=>
        (A.guard fk true (some a1) an).bind fun eT=>
        (A.guard fk true (A.mul (AV.int .i64 1000) eT) an).bind fun mP=>
        (A.guard fk true (some fD) an).bind fun oa=>
        (A.guard fk true (some (v64.getD 2 AV.undef)) an).bind fun ij=>
        (A.guard fk true (A.add ij aG) an).bind fun iq=>
        (A.guard fk true (A.aU 2 oa iq) an).bind fun eC=>
        (A.guard fk true (A.aA 0 eC) an).bind fun jf=>
        (A.guard fk true ((A.deref jf gm).bind fun lS=>A.aj 0 lS) an).bind fun jA=>
        (A.guard fk true (some a2) an).bind fun jS=>
        (A.guard fk true (A.mul jA jS) an).bind fun fT=>
        (A.guard fk true (A.geq mP fT) an).bind fun p6=>
        (A.pick fk p6 aM).bind fun p7=>
        A.cond p7 (
         (A.add (v64.getD 2 AV.undef) aG).bind fun rq=>
         some (AX.normal,[(v64.getD 0 AV.undef),(v64.getD 1 AV.undef),rq],gm)) (
         some (AX.exit 1,[(v64.getD 0 AV.undef),(v64.getD 1 AV.undef),(v64.getD 2 AV.undef)],gm))) [(AV.lbx [(AV.int .u64 0),(AV.int .u64 0)]),(AV.lbx [(AV.int .u64 0),(AV.int .u64 0)]),ah] r3.2).bind fun CD=>
      bif CD.1==AX.exit 1 then(
       (A.aU 2 fD (CD.2.1.getD 2 AV.undef)).bind fun iL=>
       ((A.deref iL CD.2.2).bind fun xz=>A.ay 0 2 xz).bind fun mQ=>
       (A.add (CD.2.1.getD 2 AV.undef) aG).bind fun iM=>
       (A.aU 2 fD iM).bind fun Bg=>
       ((A.deref Bg CD.2.2).bind fun nW=>A.ay 0 2 nW).bind fun x91=>
       (A.cells 2 mQ).bind fun c92=>
       (A.splice 0 c92 [ah,ah]).bind fun Cr=>
       (A.cells 2 x91).bind fun sx=>
       (A.splice 0 sx [ah,ah]).bind fun jt=>
       (A.aj 0 jt).bind fun x96=>
       (A.aj 0 Cr).bind fun xX=>
       (A.sub x96 xX).bind fun x98=>
       (A.aj 1 Cr).bind fun x99=>
       (A.mul x99 x98).bind fun nJ=>
       (A.mul nJ a2).bind fun x101=>
       (A.aj 1 jt).bind fun x102=>
       (A.aj 1 Cr).bind fun vA=>
       (A.sub x102 vA).bind fun x104=>
       (A.mul (AV.int .i64 1000) a1).bind fun Az=>
       (A.aj 0 Cr).bind fun nK=>
       (A.mul nK a2).bind fun nL=>
       (A.sub Az nL).bind fun II=>
       (A.mul x104 II).bind fun nM=>
       (A.add x101 nM).bind fun AA=>
       (oo [AA] CD.2.2).bind fun abd=>
       (A.mul (AV.int .i64 1000) x98).bind fun x112=>
       (oo [x112] abd.2).bind fun tc=>
       (qc [tc.1,a2] tc.2).bind fun abe=>
       (A.lb (CD.2.1.getD 0 AV.undef)).bind fun Ie=>
       (A.cells 2 abd.1).bind fun tU=>
       (A.splice 0 tU Ie).bind fun tV=>
       (A.lb (CD.2.1.getD 1 AV.undef)).bind fun RN=>
       (A.cells 2 abe.1).bind fun amN=>
       (A.splice 0 amN RN).bind fun amO=>
       (A.ay 0 2 tV).bind fun xg=>
       (A.ay 0 2 amO).bind fun IJ=>
       A.fin σ (AV.aH [xg,IJ]) abe.2)else
      none) (
      (oo [a1] r3.2).bind fun oF=>
      (oo [a2] oF.2).bind fun abf=>
      (A.cells 2 oF.1).bind fun wJ=>
      (A.splice 0 wJ [(AV.int .u64 0),(AV.int .u64 0)]).bind fun tW=>
      (A.cells 2 abf.1).bind fun qG=>
      (A.splice 0 qG [(AV.int .u64 0),(AV.int .u64 0)]).bind fun lQ=>
      (A.ay 0 2 tW).bind fun nq=>
      (A.ay 0 2 lQ).bind fun sj=>
      A.fin σ (AV.aH [nq,sj]) abf.2)))))
noncomputable def KF:List AV→Heap→Option (AV×Heap):=A.wrap true [(.a [.k,(.s 2)])] .k (A.lG KM)
noncomputable def Oa (a0 a1:AV) (σ:Heap):Option (AV×Heap):=
 (A.cells 2 a0).bind fun c1=>
 (A.cells 2 a1).bind fun c2=>
 (A.aj 1 c1).bind fun x3=>
 (A.aj 1 c2).bind fun x4=>
 (EZ [x3,x4,(AV.int .u64 0)] σ).bind fun r5=>
 (A.ext 0 r5.1).bind fun x6=>
 (A.ext 1 r5.1).bind fun x7=>
 (A.aj 0 c1).bind fun x8=>
 (A.aj 0 c2).bind fun x9=>
 (EZ [x8,x9,x7] r5.2).bind fun jm=>
 (A.ext 0 jm.1).bind fun bT=>
 (A.ext 1 jm.1).bind fun cO=>
 ((((A.cell bT).bind fun v=>some [v]).bind fun iY=>(A.splice 0 iY [(AV.int .u64 0),(AV.int .u64 0)]).bind fun jP=>((A.cell x6).bind fun v=>some [v]).bind fun lH=>(A.splice 1 lH jP).bind fun mE=>some mE).bind fun cs=>some (AV.agg cs)).bind fun cG=>
 (A.cells 2 cG).bind fun iZ=>
 (A.splice 0 iZ [(AV.int .u64 0),(AV.int .u64 0)]).bind fun gM=>
 (A.ay 0 2 gM).bind fun dg=>
 A.fin σ dg jm.2
noncomputable def Ki:List AV→Heap→Option (AV×Heap):=A.wrap true [] .k (A.cR Oa)
noncomputable def Oy (a0 a1 a2 a3:AV) (σ:Heap):Option (AV×Heap):=
 (A.cells 2 a2).bind fun c1=>
 (A.cells 2 a3).bind fun c2=>
 (A.geq a1 a0).bind fun x3=>
 A.cond x3 (
  (A.sub a1 a0).bind fun x4=>
  (A.ay 0 2 c1).bind fun x5=>
  (A.mul (AV.int .i64 2) x4).bind fun x6=>
  (A.quiet (qc [x5,x6] σ) σ).bind fun x7=>
  (A.ay 0 2 c2).bind fun x8=>
  (A.quiet (Ki [x7,x8] σ) σ).bind fun x9=>
  (A.cells 2 x9).bind fun dY=>
  (A.splice 0 dY [(AV.int .u64 0),(AV.int .u64 0)]).bind fun gh=>
  (A.loop (fun v12 sE=>
    (A.lss (v12.getD 2 AV.undef) (v12.getD 3 AV.undef)).bind fun cU=>
    A.cond cU (
     (A.add (v12.getD 2 AV.undef) (v12.getD 3 AV.undef)).bind fun cz=>
     (A.add cz aG).bind fun cG=>
     (A.quo cG (AV.int .i64 2)).bind fun bK=>
     ((A.lb (v12.getD 1 AV.undef)).bind fun gM=>A.ay 0 2 gM).bind fun dg=>
     ((A.lb (v12.getD 0 AV.undef)).bind fun kC=>A.ay 0 2 kC).bind fun dh=>
     (A.mul (AV.int .i64 2) bK).bind fun eP=>
     (A.quiet (qc [dh,eP] sE) sE).bind fun x24=>
     (A.quiet (EN [dg,x24] sE) sE).bind fun x25=>
     (A.cond x25 (
      (A.sub bK aG).bind fun dK=>
      some ([(v12.getD 0 AV.undef),(v12.getD 1 AV.undef),(v12.getD 2 AV.undef),dK],sE)) (
      some ([(v12.getD 0 AV.undef),(v12.getD 1 AV.undef),bK,(v12.getD 3 AV.undef)],sE))).bind fun kn=>
     some (AX.normal,[(kn.1.getD 0 AV.undef),(kn.1.getD 1 AV.undef),(kn.1.getD 2 AV.undef),(kn.1.getD 3 AV.undef)],kn.2)) (
     some (AX.exit 0,[(v12.getD 0 AV.undef),(v12.getD 1 AV.undef),(v12.getD 2 AV.undef),(v12.getD 3 AV.undef)],sE))) [(AV.lbx c2),(AV.lbx gh),ah,x4] σ).bind fun sC=>
  bif sC.1==AX.exit 0 then(
   (A.add a0 (sC.2.1.getD 2 AV.undef)).bind fun x29=>
   A.fin σ x29 sC.2.2)else
  none) (
  (A.sub a0 a1).bind fun cH=>
  (A.ay 0 2 c1).bind fun x31=>
  (A.mul (AV.int .i64 2) cH).bind fun x32=>
  (qc [x31,x32] σ).bind fun qY=>
  (A.cells 2 qY.1).bind fun sv=>
  (A.splice 0 sv [(AV.int .u64 0),(AV.int .u64 0)]).bind fun gX=>
  (A.loop (fun je sH=>
    (A.lss (je.getD 2 AV.undef) (je.getD 3 AV.undef)).bind fun ff=>
    A.cond ff (
     (A.add (je.getD 2 AV.undef) (je.getD 3 AV.undef)).bind fun cZ=>
     (A.quo cZ (AV.int .i64 2)).bind fun dW=>
     ((A.lb (je.getD 0 AV.undef)).bind fun lR=>A.ay 0 2 lR).bind fun fJ=>
     (A.mul (AV.int .i64 2) dW).bind fun eR=>
     (A.add eR aG).bind fun ef=>
     (A.quiet (qc [fJ,ef] sH) sH).bind fun fK=>
     ((A.lb (je.getD 1 AV.undef)).bind fun gZ=>A.ay 0 2 gZ).bind fun ig=>
     (A.quiet (EN [fK,ig] sH) sH).bind fun eA=>
     (A.cond eA (
      (A.add dW aG).bind fun gP=>
      some ([(je.getD 0 AV.undef),(je.getD 1 AV.undef),gP,(je.getD 3 AV.undef)],sH)) (
      some ([(je.getD 0 AV.undef),(je.getD 1 AV.undef),(je.getD 2 AV.undef),dW],sH))).bind fun cE=>
     some (AX.normal,[(cE.1.getD 0 AV.undef),(cE.1.getD 1 AV.undef),(cE.1.getD 2 AV.undef),(cE.1.getD 3 AV.undef)],cE.2)) (
     some (AX.exit 2,[(je.getD 0 AV.undef),(je.getD 1 AV.undef),(je.getD 2 AV.undef),(je.getD 3 AV.undef)],sH))) [(AV.lbx c2),(AV.lbx gX),ah,cH] qY.2).bind fun zb=>
  bif zb.1==AX.exit 2 then(
   (A.sub a0 (zb.2.1.getD 2 AV.undef)).bind fun gQ=>
   A.fin σ gQ zb.2.2)else
  none)
noncomputable def Ou:List AV→Heap→Option (AV×Heap):=A.wrap true [] .k (A.vB Oy)
noncomputable def V7 (a0 a1:AV) (σ:Heap):Option (AV×Heap):=
 (A.cells 7 a0).bind fun c1=>
 (A.aj 2 c1).bind fun x2=>
 (A.aj 3 c1).bind fun x3=>
 (A.add x2 x3).bind fun x4=>
 (A.aj 4 c1).bind fun x5=>
 (A.add x4 x5).bind fun x6=>
 (A.geq a1 x6).bind fun x7=>
 A.cond x7 (
  (A.aj 1 c1).bind fun x8=>
  A.fin σ x8 σ) (
  (A.leq a1 x4).bind fun x9=>
  A.cond x9 (
   (A.aj 0 c1).bind fun bJ=>
   A.fin σ bJ σ) (
   (A.ay 5 2 c1).bind fun bT=>
   (A.sub a1 x4).bind fun cO=>
   (A.aj 4 c1).bind fun dr=>
   (KF [bT,cO,dr] σ).bind fun jd=>
   (A.ext 0 jd.1).bind fun cU=>
   (A.ext 1 jd.1).bind fun cz=>
   (A.cells 2 cU).bind fun mF=>
   (A.splice 0 mF [(AV.int .u64 0),(AV.int .u64 0)]).bind fun iZ=>
   (A.cells 2 cz).bind fun gM=>
   (A.splice 0 gM [(AV.int .u64 0),(AV.int .u64 0)]).bind fun iz=>
   (A.aj 0 c1).bind fun bM=>
   (A.aj 1 c1).bind fun dh=>
   (A.ay 0 2 iZ).bind fun eP=>
   (A.ay 0 2 iz).bind fun x24=>
   (Ou [bM,dh,eP,x24] jd.2).bind fun jQ=>
   A.fin σ jQ.1 jQ.2))
noncomputable def Pu:List AV→Heap→Option (AV×Heap):=A.wrap true [Dr] .k (A.cR V7)
noncomputable def V6 (a0 a1:AV) (σ:Heap):Option (AV×Heap):=
 (A.cells 7 a0).bind fun c1=>
 (A.ay 0 7 c1).bind fun x2=>
 (N6 [x2] σ).bind fun r3=>
 (CQ [a1] r3.2).bind fun r4=>
 (A.not r4.1).bind fun x5=>
 (rD [x5,aG] r4.2).bind fun r6=>
 ((((A.cell r3.1).bind fun v=>some [v]).bind fun c7=>(A.splice 0 c7 [ah,ah]).bind fun c8=>((A.cell r6.1).bind fun v=>some [v]).bind fun c9=>(A.splice 1 c9 c8).bind fun dY=>some dY).bind fun cs=>some (AV.sl 1 (chunks 1 2 cs))).bind fun bT=>
 (ya [bT] r6.2).bind fun gD=>
 (A.neq .i gD.1 ah).bind fun dr=>
 A.cond dr (
  A.fin σ (AV.aH [ah,gD.1]) gD.2) (
  (A.ay 0 7 c1).bind fun dc=>
  (Pu [dc,a1] gD.2).bind fun tv=>
  A.fin σ (AV.aH [tv.1,ah]) tv.2)
noncomputable def Pt:List AV→Heap→Option (AV×Heap):=A.wrap true [Dr] .k (A.cR V6)
end
section
set_option maxRecDepth 100000
noncomputable def Pb (a0:AV) (σ:Heap):Option (AV×Heap):=
 (A.cells 2 a0).bind fun c1=>
 (A.ay 0 2 c1).bind fun x2=>
 (ET [x2] σ).bind fun r3=>
 (A.ext 0 r3.1).bind fun x4=>
 (A.ext 1 r3.1).bind fun x5=>
 (A.bG x4).bind fun x6=>
 (A.loop (fun v7 s8=>
   (A.lss (v7.getD 0 AV.undef) x6).bind fun bJ=>
   A.cond bJ (
    (A.aU 2 x4 (v7.getD 0 AV.undef)).bind fun bT=>
    ((A.deref bT s8).bind fun eo=>A.ay 0 2 eo).bind fun dr=>
    (A.cells 2 dr).bind fun jP=>
    (A.splice 0 jP [ah,br]).bind fun lH=>
    (A.ay 0 2 lH).bind fun cz=>
    (A.ew (.s [0,2]) (AV.om r3.2.length) cz cL s8).bind fun h17=>
    (A.add (v7.getD 0 AV.undef) aG).bind fun bK=>
    some (AX.normal,[bK],h17)) (
    some (AX.exit 0,[(v7.getD 0 AV.undef)],s8))) [ah] (r3.2++[aJ.map []])).bind fun kI=>
 bif kI.1==AX.exit 0 then(
  A.fin σ (AV.om r3.2.length) kI.2.2)else
 none
noncomputable def O2:List AV→Heap→Option (AV×Heap):=A.wrap true [(.a [(.s 3),(.s 4)])] .k (A.cD Pb)
noncomputable def OS (a0:AV) (σ:Heap):Option (AV×Heap):=
 (A.eql .z a0 br).bind fun x1=>
 (A.guard x1 false (some a0) an).bind fun x2=>
 (A.guard x1 false (A.quiet (Kz [x2] σ) σ) an).bind fun x3=>
 (A.pick x1 cL x3).bind fun x4=>
 A.fin σ x4 σ
noncomputable def OL:List AV→Heap→Option (AV×Heap):=A.wrap true [] .k (A.cD OS)
noncomputable def Oz (a0:AV) (σ:Heap):Option (AV×Heap):=
 (jC [a0,ah,(AV.int .i64 65535)] σ).bind fun r1=>
 A.fin σ r1.1 r1.2
noncomputable def Kq:List AV→Heap→Option (AV×Heap):=A.wrap true [] .k (A.cD Oz)
noncomputable def OH (a0 a1:AV) (σ:Heap):Option (AV×Heap):=
 (A.cells 2 a0).bind fun c1=>
 (A.cells 2 a1).bind fun c2=>
 (A.aj 0 c1).bind fun x3=>
 (A.aj 0 c2).bind fun x4=>
 (A.neq .i x3 x4).bind fun x5=>
 A.cond x5 (
  (A.aj 0 c1).bind fun x6=>
  (A.aj 0 c2).bind fun x7=>
  (A.lss x6 x7).bind fun x8=>
  A.fin σ x8 σ) (
  (A.aj 1 c1).bind fun x9=>
  (A.aj 1 c2).bind fun bJ=>
  (Kk [x9,bJ] σ).bind fun dF=>
  (A.lss dF.1 ah).bind fun cO=>
  A.fin σ cO dF.2)
noncomputable def OD:List AV→Heap→Option (AV×Heap):=A.wrap true [] .k (A.cR OH)
noncomputable def NW (a0 a1:AV) (σ:Heap):Option (AV×Heap):=
 (A.cells 2 a0).bind fun c1=>
 (A.ay 0 2 c1).bind fun x2=>
 (J9 [x2] σ).bind fun r3=>
 (A.bG a1).bind fun x4=>
 (A.gtr x4 (AV.int .i64 200)).bind fun x5=>
 (rD [x5,(AV.int .i64 2)] r3.2).bind fun r6=>
 ((((A.cell r3.1).bind fun v=>some [v]).bind fun c7=>(A.splice 0 c7 [ah,ah]).bind fun c8=>((A.cell r6.1).bind fun v=>some [v]).bind fun c9=>(A.splice 1 c9 c8).bind fun dY=>some dY).bind fun cs=>some (AV.sl 1 (chunks 1 2 cs))).bind fun bT=>
 (ya [bT] r6.2).bind fun gD=>
 (A.neq .i gD.1 ah).bind fun dr=>
 A.cond dr (
  A.fin σ gD.1 gD.2) (
  (A.ay 0 2 c1).bind fun dc=>
  (O2 [dc] gD.2).bind fun tv=>
  (A.bG a1).bind fun cz=>
  (A.loop (fun v17 vO=>
    (A.lss (v17.getD 1 AV.undef) cz).bind fun dg=>
    A.cond dg (
     (A.aU 3 a1 (v17.getD 1 AV.undef)).bind fun bM=>
     ((A.deref bM vO).bind fun gq=>A.ay 0 3 gq).bind fun eP=>
     (A.cells 3 eP).bind fun gr=>
     (A.splice 0 gr [ah,br,AV.au]).bind fun gO=>
     (A.aj 0 gO).bind fun fC=>
     (jC [fC,aG,(AV.int .i64 999)] vO).bind fun xK=>
     (A.not xK.1).bind fun x28=>
     A.cond x28 (
      some (AX.ret,[aG,(v17.getD 1 AV.undef)],xK.2)) (
      (A.gtr (v17.getD 1 AV.undef) ah).bind fun x29=>
      (A.guard x29 true (A.aj 0 gO) an).bind fun cH=>
      (A.guard x29 true (some a1) an).bind fun x31=>
      (A.guard x29 true (some (v17.getD 1 AV.undef)) an).bind fun x32=>
      (A.guard x29 true (A.sub x32 aG) an).bind fun ey=>
      (A.guard x29 true (A.aU 3 x31 ey) an).bind fun x34=>
      (A.guard x29 true (A.aA 0 x34) an).bind fun gn=>
      (A.guard x29 true ((A.deref gn xK.2).bind fun gY=>A.aj 0 gY) an).bind fun bU=>
      (A.guard x29 true (A.leq cH bU) an).bind fun x38=>
      (A.pick x29 x38 aM).bind fun ff=>
      A.cond ff (
       some (AX.ret,[(AV.int .i64 7),(v17.getD 1 AV.undef)],xK.2)) (
       (A.aj 1 gO).bind fun cZ=>
       (OL [cZ] xK.2).bind fun Ey=>
       (A.not Ey.1).bind fun ga=>
       A.cond ga (
        some (AX.ret,[(AV.int .i64 3),(v17.getD 1 AV.undef)],Ey.2)) (
        (A.aj 2 gO).bind fun fJ=>
        (A.bG fJ).bind fun eR=>
        (A.gtr eR (AV.int .i64 2000)).bind fun ef=>
        A.cond ef (
         some (AX.ret,[(AV.int .i64 2),(v17.getD 1 AV.undef)],Ey.2)) (
         (A.aj 2 gO).bind fun fK=>
         (A.bG fK).bind fun iJ=>
         (A.loop (fun oL JD=>
           (A.lss (oL.getD 2 AV.undef) iJ).bind fun gP=>
           A.cond gP (
            (A.aU 3 fK (oL.getD 2 AV.undef)).bind fun eB=>
            ((A.deref eB JD).bind fun nS=>A.ay 0 3 nS).bind fun gy=>
            (A.cells 3 gy).bind fun iA=>
            (A.splice 0 iA [ah,br,ah]).bind fun pR=>
            (A.ay 0 2 pR).bind fun jJ=>
            (A.look (.s [0,2]) tv.1 jJ aM JD).bind fun gA=>
            (A.not gA).bind fun eG=>
            A.cond eG (
             some (AX.ret,[(AV.int .i64 8),(oL.getD 1 AV.undef),(oL.getD 2 AV.undef)],JD)) (
             (A.aj 2 pR).bind fun gE=>
             (Kq [gE] JD).bind fun tE=>
             (A.not tE.1).bind fun eS=>
             A.cond eS (
              some (AX.ret,[aG,(oL.getD 1 AV.undef),(oL.getD 2 AV.undef)],tE.2)) (
              (A.gtr (oL.getD 2 AV.undef) ah).bind fun fD=>
              ((A.lb (oL.getD 1 AV.undef)).bind fun _=>some (2)).bind fun p64=>
                            (A.guard fD true ((A.lb (oL.getD 1 AV.undef)).bind fun xx=>A.aj p64 xx) an).bind fun fP=>
              (A.guard fD true (some (oL.getD 2 AV.undef)) an).bind fun jy=>
              (A.guard fD true (A.sub jy aG) an).bind fun gJ=>
              (A.guard fD true (A.aU 3 fP gJ) an).bind fun fk=>
              (A.guard fD true (A.aA 0 fk) an).bind fun eT=>
              (A.guard fD true ((A.deref eT tE.2).bind fun lI=>A.ay 0 2 lI) an).bind fun oa=>
              (A.guard fD true (A.ay 0 2 pR) an).bind fun ij=>
              (A.guard fD true (A.quiet (OD [oa,ij] tE.2) tE.2) an).bind fun iq=>
              (A.guard fD true (A.not iq) an).bind fun eC=>
              (A.pick fD eC aM).bind fun jf=>
              A.cond jf (
               some (AX.ret,[(AV.int .i64 7),(oL.getD 1 AV.undef),(oL.getD 2 AV.undef)],tE.2)) (
               (A.add (oL.getD 2 AV.undef) aG).bind fun xW=>
               some (AX.normal,[(oL.getD 0 AV.undef),(oL.getD 1 AV.undef),xW],tE.2))))) (
            some (AX.exit 3,[(oL.getD 0 AV.undef),(oL.getD 1 AV.undef),(oL.getD 2 AV.undef)],JD))) [(v17.getD 0 AV.undef),(AV.lbx gO),ah] Ey.2).bind fun vN=>
         bif vN.1==AX.exit 3 then(
          (A.add (v17.getD 1 AV.undef) aG).bind fun jS=>
          some (AX.normal,[(vN.2.1.getD 0 AV.undef),jS],vN.2.2))else
         bif vN.1==AX.ret then(
          some (AX.ret,[(vN.2.1.getD 0 AV.undef),(v17.getD 1 AV.undef)],vN.2.2))else
         none))))) (
     some (AX.exit 0,[(v17.getD 0 AV.undef),(v17.getD 1 AV.undef)],vO))) [ah,ah] tv.2).bind fun Jz=>
  bif Jz.1==AX.exit 0 then(
   A.fin σ ah Jz.2.2)else
  bif Jz.1==AX.ret then(
   A.fin σ (Jz.2.1.getD 0 AV.undef) Jz.2.2)else
  none)
noncomputable def J8:List AV→Heap→Option (AV×Heap):=A.wrap true [(.a [(.s 3),(.s 4)]),(.s 3)] .k (A.cR NW)
noncomputable def OR (a0 a1 a2:AV) (σ:Heap):Option (AV×Heap):=
 (A.cells 2 a1).bind fun c1=>
 (A.cells 2 a2).bind fun c2=>
 (A.aj 0 c2).bind fun x3=>
 (A.neq .i x3 ah).bind fun x4=>
 (A.guard x4 true (A.aj 1 c2) an).bind fun x5=>
 (A.guard x4 true (A.neq .i x5 ah) an).bind fun x6=>
 (A.pick x4 x6 aM).bind fun x7=>
 A.cond x7 (
  A.fin σ (AV.aH [ah,(AV.int .i64 3)]) σ) (
  (A.aj 0 c2).bind fun x8=>
  (Kq [x8] σ).bind fun r9=>
  (A.not r9.1).bind fun bJ=>
  A.cond bJ (
   A.fin σ (AV.aH [ah,aG]) r9.2) (
   (A.aj 1 c2).bind fun bT=>
   (A.eql .i bT ah).bind fun cO=>
   A.cond cO (
    (A.aj 0 c2).bind fun dr=>
    A.fin σ (AV.aH [dr,ah]) r9.2) (
    (A.bG a0).bind fun dc=>
    (A.loop (fun cr iI=>
      (A.lss (cr.getD 4 AV.undef) dc).bind fun bK=>
      A.cond bK (
       (A.aU 3 a0 (cr.getD 4 AV.undef)).bind fun cW=>
       ((A.deref cW iI).bind fun iz=>A.ay 0 3 iz).bind fun bM=>
       (A.cells 3 bM).bind fun gq=>
       (A.splice 0 gq [ah,br,AV.au]).bind fun eF=>
       (A.aj 0 eF).bind fun x24=>
       ((A.lb (cr.getD 1 AV.undef)).bind fun _=>some (1)).bind fun p25=>
       ((A.lb (cr.getD 1 AV.undef)).bind fun fM=>A.aj p25 fM).bind fun dK=>
       (A.neq .i x24 dK).bind fun x28=>
       A.cond x28 (
        (A.add (cr.getD 4 AV.undef) aG).bind fun x29=>
        some (AX.normal,[(cr.getD 0 AV.undef),(cr.getD 1 AV.undef),(cr.getD 2 AV.undef),(cr.getD 3 AV.undef),x29],iI)) (
        (A.aj 2 eF).bind fun cH=>
        (A.bG cH).bind fun x31=>
        (A.loop (fun v32 Nv=>
          (A.lss (v32.getD 3 AV.undef) x31).bind fun gn=>
          A.cond gn (
           (A.aU 3 cH (v32.getD 3 AV.undef)).bind fun gI=>
           ((A.deref gI Nv).bind fun fA=>A.ay 0 3 fA).bind fun x38=>
           (A.cells 3 x38).bind fun l7=>
           (A.splice 0 l7 [ah,br,ah]).bind fun yT=>
           (A.ay 0 2 yT).bind fun dW=>
           ((A.lb (v32.getD 0 AV.undef)).bind fun lR=>A.ay 0 2 lR).bind fun fJ=>
           (A.eql (.s [0,2]) dW fJ).bind fun eR=>
           A.cond eR (
            (A.aj 2 yT).bind fun ef=>
            some (AX.ret,[(v32.getD 0 AV.undef),ef,ah,(v32.getD 3 AV.undef)],Nv)) (
            (A.add (v32.getD 3 AV.undef) aG).bind fun fK=>
            some (AX.normal,[(v32.getD 0 AV.undef),(v32.getD 1 AV.undef),(v32.getD 2 AV.undef),fK],Nv))) (
           some (AX.exit 2,[(v32.getD 0 AV.undef),(v32.getD 1 AV.undef),(v32.getD 2 AV.undef),(v32.getD 3 AV.undef)],Nv))) [(cr.getD 0 AV.undef),(cr.getD 2 AV.undef),(cr.getD 3 AV.undef),ah] iI).bind fun n9=>
        bif n9.1==AX.exit 2 then(
         some (AX.exit 0,[(n9.2.1.getD 0 AV.undef),AV.undef,(n9.2.1.getD 1 AV.undef),(n9.2.1.getD 2 AV.undef),(cr.getD 4 AV.undef)],n9.2.2))else
        bif n9.1==AX.ret then(
         some (AX.ret,[(n9.2.1.getD 0 AV.undef),AV.undef,(n9.2.1.getD 1 AV.undef),(n9.2.1.getD 2 AV.undef),(cr.getD 4 AV.undef)],n9.2.2))else
        none)) (
       some (AX.exit 0,[(cr.getD 0 AV.undef),(cr.getD 1 AV.undef),(cr.getD 2 AV.undef),(cr.getD 3 AV.undef),(cr.getD 4 AV.undef)],iI))) [(AV.lbx c1),(AV.lbx c2),ah,ah,ah] r9.2).bind fun kJ=>
    bif kJ.1==AX.exit 0 then(
     A.fin σ (AV.aH [ah,(AV.int .i64 8)]) kJ.2.2)else
    bif kJ.1==AX.ret then(
     A.fin σ (AV.aH [(kJ.2.1.getD 2 AV.undef),(kJ.2.1.getD 3 AV.undef)]) kJ.2.2)else
    none)))
noncomputable def CW:List AV→Heap→Option (AV×Heap):=A.wrap true [(.s 3)] .k (A.lG OR)
end
section
set_option maxRecDepth 100000
noncomputable def OQ (a0:AV) (σ:Heap):Option (AV×Heap):=
 (jC [a0,ah,(AV.int .i64 36000000)] σ).bind fun r1=>
 A.fin σ r1.1 r1.2
noncomputable def Bn:List AV→Heap→Option (AV×Heap):=A.wrap true [] .k (A.cD OQ)
noncomputable def OF (a0 a1:AV) (σ:Heap):Option (AV×Heap):=
 (A.cells 2 a0).bind fun c1=>
 (A.cells 2 a1).bind fun c2=>
 (A.aj 0 c1).bind fun x3=>
 (A.aj 0 c2).bind fun x4=>
 (A.neq .i x3 x4).bind fun x5=>
 A.cond x5 (
  (A.aj 0 c1).bind fun x6=>
  (A.aj 0 c2).bind fun x7=>
  (A.lss x6 x7).bind fun x8=>
  A.cond x8 (
   A.fin σ (AV.int .i64 (-1)) σ) (
   A.fin σ aG σ)) (
  (A.aj 1 c1).bind fun x9=>
  (A.aj 1 c2).bind fun bJ=>
  (Kk [x9,bJ] σ).bind fun dF=>
  A.fin σ dF.1 dF.2)
noncomputable def Ku:List AV→Heap→Option (AV×Heap):=A.wrap true [] .k (A.cR OF)
noncomputable def Od (a0:AV) (σ:Heap):Option (AV×Heap):=
 (A.bG a0).bind fun x1=>
 (A.loop (fun v2 s3=>
   (A.lss (v2.getD 1 AV.undef) x1).bind fun x5=>
   A.cond x5 (
    (A.aU 8 a0 (v2.getD 1 AV.undef)).bind fun x6=>
    ((A.deref x6 s3).bind fun c7=>A.ay 0 8 c7).bind fun x8=>
    (A.cells 8 x8).bind fun c9=>
    (A.splice 0 c9 [ah,br,ah,ah,aM,aM,ah,ah]).bind fun dY=>
    (A.aj 0 dY).bind fun bT=>
    (jC [bT,aG,(AV.int .i64 9999)] s3).bind fun gD=>
    (A.not gD.1).bind fun dr=>
    A.cond dr (
     some (AX.ret,[aG,(v2.getD 1 AV.undef)],gD.2)) (
     (A.aj 1 dY).bind fun dc=>
     (E5 [dc] gD.2).bind fun tv=>
     (A.not tv.1).bind fun cz=>
     A.cond cz (
      some (AX.ret,[(AV.int .i64 5),(v2.getD 1 AV.undef)],tv.2)) (
      (A.aj 4 dY).bind fun cG=>
      (A.guard cG true (A.ay 2 2 dY) an).bind fun bK=>
      (A.guard cG true (some (AV.agg [ah,ah])) an).bind fun cW=>
      (A.guard cG true (A.neq (.s [0,0]) bK cW) an).bind fun dg=>
      (A.pick cG dg aM).bind fun bM=>
      (A.guard bM false (A.aj 2 dY) an).bind fun dh=>
      (A.guard bM false (A.neq .i dh ah) an).bind fun eP=>
      (A.guard bM false (some eP) an).bind fun x24=>
      (A.guard x24 true (A.aj 3 dY) an).bind fun x25=>
      (A.guard x24 true (A.neq .i x25 ah) an).bind fun fC=>
      (A.guard bM false (A.pick x24 fC aM) an).bind fun dK=>
      (A.pick bM cL dK).bind fun x28=>
      A.cond x28 (
       some (AX.ret,[(AV.int .i64 3),(v2.getD 1 AV.undef)],tv.2)) (
       (A.aj 2 dY).bind fun x29=>
       (jC [x29,ah,(AV.int .i64 65535)] tv.2).bind fun Ba=>
       (A.not Ba.1).bind fun x31=>
       (A.guard x31 false (A.aj 3 dY) an).bind fun x32=>
       (A.guard x31 false (A.quiet (jC [x32,ah,(AV.int .i64 999)] Ba.2) Ba.2) an).bind fun ey=>
       (A.guard x31 false (A.not ey) an).bind fun x34=>
       (A.pick x31 cL x34).bind fun gn=>
       A.cond gn (
        some (AX.ret,[aG,(v2.getD 1 AV.undef)],Ba.2)) (
        (A.aj 5 dY).bind fun gI=>
        (A.not gI).bind fun bU=>
        (A.guard bU true (A.aj 6 dY) an).bind fun x38=>
        (A.guard bU true (A.neq .i x38 ah) an).bind fun ff=>
        (A.guard bU true (some ff) an).bind fun cZ=>
        (A.guard cZ false (A.aj 7 dY) an).bind fun dW=>
        (A.guard cZ false (A.neq .i dW ah) an).bind fun ga=>
        (A.guard bU true (A.pick cZ cL ga) an).bind fun fJ=>
        (A.pick bU fJ aM).bind fun eR=>
        A.cond eR (
         some (AX.ret,[(AV.int .i64 3),(v2.getD 1 AV.undef)],Ba.2)) (
         (A.aj 6 dY).bind fun ef=>
         (Bn [ef] Ba.2).bind fun n5=>
         (A.not n5.1).bind fun iJ=>
         (A.guard iJ false (A.aj 7 dY) an).bind fun ig=>
         (A.guard iJ false (A.quiet (Bn [ig] n5.2) n5.2) an).bind fun eA=>
         (A.guard iJ false (A.not eA) an).bind fun mO=>
         (A.pick iJ cL mO).bind fun gP=>
         A.cond gP (
          some (AX.ret,[aG,(v2.getD 1 AV.undef)],n5.2)) (
          (A.gtr (v2.getD 1 AV.undef) ah).bind fun eB=>
          (A.guard eB true (some a0) an).bind fun gQ=>
          (A.guard eB true (some (v2.getD 1 AV.undef)) an).bind fun gy=>
          (A.guard eB true (A.sub gy aG) an).bind fun kL=>
          (A.guard eB true (A.aU 8 gQ kL) an).bind fun gz=>
          (A.guard eB true (A.aA 0 gz) an).bind fun jJ=>
          (A.guard eB true ((A.deref jJ n5.2).bind fun iR=>A.ay 0 2 iR) an).bind fun eG=>
          (A.guard eB true (A.ay 0 2 dY) an).bind fun gE=>
          (A.guard eB true (A.quiet (Ku [eG,gE] n5.2) n5.2) an).bind fun iT=>
          (A.guard eB true (A.geq iT ah) an).bind fun eS=>
          (A.pick eB eS aM).bind fun fD=>
          A.cond fD (
           some (AX.ret,[(AV.int .i64 7),(v2.getD 1 AV.undef)],n5.2)) (
           (A.add (v2.getD 1 AV.undef) aG).bind fun lC=>
           some (AX.normal,[(v2.getD 0 AV.undef),lC],n5.2))))))))) (
    some (AX.exit 0,[(v2.getD 0 AV.undef),(v2.getD 1 AV.undef)],s3))) [ah,ah] σ).bind fun vM=>
 bif vM.1==AX.exit 0 then(
  A.fin σ ah vM.2.2)else
 bif vM.1==AX.ret then(
  A.fin σ (vM.2.1.getD 0 AV.undef) vM.2.2)else
 none
noncomputable def Oc:List AV→Heap→Option (AV×Heap):=A.wrap true [(.s 8)] .k (A.cD Od)
noncomputable def PB (a0:AV) (σ:Heap):Option (AV×Heap):=
 (A.bG a0).bind fun x1=>
 (A.gtr x1 (AV.int .i64 300)).bind fun x2=>
 A.cond x2 (
  A.fin σ (AV.int .i64 2) σ) (
  (A.bG a0).bind fun x3=>
  (A.loop (fun v4 s5=>
    (A.lss (v4.getD 2 AV.undef) x3).bind fun x7=>
    A.cond x7 (
     (A.aU 11 a0 (v4.getD 2 AV.undef)).bind fun x8=>
     ((A.deref x8 s5).bind fun c9=>A.ay 0 11 c9).bind fun bJ=>
     (A.cells 11 bJ).bind fun gh=>
     (A.splice 0 gh [ah,br,ah,ah,ah,ah,ah,AV.au,aM,ah,AV.au]).bind fun eo=>
     (A.aj 0 eo).bind fun dr=>
     (jC [dr,aG,(AV.int .i64 9999999)] s5).bind fun jd=>
     (A.not jd.1).bind fun cU=>
     A.cond cU (
      some (AX.ret,[aG,(v4.getD 1 AV.undef),(v4.getD 2 AV.undef)],jd.2)) (
      (A.gtr (v4.getD 2 AV.undef) ah).bind fun cz=>
      (A.guard cz true (A.aj 0 eo) an).bind fun cG=>
      (A.guard cz true (some a0) an).bind fun bK=>
      (A.guard cz true (some (v4.getD 2 AV.undef)) an).bind fun cW=>
      (A.guard cz true (A.sub cW aG) an).bind fun dg=>
      (A.guard cz true (A.aU 11 bK dg) an).bind fun bM=>
      (A.guard cz true (A.aA 0 bM) an).bind fun dh=>
      (A.guard cz true ((A.deref dh jd.2).bind fun eF=>A.aj 0 eF) an).bind fun x24=>
      (A.guard cz true (A.leq cG x24) an).bind fun x25=>
      (A.pick cz x25 aM).bind fun fC=>
      A.cond fC (
       some (AX.ret,[(AV.int .i64 7),(v4.getD 1 AV.undef),(v4.getD 2 AV.undef)],jd.2)) (
       (A.aj 1 eo).bind fun dK=>
       (A.neq .z dK br).bind fun x28=>
       (A.guard x28 true (A.aj 1 eo) an).bind fun x29=>
       (A.guard x28 true (A.quiet (Kz [x29] jd.2) jd.2) an).bind fun cH=>
       (A.guard x28 true (A.not cH) an).bind fun x31=>
       (A.pick x28 x31 aM).bind fun x32=>
       A.cond x32 (
        some (AX.ret,[(AV.int .i64 3),(v4.getD 1 AV.undef),(v4.getD 2 AV.undef)],jd.2)) (
        (A.aj 2 eo).bind fun ey=>
        (Bn [ey] jd.2).bind fun lB=>
        (A.not lB.1).bind fun gn=>
        (A.guard gn false (A.aj 3 eo) an).bind fun gI=>
        (A.guard gn false (A.quiet (Bn [gI] lB.2) lB.2) an).bind fun bU=>
        (A.guard gn false (A.not bU) an).bind fun x38=>
        (A.pick gn cL x38).bind fun ff=>
        (A.guard ff false (A.aj 4 eo) an).bind fun cZ=>
        (A.guard ff false (A.quiet (Bn [cZ] lB.2) lB.2) an).bind fun dW=>
        (A.guard ff false (A.not dW) an).bind fun ga=>
        (A.pick ff cL ga).bind fun fJ=>
        (A.guard fJ false (A.aj 5 eo) an).bind fun eR=>
        (A.guard fJ false (A.quiet (Bn [eR] lB.2) lB.2) an).bind fun ef=>
        (A.guard fJ false (A.not ef) an).bind fun fK=>
        (A.pick fJ cL fK).bind fun iJ=>
        (A.guard iJ false (A.aj 9 eo) an).bind fun ig=>
        (A.guard iJ false (A.quiet (jC [ig,(AV.int .i64 (-1)),(AV.int .i64 36000000)] lB.2) lB.2) an).bind fun eA=>
        (A.guard iJ false (A.not eA) an).bind fun mO=>
        (A.pick iJ cL mO).bind fun gP=>
        A.cond gP (
         some (AX.ret,[aG,(v4.getD 1 AV.undef),(v4.getD 2 AV.undef)],lB.2)) (
         (A.ay 6 2 eo).bind fun eB=>
         (Ka [eB] lB.2).bind fun cg=>
         (A.neq .i cg.1 ah).bind fun gy=>
         A.cond gy (
          some (AX.ret,[cg.1,(v4.getD 1 AV.undef),(v4.getD 2 AV.undef)],cg.2)) (
          (A.aj 10 eo).bind fun kL=>
          (A.bG kL).bind fun gz=>
          (A.gtr gz (AV.int .i64 2000)).bind fun jJ=>
          A.cond jJ (
           some (AX.ret,[(AV.int .i64 2),(v4.getD 1 AV.undef),(v4.getD 2 AV.undef)],cg.2)) (
           (A.aj 10 eo).bind fun gA=>
           (Oc [gA] cg.2).bind fun Nr=>
           (A.neq .i Nr.1 ah).bind fun gE=>
           A.cond gE (
            some (AX.ret,[Nr.1,(v4.getD 1 AV.undef),(v4.getD 2 AV.undef)],Nr.2)) (
            (A.aj 10 eo).bind fun iT=>
            (A.bG iT).bind fun eS=>
            (A.add (v4.getD 1 AV.undef) eS).bind fun fD=>
            (A.add (v4.getD 2 AV.undef) aG).bind fun lC=>
            some (AX.normal,[(v4.getD 0 AV.undef),fD,lC],Nr.2))))))))) (
     some (AX.exit 0,[(v4.getD 0 AV.undef),(v4.getD 1 AV.undef),(v4.getD 2 AV.undef)],s5))) [ah,ah,ah] σ).bind fun vM=>
  bif vM.1==AX.exit 0 then(
   (A.gtr (vM.2.1.getD 1 AV.undef) (AV.int .i64 10000)).bind fun fP=>
   (rD [fP,(AV.int .i64 2)] vM.2.2).bind fun fc=>
   A.fin σ fc.1 fc.2)else
  bif vM.1==AX.ret then(
   A.fin σ (vM.2.1.getD 0 AV.undef) vM.2.2)else
  none)
noncomputable def Hh:List AV→Heap→Option (AV×Heap):=A.wrap true [(.e 11 uk)] .k (A.cD PB)
noncomputable def Ol (a0 a1 a2:AV) (σ:Heap):Option (AV×Heap):=
 (A.cells 2 a0).bind fun c1=>
 (A.ay 0 2 c1).bind fun x2=>
 (J8 [x2,a1] σ).bind fun r3=>
 (Hh [a2] r3.2).bind fun r4=>
 ((((A.cell r3.1).bind fun v=>some [v]).bind fun c5=>(A.splice 0 c5 [ah,ah]).bind fun c6=>((A.cell r4.1).bind fun v=>some [v]).bind fun c7=>(A.splice 1 c7 c6).bind fun c8=>some c8).bind fun cs=>some (AV.sl 1 (chunks 1 2 cs))).bind fun x9=>
 (ya [x9] r4.2).bind fun jm=>
 (A.neq .i jm.1 ah).bind fun bT=>
 A.cond bT (
  A.fin σ jm.1 jm.2) (
  (A.ay 0 2 c1).bind fun cO=>
  (ET [cO] jm.2).bind fun qX=>
  (A.ext 0 qX.1).bind fun dc=>
  (A.ext 1 qX.1).bind fun cU=>
  (A.bG dc).bind fun cz=>
  (A.loop (fun v17 vO=>
    (A.lss (v17.getD 0 AV.undef) cz).bind fun dg=>
    A.cond dg (
     (A.aU 2 dc (v17.getD 0 AV.undef)).bind fun bM=>
     ((A.deref bM vO).bind fun gq=>A.ay 0 2 gq).bind fun eP=>
     (A.cells 2 eP).bind fun gr=>
     (A.splice 0 gr [ah,br]).bind fun gO=>
     (A.ay 0 2 gO).bind fun fC=>
     (A.ew (.s [0,2]) (AV.om qX.2.length) fC cL vO).bind fun h27=>
     (A.add (v17.getD 0 AV.undef) aG).bind fun x28=>
     some (AX.normal,[x28],h27)) (
     some (AX.exit 0,[(v17.getD 0 AV.undef)],vO))) [ah] (qX.2++[aJ.map []])).bind fun gj=>
  bif gj.1==AX.exit 0 then(
   (A.bG a2).bind fun cH=>
   (A.loop (fun v31 sG=>
     (A.lss (v31.getD 1 AV.undef) cH).bind fun x34=>
     A.cond x34 (
      (A.aU 11 a2 (v31.getD 1 AV.undef)).bind fun gn=>
      ((A.deref gn sG).bind fun gY=>A.ay 0 11 gY).bind fun bU=>
      (A.cells 11 bU).bind fun lg=>
      (A.splice 0 lg [ah,br,ah,ah,ah,ah,ah,AV.au,aM,ah,AV.au]).bind fun l7=>
      (A.aj 10 l7).bind fun cZ=>
      (A.bG cZ).bind fun dW=>
      (A.loop (fun CE JC=>
        (A.lss (CE.getD 1 AV.undef) dW).bind fun ef=>
        A.cond ef (
         (A.aU 8 cZ (CE.getD 1 AV.undef)).bind fun fK=>
         ((A.deref fK JC).bind fun gZ=>A.ay 0 8 gZ).bind fun ig=>
         (A.cells 8 ig).bind fun AJ=>
         (A.splice 0 AJ [ah,br,ah,ah,aM,aM,ah,ah]).bind fun nR=>
         (A.ay 0 2 nR).bind fun gP=>
         (A.look (.s [0,2]) (AV.om qX.2.length) gP aM JC).bind fun eB=>
         (A.not eB).bind fun gQ=>
         A.cond gQ (
          some (AX.ret,[(AV.int .i64 8),(CE.getD 1 AV.undef)],JC)) (
          (A.ay 0 2 nR).bind fun gy=>
          (A.ay 2 2 nR).bind fun kL=>
          (CW [a1,gy,kL] JC).bind fun CB=>
          (A.ext 0 CB.1).bind fun jJ=>
          (A.ext 1 CB.1).bind fun gA=>
          (A.neq .i gA ah).bind fun eG=>
          A.cond eG (
           some (AX.ret,[gA,(CE.getD 1 AV.undef)],CB.2)) (
           (A.add (CE.getD 1 AV.undef) aG).bind fun gE=>
           some (AX.normal,[(CE.getD 0 AV.undef),gE],CB.2)))) (
         some (AX.exit 4,[(CE.getD 0 AV.undef),(CE.getD 1 AV.undef)],JC))) [(v31.getD 0 AV.undef),ah] sG).bind fun tE=>
      bif tE.1==AX.exit 4 then(
       (A.add (v31.getD 1 AV.undef) aG).bind fun eS=>
       some (AX.normal,[(tE.2.1.getD 0 AV.undef),eS],tE.2.2))else
      bif tE.1==AX.ret then(
       some (AX.ret,[(tE.2.1.getD 0 AV.undef),(v31.getD 1 AV.undef)],tE.2.2))else
      none) (
      some (AX.exit 2,[(v31.getD 0 AV.undef),(v31.getD 1 AV.undef)],sG))) [ah,ah] gj.2.2).bind fun tF=>
   bif tF.1==AX.exit 2 then(
    A.fin σ ah tF.2.2)else
   bif tF.1==AX.ret then(
    A.fin σ (tF.2.1.getD 0 AV.undef) tF.2.2)else
   none)else
  none)
noncomputable def Oi:List AV→Heap→Option (AV×Heap):=A.wrap true [(.a [(.e 3 Dq),(.s 4)]),(.e 3 [.k,.k,(.s 3)]),(.e 11 uk)] .k (A.lG Ol)
noncomputable def Pa (a0:AV) (σ:Heap):Option (AV×Heap):=
 (A.bG a0).bind fun x1=>
 (A.loop (fun v2 s3=>
   (A.lss (v2.getD 0 AV.undef) x1).bind fun x5=>
   A.cond x5 (
    (A.aU 11 a0 (v2.getD 0 AV.undef)).bind fun x6=>
    ((A.deref x6 s3).bind fun c7=>A.ay 0 11 c7).bind fun x8=>
    (A.cells 11 x8).bind fun c9=>
    (A.splice 0 c9 [ah,br,ah,ah,ah,ah,ah,AV.au,aM,ah,AV.au]).bind fun dY=>
    (A.aj 10 dY).bind fun bT=>
    (A.bG bT).bind fun cO=>
    (A.loop (fun kT xT=>
      (A.lss (kT.getD 1 AV.undef) cO).bind fun cz=>
      A.cond cz (
       (A.aU 8 bT (kT.getD 1 AV.undef)).bind fun cG=>
       ((A.deref cG xT).bind fun iZ=>A.ay 0 8 iZ).bind fun cW=>
       (A.cells 8 cW).bind fun iz=>
       (A.splice 0 iz [ah,br,ah,ah,aM,aM,ah,ah]).bind fun kC=>
       (A.aj 4 kC).bind fun dh=>
       (A.cond dh (
        (A.ay 0 2 kC).bind fun x24=>
        (A.DL (.s [0,2]) (AV.om σ.length) x24 xT).bind fun h25=>
        some ([(kT.getD 0 AV.undef)],h25)) (
        (A.ay 0 2 kC).bind fun fC=>
        (A.ay 0 2 kC).bind fun dK=>
        (A.ay 2 2 kC).bind fun x28=>
        ((A.lb (kT.getD 0 AV.undef)).bind fun _=>some (0)).bind fun p29=>
        ((A.lb (kT.getD 0 AV.undef)).bind fun su=>A.aj p29 su).bind fun x31=>
        (((A.cells 2 dK).bind fun Tg=>(A.splice 0 Tg [ah,br,ah,ah,ah]).bind fun D5=>(A.cells 2 x28).bind fun sv=>(A.splice 2 sv D5).bind fun gX=>((A.cell x31).bind fun v=>some [v]).bind fun gY=>(A.splice 4 gY gX).bind fun fA=>some fA).bind fun cs=>some (AV.agg cs)).bind fun x38=>
        (A.ew (.s [0,2]) (AV.om σ.length) fC x38 xT).bind fun qR=>
        some ([(kT.getD 0 AV.undef)],qR))).bind fun nC=>
       (A.add (kT.getD 1 AV.undef) aG).bind fun cZ=>
       some (AX.normal,[(nC.1.getD 0 AV.undef),cZ],nC.2)) (
       some (AX.exit 2,[(kT.getD 0 AV.undef),(kT.getD 1 AV.undef)],xT))) [(AV.lbx dY),ah] s3).bind fun Ey=>
    bif Ey.1==AX.exit 2 then(
     (A.add (v2.getD 0 AV.undef) aG).bind fun ga=>
     some (AX.normal,[ga],Ey.2.2))else
    none) (
    some (AX.exit 0,[(v2.getD 0 AV.undef)],s3))) [ah] (σ++[aJ.map []])).bind fun iS=>
 bif iS.1==AX.exit 0 then(
  A.fin σ (AV.om σ.length) iS.2.2)else
 none
noncomputable def G7:List AV→Heap→Option (AV×Heap):=A.wrap true [(.e 11 uk)] .k (A.cD Pa)
noncomputable def Om (a0 a1:AV) (σ:Heap):Option (AV×Heap):=
 (A.cells 11 a0).bind fun c1=>
 (A.aj 0 c1).bind fun x2=>
 (A.sub x2 a1).bind fun x3=>
 A.fin σ x3 σ
noncomputable def CP:List AV→Heap→Option (AV×Heap):=A.wrap true [(.a uk)] .k (A.cR Om)
noncomputable def KL (a0 a1:AV) (σ:Heap):Option (AV×Heap):=
 (ED (A.tab (fun _ _=>none) [(177,CP)]) [a0,a1,(AV.fn 177 [])] σ).bind fun r1=>
 (A.ext 0 r1.1).bind fun x2=>
 (A.ext 1 r1.1).bind fun x3=>
 A.fin σ (AV.aH [x2,x3]) r1.2
noncomputable def E4:List AV→Heap→Option (AV×Heap):=A.wrap true [(.e 11 uk)] .k (A.cR KL)
noncomputable def adh (a0 a1:AV) (σ:Heap):Option (AV×Heap):=
 (A.cells 5 a0).bind fun c1=>
 (A.cells 5 a1).bind fun c2=>
 (A.ay 0 2 c1).bind fun x3=>
 (A.ay 0 2 c2).bind fun x4=>
 (Ku [x3,x4] σ).bind fun r5=>
 A.fin σ r5.1 r5.2
noncomputable def UK:List AV→Heap→Option (AV×Heap):=A.wrap true [] .k (A.cR adh)
noncomputable def KK (a0 a1:AV) (σ:Heap):Option (AV×Heap):=
 (Hh [a0] σ).bind fun r1=>
 (A.neq .i r1.1 ah).bind fun x2=>
 A.cond x2 (
  (A.fin σ (AV.aH [AV.au,r1.1]) r1.2).map fun p=>(A.nn (.t [(.s 5),.k]) p.1,p.2)) (
  (E4 [a0,a1] r1.2).bind fun r3=>
  (A.ext 0 r3.1).bind fun x4=>
  (A.ext 1 r3.1).bind fun x5=>
  (A.not x5).bind fun x6=>
  A.cond x6 (
   (A.fin σ (AV.aH [AV.au,(AV.int .i64 8)]) r3.2).map fun p=>(A.nn (.t [(.s 5),.k]) p.1,p.2)) (
   (A.add x4 aG).bind fun x7=>
   (A.zL 11 a0 none (some x7) r3.2).bind fun x8=>
   (G7 [x8] r3.2).bind fun r9=>
   (A.BL r9.1).bind fun anF=>
   A.zS (fun v11 kK Nn=>
     A.sS (AV.op r9.2.length 0) kK fun dc Bc=>
     (A.ext 0 dc).bind fun cz=>
     A.cond cz (
      (A.uW (AV.op r9.2.length 0) Bc).bind fun cG=>
      (A.ext 1 cG).bind fun bK=>
      (A.cells 5 bK).bind fun gM=>
      (A.splice 0 gM [ah,br,ah,ah,ah]).bind fun iz=>
      (A.ay 0 5 iz).bind fun bM=>
      (((A.cells 5 bM).bind fun gq=>(A.splice 0 gq [ah,br,ah,ah,ah]).bind fun eF=>some eF).bind fun cs=>some (AV.sl 5 (chunks 5 1 cs))).bind fun x24=>
      (A.append 5 (140737488355328 / 48) (v11.getD 0 AV.undef) x24 Bc).bind fun jQ=>
      Nn (AX.normal,[jQ.1],jQ.2)) (
      Nn (AX.exit 0,[(v11.getD 0 AV.undef)],Bc))) [AV.au] (r9.2++[aJ.it [] anF]) fun kn=>
   bif kn.1==AX.exit 0 then(
    (GI [(kn.2.1.getD 0 AV.undef),(AV.fn 297 [])] kn.2.2).bind fun xK=>
    (A.fin σ (AV.aH [(kn.2.1.getD 0 AV.undef),ah]) xK.2).map fun p=>(A.nn (.t [(.s 5),.k]) p.1,p.2))else
   none))
noncomputable def KE:List AV→Heap→Option (AV×Heap):=A.wrap true [(.e 11 uk)] (.t [(.s 5),.k]) (A.cR KK)
end
section
set_option maxRecDepth 100000
noncomputable def Oo (a0 a1:AV) (σ:Heap):Option (AV×Heap):=
 (A.cells 2 a0).bind fun c1=>
 (A.aj 0 c1).bind fun x2=>
 ((A.deref a1 σ).bind fun c3=>A.aj 0 c3).bind fun x4=>
 (A.eql .i x2 x4).bind fun x5=>
 A.fin σ x5 σ
noncomputable def GS:List AV→Heap→Option (AV×Heap):=A.wrap true [(.a [.k,(.s 11)])] .k (A.cR Oo)
noncomputable def KN (a0 a1:AV) (σ:Heap):Option (AV×Heap):=
 (A.cells 5 a0).bind fun c1=>
 (((A.cell a1).bind fun v=>some [v]).bind fun cs=>some (AV.rp cs)).bind fun x2=>
 (A.aj 3 c1).bind fun x3=>
 (JZ (A.tab (fun _ _=>none) [(127,GS)]) [x3,(AV.fn 127 [x2])] σ).bind fun r4=>
 (A.lss r4.1 ah).bind fun x5=>
 A.cond x5 (
  (A.cells 2 (AV.agg [ah,AV.au])).bind fun c6=>
  (A.splice 0 c6 [ah,AV.au]).bind fun c7=>
  (A.ay 0 2 c7).bind fun x8=>
  A.fin σ (AV.aH [x8,aM]) r4.2) (
  (A.aj 3 c1).bind fun x9=>
  (A.aU 2 x9 r4.1).bind fun bJ=>
  ((A.deref bJ r4.2).bind fun gh=>A.ay 0 2 gh).bind fun cO=>
  (A.cells 2 cO).bind fun iY=>
  (A.splice 0 iY [ah,AV.au]).bind fun jP=>
  (A.ay 0 2 jP).bind fun cU=>
  A.fin σ (AV.aH [cU,cL]) r4.2)
noncomputable def Bp:List AV→Heap→Option (AV×Heap):=A.wrap true [zW] (.t [(.a [.k,(.e 11 uk)]),.k]) (A.cR KN)
noncomputable def Ob (a0:AV) (σ:Heap):Option (AV×Heap):=
 (A.cells 5 a0).bind fun c1=>
 (A.ay 0 2 c1).bind fun x2=>
 (A.aj 2 c1).bind fun x3=>
 (A.quiet (J8 [x2,x3] σ) σ).bind fun x4=>
 (A.aj 3 c1).bind fun x5=>
 (A.bG x5).bind fun x6=>
 (A.gtr x6 (AV.int .i64 30)).bind fun x7=>
 (A.quiet (rD [x7,(AV.int .i64 2)] σ) σ).bind fun x8=>
 ((((A.cell x4).bind fun v=>some [v]).bind fun c9=>(A.splice 0 c9 [ah,ah]).bind fun dY=>((A.cell x8).bind fun v=>some [v]).bind fun gh=>(A.splice 1 gh dY).bind fun eo=>some eo).bind fun cs=>some (AV.sl 1 (chunks 1 2 cs))).bind fun dr=>
 (A.quiet (ya [dr] σ) σ).bind fun dc=>
 (A.neq .i dc ah).bind fun cU=>
 A.cond cU (
  A.fin σ dc σ) (
  (A.aj 3 c1).bind fun cz=>
  (A.bG cz).bind fun cG=>
  (A.loop (fun mh T3=>
    (A.lss (mh.getD 2 AV.undef) cG).bind fun bM=>
    A.cond bM (
     (A.aU 2 cz (mh.getD 2 AV.undef)).bind fun dh=>
     ((A.deref dh T3).bind fun eF=>A.ay 0 2 eF).bind fun x24=>
     (A.cells 2 x24).bind fun gO=>
     (A.splice 0 gO [ah,AV.au]).bind fun fM=>
     (A.aj 0 fM).bind fun dK=>
     (jC [dK,aG,(AV.int .i64 999)] T3).bind fun sC=>
     (A.not sC.1).bind fun x29=>
     A.cond x29 (
      some (AX.ret,[(mh.getD 0 AV.undef),aG,(mh.getD 2 AV.undef)],sC.2)) (
      (A.gtr (mh.getD 2 AV.undef) ah).bind fun cH=>
      (A.guard cH true (A.aj 0 fM) an).bind fun x31=>
      ((A.lb (mh.getD 0 AV.undef)).bind fun _=>some (3)).bind fun p32=>
            (A.guard cH true ((A.lb (mh.getD 0 AV.undef)).bind fun D5=>A.aj p32 D5) an).bind fun x34=>
      (A.guard cH true (some (mh.getD 2 AV.undef)) an).bind fun gn=>
      (A.guard cH true (A.sub gn aG) an).bind fun gI=>
      (A.guard cH true (A.aU 2 x34 gI) an).bind fun bU=>
      (A.guard cH true (A.aA 0 bU) an).bind fun x38=>
      (A.guard cH true ((A.deref x38 sC.2).bind fun l7=>A.aj 0 l7) an).bind fun cZ=>
      (A.guard cH true (A.leq x31 cZ) an).bind fun dW=>
      (A.pick cH dW aM).bind fun ga=>
      A.cond ga (
       some (AX.ret,[(mh.getD 0 AV.undef),(AV.int .i64 7),(mh.getD 2 AV.undef)],sC.2)) (
       ((A.lb (mh.getD 0 AV.undef)).bind fun _=>some (0)).bind fun p43=>
       ((A.lb (mh.getD 0 AV.undef)).bind fun D6=>A.ay p43 2 D6).bind fun ef=>
       ((A.lb (mh.getD 0 AV.undef)).bind fun _=>some (2)).bind fun Jq=>
       ((A.lb (mh.getD 0 AV.undef)).bind fun gZ=>A.aj Jq gZ).bind fun ig=>
       (A.aj 1 fM).bind fun eA=>
       (Oi [ef,ig,eA] sC.2).bind fun cE=>
       (A.neq .i cE.1 ah).bind fun gP=>
       A.cond gP (
        some (AX.ret,[(mh.getD 0 AV.undef),cE.1,(mh.getD 2 AV.undef)],cE.2)) (
        (A.add (mh.getD 2 AV.undef) aG).bind fun eB=>
        some (AX.normal,[(mh.getD 0 AV.undef),(mh.getD 1 AV.undef),eB],cE.2))))) (
     some (AX.exit 0,[(mh.getD 0 AV.undef),(mh.getD 1 AV.undef),(mh.getD 2 AV.undef)],T3))) [(AV.lbx c1),ah,ah] σ).bind fun cg=>
  bif cg.1==AX.exit 0 then(
   ((A.lb (cg.2.1.getD 0 AV.undef)).bind fun _=>some (4)).bind fun p54=>
   ((A.lb (cg.2.1.getD 0 AV.undef)).bind fun iA=>A.aj p54 iA).bind fun gz=>
   (A.bG gz).bind fun jJ=>
   (A.gtr jJ (AV.int .i64 40)).bind fun gA=>
   A.cond gA (
    A.fin σ (AV.int .i64 2) cg.2.2) (
    ((A.lb (cg.2.1.getD 0 AV.undef)).bind fun _=>some (4)).bind fun p59=>
    ((A.lb (cg.2.1.getD 0 AV.undef)).bind fun AK=>A.aj p59 AK).bind fun iT=>
    (A.bG iT).bind fun eS=>
    (A.loop (fun mN T6=>
      (A.lss (mN.getD 2 AV.undef) eS).bind fun fP=>
      A.cond fP (
       (A.aU 3 iT (mN.getD 2 AV.undef)).bind fun jy=>
       ((A.deref jy T6).bind fun IN=>A.ay 0 3 IN).bind fun fk=>
       (A.cells 3 fk).bind fun Tj=>
       (A.splice 0 Tj [ah,ah,ah]).bind fun lI=>
       (A.aj 0 lI).bind fun oa=>
       (jC [oa,aG,(AV.int .i64 40)] T6).bind fun Jy=>
       (A.not Jy.1).bind fun iq=>
       A.cond iq (
        some (AX.ret,[(mN.getD 0 AV.undef),aG,(mN.getD 2 AV.undef)],Jy.2)) (
        (A.gtr (mN.getD 2 AV.undef) ah).bind fun eC=>
        (A.guard eC true (A.aj 0 lI) an).bind fun jf=>
        ((A.lb (mN.getD 0 AV.undef)).bind fun _=>some (4)).bind fun sB=>
                (A.guard eC true ((A.lb (mN.getD 0 AV.undef)).bind fun nU=>A.aj sB nU) an).bind fun jS=>
        (A.guard eC true (some (mN.getD 2 AV.undef)) an).bind fun fT=>
        (A.guard eC true (A.sub fT aG) an).bind fun p6=>
        (A.guard eC true (A.aU 3 jS p6) an).bind fun p7=>
        (A.guard eC true (A.aA 0 p7) an).bind fun rq=>
        (A.guard eC true ((A.deref rq Jy.2).bind fun i7=>A.aj 0 i7) an).bind fun iL=>
        (A.guard eC true (A.leq jf iL) an).bind fun jB=>
        (A.pick eC jB aM).bind fun mQ=>
        A.cond mQ (
         some (AX.ret,[(mN.getD 0 AV.undef),(AV.int .i64 7),(mN.getD 2 AV.undef)],Jy.2)) (
         ((A.lb (mN.getD 0 AV.undef)).bind fun AN=>A.ay 0 5 AN).bind fun Bg=>
         (A.aj 1 lI).bind fun x90=>
         (Bp [Bg,x90] Jy.2).bind fun zc=>
         (A.ext 0 zc.1).bind fun oc=>
         (A.ext 1 zc.1).bind fun x93=>
         (A.cells 2 oc).bind fun sx=>
         (A.splice 0 sx [ah,AV.au]).bind fun jt=>
         (A.not x93).bind fun x96=>
         A.cond x96 (
          some (AX.ret,[(mN.getD 0 AV.undef),(AV.int .i64 8),(mN.getD 2 AV.undef)],zc.2)) (
          (A.aj 2 lI).bind fun xX=>
          (jC [xX,ah,(AV.int .i64 100)] zc.2).bind fun ze=>
          (A.not ze.1).bind fun x99=>
          A.cond x99 (
           some (AX.ret,[(mN.getD 0 AV.undef),aG,(mN.getD 2 AV.undef)],ze.2)) (
           (A.add (mN.getD 2 AV.undef) aG).bind fun nJ=>
           some (AX.normal,[(mN.getD 0 AV.undef),(mN.getD 1 AV.undef),nJ],ze.2)))))) (
       some (AX.exit 2,[(mN.getD 0 AV.undef),(mN.getD 1 AV.undef),(mN.getD 2 AV.undef)],T6))) [(cg.2.1.getD 0 AV.undef),(cg.2.1.getD 1 AV.undef),ah] cg.2.2).bind fun vu=>
    bif vu.1==AX.exit 2 then(
     A.fin σ ah vu.2.2)else
    bif vu.1==AX.ret then(
     A.fin σ (vu.2.1.getD 1 AV.undef) vu.2.2)else
    none))else
  bif cg.1==AX.ret then(
   A.fin σ (cg.2.1.getD 1 AV.undef) cg.2.2)else
  none)
noncomputable def Kj:List AV→Heap→Option (AV×Heap):=A.wrap true [zW] .k (A.cD Ob)
noncomputable def N5 (a0:AV) (σ:Heap):Option (AV×Heap):=
 (A.cells 5 a0).bind fun c1=>
 (A.aj 1 c1).bind fun x2=>
 (jC [x2,aG,(AV.int .i64 9)] σ).bind fun r3=>
 (A.not r3.1).bind fun x4=>
 A.cond x4 (
  A.fin σ (AV.int .i64 4) r3.2) (
  (A.aj 1 c1).bind fun x5=>
  (A.eql .i x5 (AV.int .i64 8)).bind fun x6=>
  (A.guard x6 false (A.aj 1 c1) an).bind fun x7=>
  (A.guard x6 false (A.eql .i x7 (AV.int .i64 9)) an).bind fun x8=>
  (A.pick x6 cL x8).bind fun x9=>
  (A.guard x9 false (A.aj 1 c1) an).bind fun bJ=>
  (A.guard x9 false (A.eql .i bJ (AV.int .i64 6)) an).bind fun bT=>
  (A.pick x9 cL bT).bind fun cO=>
  (A.guard cO false (A.aj 1 c1) an).bind fun dr=>
  (A.guard cO false (A.eql .i dr (AV.int .i64 7)) an).bind fun dc=>
  (A.pick cO cL dc).bind fun cU=>
  (A.guard x9 true (A.aj 2 c1) an).bind fun cz=>
  (A.guard x9 true (A.neq .i cz ah) an).bind fun cG=>
  (A.pick x9 cG aM).bind fun bK=>
  (A.guard bK false (A.aj 1 c1) an).bind fun cW=>
  (A.guard bK false (A.neq .i cW (AV.int .i64 3)) an).bind fun dg=>
  (A.guard bK false (some dg) an).bind fun bM=>
  (A.guard bM true (A.aj 3 c1) an).bind fun dh=>
  (A.guard bM true (A.neq .i dh ah) an).bind fun eP=>
  (A.guard bK false (A.pick bM eP aM) an).bind fun x24=>
  (A.pick bK cL x24).bind fun x25=>
  (A.guard x25 false (some cU) an).bind fun fC=>
  (A.guard x25 false (A.not fC) an).bind fun dK=>
  (A.guard x25 false (some dK) an).bind fun x28=>
  (A.guard x28 true (A.aj 4 c1) an).bind fun x29=>
  (A.guard x28 true (A.neq .i x29 ah) an).bind fun cH=>
  (A.guard x25 false (A.pick x28 cH aM) an).bind fun x31=>
  (A.pick x25 cL x31).bind fun x32=>
  A.cond x32 (
   A.fin σ (AV.int .i64 3) r3.2) (
   A.fin σ ah r3.2))
noncomputable def Kb:List AV→Heap→Option (AV×Heap):=A.wrap true [] .k (A.cD N5)
noncomputable def NQ (a0 a1:AV) (σ:Heap):Option (AV×Heap):=
 (A.cells 3 a0).bind fun c1=>
 (A.aj 0 c1).bind fun x2=>
 (A.aA 2 a1).bind fun x3=>
 ((A.deref x3 σ).bind fun c4=>A.aj 0 c4).bind fun x5=>
 (A.eql .i x2 x5).bind fun x6=>
 A.fin σ x6 σ
noncomputable def GJ:List AV→Heap→Option (AV×Heap):=A.wrap true [] .k (A.cR NQ)
noncomputable def Kf (a0 a1:AV) (σ:Heap):Option (AV×Heap):=
 (A.cells 5 a0).bind fun c1=>
 ((A.cells 5 a1).bind fun cs=>some (AV.rp cs)).bind fun x2=>
 (A.aA 1 x2).bind fun x3=>
 ((A.deref x3 σ).bind fun c4=>A.aj 0 c4).bind fun x5=>
 (A.eql .i x5 (AV.int .i64 8)).bind fun x6=>
 (A.guard x6 false (A.aA 1 x2) an).bind fun x7=>
 (A.guard x6 false ((A.deref x7 σ).bind fun c8=>A.aj 0 c8) an).bind fun x9=>
 (A.guard x6 false (A.eql .i x9 (AV.int .i64 9)) an).bind fun bJ=>
 (A.pick x6 cL bJ).bind fun bT=>
 (A.not bT).bind fun cO=>
 (A.guard cO true (A.aj 4 c1) an).bind fun dr=>
 (A.guard cO true (some (AV.fn 152 [x2])) an).bind fun dc=>
 (A.guard cO true (A.quiet (JS (A.tab (fun _ _=>none) [(152,GJ)]) [dr,dc] σ) σ) an).bind fun cU=>
 (A.guard cO true (A.not cU) an).bind fun cz=>
 (A.pick cO cz aM).bind fun cG=>
 A.cond cG (
  A.fin σ (AV.int .i64 8) σ) (
  (A.aA 1 x2).bind fun bK=>
  ((A.deref bK σ).bind fun gM=>A.aj 0 gM).bind fun dg=>
  (A.eql .i dg (AV.int .i64 6)).bind fun bM=>
  (A.cond bM (
   some ([(AV.int .i64 36000000)],σ)) (
   (A.eql .i dg (AV.int .i64 9)).bind fun eP=>
   (A.cond eP (
    some ([aG],σ)) (
    some ([(AV.int .i64 65535)],σ))).bind fun tD=>
   some ([(tD.1.getD 0 AV.undef)],tD.2))).bind fun Ex=>
  (A.aA 4 x2).bind fun x25=>
  ((A.deref x25 Ex.2).bind fun fM=>A.aj 0 fM).bind fun dK=>
  (jC [dK,ah,(Ex.1.getD 0 AV.undef)] Ex.2).bind fun sC=>
  (A.not sC.1).bind fun x29=>
  (rD [x29,aG] sC.2).bind fun Ba=>
  A.fin σ Ba.1 Ba.2)
noncomputable def Kc:List AV→Heap→Option (AV×Heap):=A.wrap true [zW] .k (A.cR Kf)
noncomputable def U0 (a0:AV) (σ:Heap):Option (AV×Heap):=
 (jC [a0,ah,(AV.int .i64 36000000)] σ).bind fun r1=>
 A.fin σ r1.1 r1.2
noncomputable def GY:List AV→Heap→Option (AV×Heap):=A.wrap true [] .k (A.cD U0)
noncomputable def UF (a0:AV) (σ:Heap):Option (AV×Heap):=
 (A.aL a0).bind fun x1=>
 (A.aA 11 x1).bind fun x2=>
 ((A.deref x2 σ).bind fun c3=>A.aj 0 c3).bind fun x4=>
 (A.bG x4).bind fun x5=>
 (A.eql .i x5 ah).bind fun x6=>
 A.cond x6 (
  A.fin σ ah σ) (
  (A.aL a0).bind fun x7=>
  (A.aA 11 x7).bind fun x8=>
  ((A.deref x8 σ).bind fun c9=>A.aj 0 c9).bind fun bJ=>
  (A.aL a0).bind fun bT=>
  (A.aA 11 bT).bind fun cO=>
  ((A.deref cO σ).bind fun iY=>A.aj 0 iY).bind fun dc=>
  (A.bG dc).bind fun cU=>
  (A.sub cU aG).bind fun cz=>
  (A.aU 5 bJ cz).bind fun cG=>
  (A.aA 0 cG).bind fun bK=>
  ((A.deref bK σ).bind fun gM=>A.aj 0 gM).bind fun dg=>
  A.fin σ dg σ)
noncomputable def Bk:List AV→Heap→Option (AV×Heap):=A.wrap true [(.p DV)] .k (A.cD UF)
noncomputable def UH (a0:AV) (σ:Heap):Option (AV×Heap):=
 (A.aL a0).bind fun x1=>
 (A.aA 8 x1).bind fun x2=>
 ((A.deref x2 σ).bind fun c3=>A.aj 0 c3).bind fun x4=>
 (A.lss x4 ah).bind fun x5=>
 (A.guard x5 false (some a0) an).bind fun x6=>
 (A.guard x5 false (A.aL x6) an).bind fun x7=>
 (A.guard x5 false (A.aA 0 x7) an).bind fun x8=>
 (A.guard x5 false (A.aA 2 x8) an).bind fun x9=>
 (A.guard x5 false ((A.deref x9 σ).bind fun dY=>A.aj 0 dY) an).bind fun bT=>
 (A.pick x5 cL bT).bind fun cO=>
 A.cond cO (
  A.fin σ (AV.int .i64 (-1)) σ) (
  (A.aL a0).bind fun dr=>
  (A.aA 0 dr).bind fun dc=>
  (A.aA 1 dc).bind fun cU=>
  ((A.deref cU σ).bind fun mE=>A.aj 0 mE).bind fun cG=>
  (A.aL a0).bind fun bK=>
  (A.aA 8 bK).bind fun cW=>
  ((A.deref cW σ).bind fun iz=>A.aj 0 iz).bind fun bM=>
  (A.add cG bM).bind fun dh=>
  (A.aL a0).bind fun eP=>
  (A.aA 0 eP).bind fun x24=>
  (A.aA 0 x24).bind fun x25=>
  ((A.deref x25 σ).bind fun fM=>A.aj 0 fM).bind fun dK=>
  (A.sub dh dK).bind fun x28=>
  A.fin σ x28 σ)
noncomputable def Bm:List AV→Heap→Option (AV×Heap):=A.wrap true [(.p [.k,.k,.k,.k,.k,(.s 11),.k,.k,.k,.k])] .k (A.cD UH)
noncomputable def UM (a0 a1:AV) (σ:Heap):Option (AV×Heap):=
 (A.cells 3 a0).bind fun c1=>
 (A.aj 2 c1).bind fun x2=>
 A.cond x2 (
  (A.aj 0 c1).bind fun x3=>
  A.fin σ x3 σ) (
  (A.aj 0 c1).bind fun x4=>
  (A.add x4 a1).bind fun x5=>
  (A.aj 1 c1).bind fun x6=>
  (A.sub x5 x6).bind fun x7=>
  A.fin σ x7 σ)
noncomputable def vR:List AV→Heap→Option (AV×Heap):=A.wrap true [] .k (A.cR UM)
noncomputable def US (a0:AV) (σ:Heap):Option (AV×Heap):=
 (A.cells 9 a0).bind fun c1=>
 (A.aj 2 c1).bind fun x2=>
 (A.aj 3 c1).bind fun x3=>
 (A.add x2 x3).bind fun x4=>
 (A.aj 4 c1).bind fun x5=>
 (A.add x4 x5).bind fun x6=>
 A.fin σ x6 σ
noncomputable def Ov:List AV→Heap→Option (AV×Heap):=A.wrap true [(.a [.k,.k,.k,.k,.k,.k,(.s 2),.k,.k])] .k (A.cD US)
noncomputable def NY (a0 a1 a2:AV) (σ:Heap):Option (AV×Heap):=
 (A.cells 2 a1).bind fun c1=>
 (A.aL a0).bind fun x2=>
 (A.aA 9 x2).bind fun x3=>
 ((A.deref x3 σ).bind fun c4=>A.aj 0 c4).bind fun x5=>
 (A.ay 0 2 c1).bind fun x6=>
 (A.Dh (.s [0,2]) x5 x6 (AV.agg [ah,ah,ah,ah,ah,ah,AV.au,ah,aM]) σ).bind fun x7=>
 (A.ext 0 x7).bind fun x8=>
 (A.ext 1 x7).bind fun x9=>
 (A.cells 9 x8).bind fun dY=>
 (A.splice 0 dY [ah,ah,ah,ah,ah,ah,AV.au,ah,aM]).bind fun gh=>
 (A.ay 0 9 gh).bind fun cO=>
 (A.guard x9 true (A.aj 8 gh) an).bind fun dr=>
 (A.guard x9 true (some dr) an).bind fun dc=>
 (A.guard dc true (some a2) an).bind fun cU=>
 (A.guard dc true (A.ay 0 9 gh) an).bind fun cz=>
 (A.guard dc true (A.quiet (Ov [cz] σ) σ) an).bind fun cG=>
 (A.guard dc true (A.geq cU cG) an).bind fun bK=>
 (A.guard x9 true (A.pick dc bK aM) an).bind fun cW=>
 (A.guard x9 true (A.not cW) an).bind fun dg=>
 (A.pick x9 dg aM).bind fun bM=>
 (A.cells 9 cO).bind fun gq=>
 (A.splice 0 gq [ah,ah,ah,ah,ah,ah,AV.au,ah,aM]).bind fun eF=>
 (A.ay 0 9 eF).bind fun x24=>
 A.fin σ (AV.aH [x24,bM]) σ
noncomputable def p9:List AV→Heap→Option (AV×Heap):=A.wrap false [] (.t [(.a [.k,.k,.k,.k,.k,.k,(.s 2),.k,.k]),.k]) (A.lG NY)
noncomputable def UI (a0 a1:AV) (σ:Heap):Option (AV×Heap):=
 (A.cells 9 a0).bind fun c1=>
 (A.ay 0 7 c1).bind fun x2=>
 (A.min a1 (AV.int .i64 36000000)).bind fun x3=>
 (Pt [x2,x3] σ).bind fun r4=>
 (A.ext 0 r4.1).bind fun x5=>
 (A.ext 1 r4.1).bind fun x6=>
 A.fin σ x5 r4.2
noncomputable def uK:List AV→Heap→Option (AV×Heap):=A.wrap true [(.a [.k,.k,.k,.k,.k,.k,(.s 2),.k,.k])] .k (A.cR UI)
noncomputable def Uu (a0 a1 a2 a3:AV) (σ:Heap):Option (AV×Heap):=
 (A.cells 2 a2).bind fun c1=>
 (A.aL a0).bind fun x2=>
 (A.aA 10 x2).bind fun x3=>
 ((A.deref x3 σ).bind fun c4=>A.aj 0 c4).bind fun x5=>
 (A.ay 0 2 c1).bind fun x6=>
 (A.look (.s [0,2]) x5 x6 (AV.agg [br,ah,ah,ah,ah,aM,AV.au]) σ).bind fun x7=>
 (A.cells 7 x7).bind fun c8=>
 (A.splice 0 c8 [br,ah,ah,ah,ah,aM,AV.au]).bind fun c9=>
 (A.aj 4 c9).bind fun bJ=>
 (A.aL a1).bind fun bT=>
 (A.aA 0 bT).bind fun cO=>
 ((A.deref cO σ).bind fun iY=>A.aj 0 iY).bind fun dc=>
 (A.bG dc).bind fun cU=>
 (A.loop (fun aX kS=>
   (A.lss (aX.getD 6 AV.undef) cU).bind fun cW=>
   A.cond cW (
    (A.aL a1).bind fun dg=>
    (A.aA 0 dg).bind fun bM=>
    ((A.deref bM kS).bind fun gq=>A.aj 0 gq).bind fun eP=>
    (A.aU 10 eP (aX.getD 6 AV.undef)).bind fun x24=>
    (A.aL x24).bind fun x25=>
    (A.aA 0 x25).bind fun fC=>
    ((A.deref fC kS).bind fun kD=>A.ay 0 3 kD).bind fun x28=>
    (vR [x28,a3] kS).bind fun gj=>
    ((A.lb (aX.getD 0 AV.undef)).bind fun su=>A.ay 0 2 su).bind fun x31=>
    (p9 [x24,x31,gj.1] gj.2).bind fun r32=>
    (A.ext 0 r32.1).bind fun ey=>
    (A.ext 1 r32.1).bind fun x34=>
    (A.cells 9 ey).bind fun gX=>
    (A.splice 0 gX [ah,ah,ah,ah,ah,ah,AV.au,ah,aM]).bind fun gY=>
    (A.not x34).bind fun bU=>
    (A.guard bU false (some x24) an).bind fun x38=>
    (A.guard bU false (A.aL x38) an).bind fun ff=>
    (A.guard bU false (A.aA 4 ff) an).bind fun cZ=>
    (A.guard bU false ((A.deref cZ r32.2).bind fun uq=>A.aj 0 uq) an).bind fun ga=>
    (A.guard bU false (some (aX.getD 4 AV.undef)) an).bind fun fJ=>
    (A.guard bU false (A.lss ga fJ) an).bind fun eR=>
    (A.pick bU cL eR).bind fun ef=>
    A.cond ef (
     (A.add (aX.getD 6 AV.undef) aG).bind fun fK=>
     some (AX.normal,[(aX.getD 0 AV.undef),(aX.getD 1 AV.undef),(aX.getD 2 AV.undef),(aX.getD 3 AV.undef),(aX.getD 4 AV.undef),(aX.getD 5 AV.undef),fK],r32.2)) (
     (A.ay 0 9 gY).bind fun iJ=>
     (uK [iJ,gj.1] r32.2).bind fun kJ=>
     ((A.lb (aX.getD 1 AV.undef)).bind fun _=>some (1)).bind fun Jr=>
     ((A.lb (aX.getD 1 AV.undef)).bind fun nR=>A.aj Jr nR).bind fun gP=>
     (A.eql .i gP aG).bind fun eB=>
     (A.cond eB (
      (A.aL x24).bind fun gy=>
      (A.aA 7 gy).bind fun kL=>
      ((A.deref kL kJ.2).bind fun pR=>A.aj 0 pR).bind fun jJ=>
      (CS [kJ.1,jJ] kJ.2).bind fun xL=>
      (A.ext 0 xL.1).bind fun eG=>
      (A.ext 1 xL.1).bind fun gE=>
      some ([(aX.getD 0 AV.undef),(aX.getD 1 AV.undef),(AV.lbx gY),eG],xL.2)) (
      some ([(aX.getD 0 AV.undef),(aX.getD 1 AV.undef),(AV.lbx gY),kJ.1],kJ.2))).bind fun cg=>
     (A.aL x24).bind fun iT=>
     (A.aA 4 iT).bind fun eS=>
     ((A.deref eS cg.2).bind fun ur=>A.aj 0 ur).bind fun lC=>
     (A.gtr lC (aX.getD 4 AV.undef)).bind fun iK=>
     ((A.lb (cg.1.getD 1 AV.undef)).bind fun _=>some (1)).bind fun Js=>
          (A.guard iK false ((A.lb (cg.1.getD 1 AV.undef)).bind fun xy=>A.aj Js xy) an).bind fun gJ=>
     (A.guard iK false (A.eql .i gJ aG) an).bind fun fk=>
     (A.guard iK false (some fk) an).bind fun eT=>
     (A.guard eT true (some (cg.1.getD 3 AV.undef)) an).bind fun mP=>
     (A.guard eT true (some (aX.getD 2 AV.undef)) an).bind fun oa=>
     (A.guard eT true (A.gtr mP oa) an).bind fun ij=>
     (A.guard iK false (A.pick eT ij aM) an).bind fun iq=>
     (A.pick iK cL iq).bind fun eC=>
     ((A.lb (cg.1.getD 1 AV.undef)).bind fun _=>some (1)).bind fun Er=>
          (A.guard eC false ((A.lb (cg.1.getD 1 AV.undef)).bind fun lS=>A.aj Er lS) an).bind fun jA=>
     (A.guard eC false (A.neq .i jA aG) an).bind fun jS=>
     (A.guard eC false (some jS) an).bind fun fT=>
     ((A.lb (cg.1.getD 2 AV.undef)).bind fun _=>some (7)).bind fun Jt=>
          (A.guard fT true ((A.lb (cg.1.getD 2 AV.undef)).bind fun lp=>A.aj Jt lp) an).bind fun rq=>
     (A.guard fT true (some (aX.getD 5 AV.undef)) an).bind fun Bf=>
     (A.guard fT true (A.gtr rq Bf) an).bind fun iL=>
     (A.guard eC false (A.pick fT iL aM) an).bind fun jB=>
     (A.pick eC cL jB).bind fun mQ=>
     (A.cond mQ (
      (A.aL x24).bind fun Bg=>
      (A.aA 3 Bg).bind fun x90=>
      ((A.deref x90 cg.2).bind fun IQ=>A.aj 0 IQ).bind fun oc=>
      (A.aL x24).bind fun x93=>
      (A.aA 4 x93).bind fun ru=>
      ((A.deref ru cg.2).bind fun jt=>A.aj 0 jt).bind fun x96=>
      ((A.lb (cg.1.getD 2 AV.undef)).bind fun _=>some (7)).bind fun Ju=>
      ((A.lb (cg.1.getD 2 AV.undef)).bind fun pW=>A.aj Ju pW).bind fun x99=>
      some ([(cg.1.getD 0 AV.undef),(cg.1.getD 1 AV.undef),(cg.1.getD 3 AV.undef),oc,x96,x99],cg.2)) (
      some ([(cg.1.getD 0 AV.undef),(cg.1.getD 1 AV.undef),(aX.getD 2 AV.undef),(aX.getD 3 AV.undef),(aX.getD 4 AV.undef),(aX.getD 5 AV.undef)],cg.2))).bind fun lV=>
     (A.add (aX.getD 6 AV.undef) aG).bind fun nJ=>
     some (AX.normal,[(lV.1.getD 0 AV.undef),(lV.1.getD 1 AV.undef),(lV.1.getD 2 AV.undef),(lV.1.getD 3 AV.undef),(lV.1.getD 4 AV.undef),(lV.1.getD 5 AV.undef),nJ],lV.2))) (
    some (AX.exit 0,[(aX.getD 0 AV.undef),(aX.getD 1 AV.undef),(aX.getD 2 AV.undef),(aX.getD 3 AV.undef),(aX.getD 4 AV.undef),(aX.getD 5 AV.undef),(aX.getD 6 AV.undef)],kS))) [(AV.lbx c1),(AV.lbx c9),bJ,ah,(AV.int .i64 (-1)),ah,ah] σ).bind fun vu=>
 bif vu.1==AX.exit 0 then(
  A.fin σ (AV.aH [(vu.2.1.getD 2 AV.undef),(vu.2.1.getD 3 AV.undef)]) vu.2.2)else
 none
noncomputable def Bj:List AV→Heap→Option (AV×Heap):=A.wrap true [(.p DV),(.p [(.s 10),.k,.k,.k])] .k (A.vB Uu)
noncomputable def Un (a0 a1:AV) (σ:Heap):Option (AV×Heap):=
 (A.cells 8 a0).bind fun c1=>
 (A.ay 0 2 c1).bind fun x2=>
 ((A.deref a1 σ).bind fun c3=>A.ay 0 2 c3).bind fun x4=>
 (A.eql (.s [0,2]) x2 x4).bind fun x5=>
 A.fin σ x5 σ
noncomputable def EL:List AV→Heap→Option (AV×Heap):=A.wrap true [] .k (A.cR Un)
noncomputable def V8 (a0:AV) (σ:Heap):Option (AV×Heap):=
 (A.cells 7 a0).bind fun c1=>
 (A.aj 2 c1).bind fun x2=>
 (A.min x2 (AV.int .i64 36000000)).bind fun x3=>
 ((A.cell x3).bind fun v=>some [v]).bind fun c4=>
 (A.splice 2 c4 c1).bind fun c5=>
 (A.aj 3 c5).bind fun x6=>
 (A.aj 2 c5).bind fun x7=>
 (A.sub (AV.int .i64 36000000) x7).bind fun x8=>
 (A.min x6 x8).bind fun x9=>
 ((A.cell x9).bind fun v=>some [v]).bind fun dY=>
 (A.splice 3 dY c5).bind fun gh=>
 (A.aj 4 gh).bind fun cO=>
 (A.aj 2 gh).bind fun dr=>
 (A.sub (AV.int .i64 36000000) dr).bind fun dc=>
 (A.aj 3 gh).bind fun cU=>
 (A.sub dc cU).bind fun cz=>
 (A.min cO cz).bind fun cG=>
 ((A.cell cG).bind fun v=>some [v]).bind fun iZ=>
 (A.splice 4 iZ gh).bind fun gM=>
 (A.ay 0 7 gM).bind fun dg=>
 (A.cells 7 dg).bind fun kC=>
 (A.splice 0 kC [ah,ah,ah,ah,ah,ah,AV.au]).bind fun gq=>
 (A.ay 0 7 gq).bind fun eP=>
 A.fin σ eP σ
noncomputable def uN:List AV→Heap→Option (AV×Heap):=A.wrap true [Dr] Dr (A.cD V8)
noncomputable def Oe (a0 a1 a2 a3 a4 a5:AV) (σ:Heap):Option (AV×Heap):=
 (A.cells 11 a1).bind fun c1=>
 ((A.cells 2 a2).bind fun cs=>some (AV.rp cs)).bind fun x2=>
 (A.aj 2 c1).bind fun x3=>
 (A.aj 5 c1).bind fun x4=>
 (A.ay 6 2 c1).bind fun x5=>
 ((((A.cell a3).bind fun v=>some [v]).bind fun c6=>(A.splice 0 c6 [ah,ah,ah,ah,ah,ah,AV.au]).bind fun c7=>((A.cell a4).bind fun v=>some [v]).bind fun c8=>(A.splice 1 c8 c7).bind fun c9=>((A.cell a5).bind fun v=>some [v]).bind fun dY=>(A.splice 2 dY c9).bind fun gh=>((A.cell x3).bind fun v=>some [v]).bind fun eo=>(A.splice 3 eo gh).bind fun iY=>((A.cell x4).bind fun v=>some [v]).bind fun jP=>(A.splice 4 jP iY).bind fun lH=>(A.cells 2 x5).bind fun mE=>(A.splice 5 mE lH).bind fun mF=>some mF).bind fun cs=>some (AV.agg cs)).bind fun bK=>
 (A.cells 7 bK).bind fun gM=>
 (A.splice 0 gM [ah,ah,ah,ah,ah,ah,AV.au]).bind fun iz=>
 (A.aL a0).bind fun bM=>
 (A.aA 10 bM).bind fun dh=>
 ((A.deref dh σ).bind fun eF=>A.aj 0 eF).bind fun x24=>
 ((A.deref x2 σ).bind fun gO=>A.ay 0 2 gO).bind fun fC=>
 (A.look (.s [0,2]) x24 fC (AV.agg [br,ah,ah,ah,ah,aM,AV.au]) σ).bind fun dK=>
 (A.cells 7 dK).bind fun nQ=>
 (A.splice 0 nQ [br,ah,ah,ah,ah,aM,AV.au]).bind fun oG=>
 (A.aj 1 oG).bind fun cH=>
 (A.eql .i cH aG).bind fun x31=>
 (A.cond x31 (
  (A.aj 3 c1).bind fun ey=>
  ((A.cell ey).bind fun v=>some [v]).bind fun sv=>
  (A.splice 4 sv iz).bind fun gX=>
  (A.lss a4 a3).bind fun gI=>
  (A.cond gI (
   (A.aj 4 c1).bind fun x38=>
   ((A.cell x38).bind fun v=>some [v]).bind fun l7=>
   (A.splice 4 l7 gX).bind fun yT=>
   some ([(AV.lbx c1),(AV.lbx [ah,ah,ah,ah,ah,ah,AV.au]),(AV.lbx yT),(AV.lbx oG)],σ)) (
   some ([(AV.lbx c1),(AV.lbx [ah,ah,ah,ah,ah,ah,AV.au]),(AV.lbx gX),(AV.lbx oG)],σ))).bind fun mg=>
  some ([(mg.1.getD 0 AV.undef),(mg.1.getD 1 AV.undef),(mg.1.getD 2 AV.undef),(mg.1.getD 3 AV.undef)],mg.2)) (
  some ([(AV.lbx c1),(AV.lbx [ah,ah,ah,ah,ah,ah,AV.au]),(AV.lbx iz),(AV.lbx oG)],σ))).bind fun r32=>
 ((A.lb (r32.1.getD 0 AV.undef)).bind fun _=>some (10)).bind fun p41=>
 ((A.lb (r32.1.getD 0 AV.undef)).bind fun lR=>A.aj p41 lR).bind fun fJ=>
 (GG (A.tab (fun _ _=>none) [(349,EL)]) [fJ,(AV.fn 349 [x2])] r32.2).bind fun dV=>
 (A.geq dV.1 ah).bind fun ef=>
 ((A.lb (r32.1.getD 0 AV.undef)).bind fun _=>some (10)).bind fun Jq=>
  (A.guard ef true ((A.lb (r32.1.getD 0 AV.undef)).bind fun gZ=>A.aj Jq gZ) an).bind fun ig=>
 (A.guard ef true (some dV.1) an).bind fun eA=>
 (A.guard ef true (A.aU 8 ig eA) an).bind fun mO=>
 (A.guard ef true (A.aA 5 mO) an).bind fun gP=>
 (A.guard ef true ((A.deref gP dV.2).bind fun IM=>A.aj 0 IM) an).bind fun gQ=>
 (A.pick ef gQ aM).bind fun gy=>
 (A.cond gy (
  ((A.lb (r32.1.getD 0 AV.undef)).bind fun _=>some (10)).bind fun p56=>
  ((A.lb (r32.1.getD 0 AV.undef)).bind fun i6=>A.aj p56 i6).bind fun gA=>
  (A.aU 8 gA dV.1).bind fun eG=>
  (A.aA 6 eG).bind fun gE=>
  ((A.deref gE dV.2).bind fun nT=>A.aj 0 nT).bind fun eS=>
  ((A.lb (r32.1.getD 0 AV.undef)).bind fun _=>some (10)).bind fun p63=>
  ((A.lb (r32.1.getD 0 AV.undef)).bind fun pS=>A.aj p63 pS).bind fun iK=>
  (A.aU 8 iK dV.1).bind fun fP=>
  (A.aA 7 fP).bind fun jy=>
  ((A.deref jy dV.2).bind fun IN=>A.aj 0 IN).bind fun fk=>
  ((A.lb (r32.1.getD 2 AV.undef)).bind fun _=>some (3)).bind fun p70=>
  (A.lb (r32.1.getD 2 AV.undef)).bind fun IP=>
  ((A.cell eS).bind fun v=>some [v]).bind fun lI=>
  (A.splice p70 lI IP).bind fun jG=>
  ((A.cell fk).bind fun v=>some [v]).bind fun Tk=>
  (A.splice 4 Tk jG).bind fun pV=>
  some ([(r32.1.getD 1 AV.undef),(AV.lbx pV),(r32.1.getD 3 AV.undef)],dV.2)) (
  some ([(r32.1.getD 1 AV.undef),(r32.1.getD 2 AV.undef),(r32.1.getD 3 AV.undef)],dV.2))).bind fun vL=>
 ((A.lb (vL.1.getD 2 AV.undef)).bind fun _=>some (5)).bind fun Er=>
 ((A.lb (vL.1.getD 2 AV.undef)).bind fun lS=>A.aj Er lS).bind fun jA=>
 (A.cond jA (
  ((A.lb (vL.1.getD 1 AV.undef)).bind fun _=>some (4)).bind fun p80=>
  (A.lb (vL.1.getD 1 AV.undef)).bind fun kE=>
  ((A.cell ah).bind fun v=>some [v]).bind fun mH=>
  (A.splice p80 mH kE).bind fun lp=>
  some ([(vL.1.getD 0 AV.undef),(AV.lbx lp)],vL.2)) (
  some ([(vL.1.getD 0 AV.undef),(vL.1.getD 1 AV.undef)],vL.2))).bind fun ko=>
 ((A.lb (ko.1.getD 1 AV.undef)).bind fun i7=>A.ay 0 7 i7).bind fun iL=>
 (uN [iL] ko.2).bind fun xQ=>
 (A.lb (ko.1.getD 0 AV.undef)).bind fun nV=>
 (A.cells 7 xQ.1).bind fun sw=>
 (A.splice 0 sw nV).bind fun AN=>
 (A.ay 0 7 AN).bind fun x90=>
 A.fin σ x90 xQ.2
noncomputable def Bl:List AV→Heap→Option (AV×Heap):=A.wrap false [] Dr (A.DY Oe)
noncomputable def Of (a0 a1 a2 a3 a4:AV) (σ:Heap):Option (AV×Heap):=
 (A.aL a1).bind fun x1=>
 (A.aA 0 x1).bind fun x2=>
 ((A.deref x2 σ).bind fun c3=>A.aj 0 c3).bind fun x4=>
 (A.aU 10 x4 a2).bind fun x5=>
 (A.aL x5).bind fun x6=>
 (A.aA 5 x6).bind fun x7=>
 ((A.deref x7 σ).bind fun c8=>A.aj 0 c8).bind fun x9=>
 (A.aU 11 x9 a3).bind fun bJ=>
 ((A.deref bJ σ).bind fun gh=>A.ay 0 11 gh).bind fun cO=>
 (A.cells 11 cO).bind fun iY=>
 (A.splice 0 iY [ah,br,ah,ah,ah,ah,ah,AV.au,aM,ah,AV.au]).bind fun jP=>
 (A.aL x5).bind fun cU=>
 (A.aA 0 cU).bind fun cz=>
 ((A.deref cz σ).bind fun mF=>A.ay 0 3 mF).bind fun bK=>
 (vR [bK,a4] σ).bind fun kI=>
 (A.aL x5).bind fun dg=>
 (A.aA 5 dg).bind fun bM=>
 ((A.deref bM kI.2).bind fun gq=>A.aj 0 gq).bind fun eP=>
 (A.aj 0 jP).bind fun x24=>
 (A.quiet (KE [eP,x24] kI.2) kI.2).bind fun x25=>
 (A.ext 0 x25).bind fun fC=>
 (A.ext 1 x25).bind fun dK=>
 (A.bG fC).bind fun x28=>
 (A.loop (fun jo xU=>
   (A.lss (jo.getD 1 AV.undef) x28).bind fun x32=>
   A.cond x32 (
    (A.aU 5 fC (jo.getD 1 AV.undef)).bind fun ey=>
    ((A.deref ey xU).bind fun sv=>A.ay 0 5 sv).bind fun gn=>
    (A.cells 5 gn).bind fun gY=>
    (A.splice 0 gY [ah,br,ah,ah,ah]).bind fun fA=>
    (A.ay 0 2 fA).bind fun x38=>
    (A.ew (.s [0,2]) (AV.om (kI.2++[aJ.map []]).length) x38 cL xU).bind fun qR=>
    (A.aL a0).bind fun cZ=>
    (A.aA 4 cZ).bind fun dW=>
    (A.aA 2 dW).bind fun ga=>
    ((A.deref ga qR).bind fun pQ=>A.aj 0 pQ).bind fun eR=>
    (A.ay 0 2 fA).bind fun ef=>
    (A.ay 2 2 fA).bind fun fK=>
    (A.quiet (CW [eR,ef,fK] qR) qR).bind fun iJ=>
    (A.ext 0 iJ).bind fun ig=>
    (A.ext 1 iJ).bind fun eA=>
    (A.ay 0 2 fA).bind fun mO=>
    (p9 [x5,mO,kI.1] qR).bind fun kR=>
    (A.ext 0 kR.1).bind fun eB=>
    (A.ext 1 kR.1).bind fun gQ=>
    (A.cells 9 eB).bind fun vD=>
    (A.splice 0 vD [ah,ah,ah,ah,ah,ah,AV.au,ah,aM]).bind fun iA=>
    (A.guard gQ true (A.aj 8 iA) an).bind fun gz=>
    (A.guard gQ true (A.not gz) an).bind fun jJ=>
    (A.pick gQ jJ aM).bind fun gA=>
    (A.guard gA true (A.aj 1 iA) an).bind fun eG=>
    (A.guard gA true (some ig) an).bind fun gE=>
    (A.guard gA true (A.eql .i eG gE) an).bind fun iT=>
    (A.pick gA iT aM).bind fun eS=>
    A.cond eS (
     (A.ay 0 2 fA).bind fun fD=>
     (A.ay 0 9 iA).bind fun lC=>
     (A.ew (.s [0,2]) (AV.om kI.2.length) fD lC kR.2).bind fun IX=>
     (A.add (jo.getD 1 AV.undef) aG).bind fun fP=>
     some (AX.normal,[(jo.getD 0 AV.undef),fP],IX)) (
     (A.cond gQ (
      (A.ay 0 9 iA).bind fun gJ=>
      (uK [gJ,kI.1] kR.2).bind fun CC=>
      some ([(jo.getD 0 AV.undef),(AV.lbx fA),CC.1],CC.2)) (
      (A.aL a0).bind fun eT=>
      (A.aA 10 eT).bind fun mP=>
      ((A.deref mP kR.2).bind fun jG=>A.aj 0 jG).bind fun ij=>
      (A.ay 0 2 fA).bind fun iq=>
      (A.look (.s [0,2]) ij iq (AV.agg [br,ah,ah,ah,ah,aM,AV.au]) kR.2).bind fun eC=>
      ((A.cells 7 eC).bind fun D8=>A.aj 1 D8).bind fun xW=>
      (A.neq .i xW aG).bind fun jA=>
      (A.cond jA (
       (A.ay 0 2 fA).bind fun fT=>
       (Bj [a0,a1,fT,a4] kR.2).bind fun xO=>
       (A.ext 0 xO.1).bind fun p7=>
       (A.ext 1 xO.1).bind fun rq=>
       some ([(jo.getD 0 AV.undef),(AV.lbx fA),p7],xO.2)) (
       some ([(jo.getD 0 AV.undef),(AV.lbx fA),ah],kR.2))).bind fun ko=>
      some ([(ko.1.getD 0 AV.undef),(ko.1.getD 1 AV.undef),(ko.1.getD 2 AV.undef)],ko.2))).bind fun fc=>
     ((A.lb (fc.1.getD 1 AV.undef)).bind fun _=>some (0)).bind fun Es=>
     ((A.lb (fc.1.getD 1 AV.undef)).bind fun AM=>A.ay Es 2 AM).bind fun jB=>
     ((A.lb (fc.1.getD 0 AV.undef)).bind fun sw=>A.ay 0 11 sw).bind fun iM=>
     ((A.lb (fc.1.getD 1 AV.undef)).bind fun _=>some (0)).bind fun Eu=>
     ((A.lb (fc.1.getD 1 AV.undef)).bind fun nW=>A.ay Eu 2 nW).bind fun x91=>
     (A.quiet (Bl [a0,iM,x91,(fc.1.getD 2 AV.undef),ig,kI.1] fc.2) fc.2).bind fun oc=>
     (A.aL a1).bind fun x93=>
     (A.aA 1 x93).bind fun ru=>
     ((A.deref ru fc.2).bind fun jt=>A.aj 0 jt).bind fun x96=>
     (((A.cells 7 oc).bind fun xA=>(A.splice 0 xA [ah,ah,ah,ah,ah,ah,AV.au,ah,aM]).bind fun pW=>((A.cell x96).bind fun v=>some [v]).bind fun xB=>(A.splice 7 xB pW).bind fun wI=>((A.cell aM).bind fun v=>some [v]).bind fun pG=>(A.splice 8 pG wI).bind fun zY=>some zY).bind fun cs=>some (AV.agg cs)).bind fun vA=>
     (A.ew (.s [0,2]) (AV.om kI.2.length) jB vA fc.2).bind fun DH=>
     (A.add (jo.getD 1 AV.undef) aG).bind fun Az=>
     some (AX.normal,[(fc.1.getD 0 AV.undef),Az],DH))) (
    some (AX.exit 0,[(jo.getD 0 AV.undef),(jo.getD 1 AV.undef)],xU))) [(AV.lbx jP),ah] ((kI.2++[aJ.map []])++[aJ.map []])).bind fun Gd=>
 bif Gd.1==AX.exit 0 then(
  (A.aL x5).bind fun nL=>
  (A.aA 9 nL).bind fun II=>
  ((A.deref II Gd.2.2).bind fun amM=>A.aj 0 amM).bind fun AA=>
  (A.BL AA).bind fun al4=>
  A.zS (fun yR aox Sy=>
    A.sS (AV.op Gd.2.2.length 0) aox fun x115 SG=>
    (A.ext 0 x115).bind fun pO=>
    A.cond pO (
     (A.uW (AV.op Gd.2.2.length 0) SG).bind fun xe=>
     (A.ext 0 xe).bind fun AB=>
     (A.cells 2 AB).bind fun RN=>
     (A.splice 0 RN [ah,br]).bind fun pH=>
     (A.ay 0 2 pH).bind fun IJ=>
     (p9 [x5,IJ,kI.1] SG).bind fun oF=>
     (A.ext 0 oF.1).bind fun ue=>
     (A.ext 1 oF.1).bind fun kg=>
     (A.cells 9 ue).bind fun tW=>
     (A.splice 0 tW [ah,ah,ah,ah,ah,ah,AV.au,ah,aM]).bind fun qG=>
     (A.not kg).bind fun MZ=>
     (A.guard MZ false (some (AV.om (kI.2++[aJ.map []]).length)) an).bind fun nq=>
     (A.guard MZ false (A.ay 0 2 pH) an).bind fun sj=>
     (A.guard MZ false (A.look (.s [0,2]) nq sj aM oF.2) an).bind fun uf=>
     (A.pick MZ cL uf).bind fun mz=>
     (A.guard mz false (some a0) an).bind fun nN=>
     (A.guard mz false (A.aL nN) an).bind fun SM=>
     (A.guard mz false (A.aA 10 SM) an).bind fun ug=>
     (A.guard mz false ((A.deref ug oF.2).bind fun amQ=>A.aj 0 amQ) an).bind fun uh=>
     (A.guard mz false (A.ay 0 2 pH) an).bind fun mA=>
     (A.guard mz false (A.look (.s [0,2]) uh mA (AV.agg [br,ah,ah,ah,ah,aM,AV.au]) oF.2) an).bind fun AE=>
     (A.guard mz false ((A.cells 7 AE).bind fun wL=>A.aj 1 wL) an).bind fun uj=>
     (A.guard mz false (A.neq .i uj aG) an).bind fun xm=>
     (A.pick mz cL xm).bind fun mB=>
     A.cond mB (
      Sy (AX.normal,[(yR.getD 0 AV.undef)],oF.2)) (
      (A.aj 8 qG).bind fun SN=>
      (A.not SN).bind fun SO=>
      (A.cond SO (
       (A.ay 0 9 qG).bind fun SP=>
       (A.quiet (uK [SP,kI.1] oF.2) oF.2).bind fun aoA=>
       ((A.lb (yR.getD 0 AV.undef)).bind fun _=>some (2)).bind fun aoe=>
       ((A.lb (yR.getD 0 AV.undef)).bind fun Ig=>A.aj aoe Ig).bind fun x151=>
       ((A.lb (yR.getD 0 AV.undef)).bind fun _=>some (4)).bind fun aof=>
       ((A.lb (yR.getD 0 AV.undef)).bind fun tX=>A.aj aof tX).bind fun SQ=>
       ((A.lb (yR.getD 0 AV.undef)).bind fun _=>some (6)).bind fun aog=>
       ((A.lb (yR.getD 0 AV.undef)).bind fun amS=>A.ay aog 2 amS).bind fun x157=>
       ((((A.cell aoA).bind fun v=>some [v]).bind fun sX=>(A.splice 0 sX [ah,ah,ah,ah,ah,ah,AV.au]).bind fun wO=>((A.cell kI.1).bind fun v=>some [v]).bind fun wP=>(A.splice 2 wP wO).bind fun Ih=>((A.cell x151).bind fun v=>some [v]).bind fun RR=>(A.splice 3 RR Ih).bind fun Ii=>((A.cell SQ).bind fun v=>some [v]).bind fun RS=>(A.splice 4 RS Ii).bind fun Ij=>(A.cells 2 x157).bind fun DC=>(A.splice 5 DC Ij).bind fun Al=>some Al).bind fun cs=>some (AV.agg cs)).bind fun x168=>
       (A.cells 7 x168).bind fun amU=>
       (A.splice 0 amU [ah,ah,ah,ah,ah,ah,AV.au]).bind fun amV=>
       (A.ay 0 7 amV).bind fun aoG=>
       (A.quiet (uN [aoG] oF.2) oF.2).bind fun SS=>
       (A.aL a1).bind fun aoH=>
       (A.aA 1 aoH).bind fun SU=>
       ((A.deref SU oF.2).bind fun Ik=>A.aj 0 Ik).bind fun SV=>
       (((A.cells 7 SS).bind fun amX=>(A.splice 0 amX [ah,ah,ah,ah,ah,ah,AV.au,ah,aM]).bind fun RT=>((A.cell SV).bind fun v=>some [v]).bind fun amY=>(A.splice 7 amY RT).bind fun amZ=>((A.cell cL).bind fun v=>some [v]).bind fun am0=>(A.splice 8 am0 amZ).bind fun am1=>some am1).bind fun cs=>some (AV.agg cs)).bind fun SX=>
       (A.cells 9 SX).bind fun RU=>
       (A.splice 0 RU qG).bind fun am2=>
       some ([(yR.getD 0 AV.undef),(AV.lbx pH),(AV.lbx am2)],oF.2)) (
       some ([(yR.getD 0 AV.undef),(AV.lbx pH),(AV.lbx qG)],oF.2))).bind fun MT=>
      ((A.lb (MT.1.getD 1 AV.undef)).bind fun am3=>A.ay 0 2 am3).bind fun aoQ=>
      ((A.lb (MT.1.getD 2 AV.undef)).bind fun am5=>A.ay 0 9 am5).bind fun aoS=>
      (A.ew (.s [0,2]) (AV.om kI.2.length) aoQ aoS MT.2).bind fun R6=>
      Sy (AX.normal,[(MT.1.getD 0 AV.undef)],R6))) (
     Sy (AX.exit 2,[(yR.getD 0 AV.undef)],SG))) [(Gd.2.1.getD 0 AV.undef)] (Gd.2.2++[aJ.it [] al4]) fun Gf=>
  bif Gf.1==AX.exit 2 then(
   ((((A.cell kI.1).bind fun v=>some [v]).bind fun DD=>(A.splice 0 DD [ah,ah,aM]).bind fun DE=>((A.cell a4).bind fun v=>some [v]).bind fun DF=>(A.splice 1 DF DE).bind fun Il=>((A.cell aM).bind fun v=>some [v]).bind fun Im=>(A.splice 2 Im Il).bind fun Io=>some Io).bind fun cs=>some (AV.agg cs)).bind fun aoW=>
   (A.aL x5).bind fun aoX=>
   (A.aA 0 aoX).bind fun SY=>
   (A.cells 3 aoW).bind fun ana=>
   (A.storeAt SY ana Gf.2.2).bind fun RV=>
   (A.aL x5).bind fun SZ=>
   (A.aA 6 SZ).bind fun S2=>
   ((A.cell a3).bind fun v=>some [v]).bind fun anb=>
   (A.storeAt S2 anb RV).bind fun ane=>
   (A.aL x5).bind fun ao1=>
   (A.aA 9 ao1).bind fun ao2=>
   ((A.cell (AV.om kI.2.length)).bind fun v=>some [v]).bind fun ang=>
   (A.storeAt ao2 ang ane).bind fun anh=>
   (A.aL x5).bind fun S3=>
   (A.aA 8 S3).bind fun ao4=>
   ((A.cell (AV.int .i64 (-1))).bind fun v=>some [v]).bind fun anj=>
   (A.storeAt ao4 anj anh).bind fun RX=>
   ((A.lb (Gf.2.1.getD 0 AV.undef)).bind fun _=>some (9)).bind fun aoh=>
   ((A.lb (Gf.2.1.getD 0 AV.undef)).bind fun ank=>A.aj aoh ank).bind fun S4=>
   (A.geq S4 ah).bind fun AI=>
   (A.guard AI true (some a3) an).bind fun S5=>
   (A.guard AI true (A.add S5 aG) an).bind fun S6=>
   (A.guard AI true (some x5) an).bind fun S7=>
   (A.guard AI true (A.aL S7) an).bind fun S8=>
   (A.guard AI true (A.aA 5 S8) an).bind fun ao8=>
   (A.guard AI true ((A.deref ao8 RX).bind fun RY=>A.aj 0 RY) an).bind fun S9=>
   (A.guard AI true (A.bG S9) an).bind fun Ta=>
   (A.guard AI true (A.lss S6 Ta) an).bind fun Tb=>
   (A.pick AI Tb aM).bind fun apa=>
   (A.cond apa (
    ((A.lb (Gf.2.1.getD 0 AV.undef)).bind fun _=>some (9)).bind fun aoi=>
    ((A.lb (Gf.2.1.getD 0 AV.undef)).bind fun anq=>A.aj aoi anq).bind fun apc=>
    (A.add kI.1 apc).bind fun Tc=>
    (A.aL x5).bind fun apd=>
    (A.aA 8 apd).bind fun Td=>
    ((A.cell Tc).bind fun v=>some [v]).bind fun RZ=>
    (A.storeAt Td RZ RX).bind fun anr=>
    some (([]:List AV),anr)) (
    some (([]:List AV),RX))).bind fun aoo=>
   A.Ao σ (AV.aH []) aoo.2)else
  none)else
 none
noncomputable def sK:List AV→Heap→Option (AV×Heap):=A.wrap false [] .k (A.DX Of)
noncomputable def Km (a0 a1:AV) (σ:Heap):Option (AV×Heap):=
 (A.aL a0).bind fun x1=>
 (A.aA 0 x1).bind fun x2=>
 ((A.deref x2 σ).bind fun c3=>A.ay 0 4 c3).bind fun x4=>
 (A.cells 4 x4).bind fun c5=>
 (A.storeAt (AV.op σ.length 0) c5 (σ++[aJ.box [AV.au,ah,ah,aM]])).bind fun c6=>
 (A.aA 0 (AV.op σ.length 0)).bind fun x7=>
 ((A.deref x7 c6).bind fun c8=>A.aj 0 c8).bind fun x9=>
 (EG [x9] c6).bind fun jm=>
 (A.aA 0 (AV.op σ.length 0)).bind fun bT=>
 ((A.cell jm.1).bind fun v=>some [v]).bind fun eo=>
 (A.storeAt bT eo jm.2).bind fun iY=>
 (A.loop (fun T7 Bc=>
   (A.aA 0 (AV.op σ.length 0)).bind fun cG=>
   ((A.deref cG Bc).bind fun iZ=>A.aj 0 iZ).bind fun cW=>
   (A.bG cW).bind fun dg=>
   (A.loop (fun v21 sF=>
     (A.lss (v21.getD 3 AV.undef) dg).bind fun x24=>
     A.cond x24 (
      (A.aA 0 (AV.op σ.length 0)).bind fun x25=>
      ((A.deref x25 sF).bind fun fM=>A.aj 0 fM).bind fun dK=>
      (A.aU 10 dK (v21.getD 3 AV.undef)).bind fun x28=>
      (Bm [x28] sF).bind fun gj=>
      (A.geq gj.1 ah).bind fun cH=>
      (A.guard cH true (some gj.1) an).bind fun x31=>
      (A.guard cH true (some a1) an).bind fun x32=>
      (A.guard cH true (A.leq x31 x32) an).bind fun ey=>
      (A.pick cH ey aM).bind fun x34=>
      (A.guard x34 true (some (v21.getD 1 AV.undef)) an).bind fun gn=>
      (A.guard x34 true (A.lss gn ah) an).bind fun gI=>
      (A.guard x34 true (some gI) an).bind fun bU=>
      (A.guard bU false (some gj.1) an).bind fun x38=>
      (A.guard bU false (some (v21.getD 2 AV.undef)) an).bind fun ff=>
      (A.guard bU false (A.lss x38 ff) an).bind fun cZ=>
      (A.guard x34 true (A.pick bU cL cZ) an).bind fun dW=>
      (A.pick x34 dW aM).bind fun ga=>
      (A.cond ga (
       some ([(v21.getD 0 AV.undef),(v21.getD 3 AV.undef),gj.1],gj.2)) (
       some ([(v21.getD 0 AV.undef),(v21.getD 1 AV.undef),(v21.getD 2 AV.undef)],gj.2))).bind fun iS=>
      (A.add (v21.getD 3 AV.undef) aG).bind fun eR=>
      some (AX.normal,[(iS.1.getD 0 AV.undef),(iS.1.getD 1 AV.undef),(iS.1.getD 2 AV.undef),eR],iS.2)) (
      some (AX.exit 2,[(v21.getD 0 AV.undef),(v21.getD 1 AV.undef),(v21.getD 2 AV.undef),(v21.getD 3 AV.undef)],sF))) [(T7.getD 0 AV.undef),(AV.int .i64 (-1)),ah,ah] Bc).bind fun lU=>
   bif lU.1==AX.exit 2 then(
    (A.lss (lU.2.1.getD 1 AV.undef) ah).bind fun fK=>
    A.cond fK (
     ((A.deref (AV.op σ.length 0) lU.2.2).bind fun gZ=>A.ay 0 4 gZ).bind fun ig=>
     (A.lb (lU.2.1.getD 0 AV.undef)).bind fun xw=>
     (A.cells 4 ig).bind fun AJ=>
     (A.splice 0 AJ xw).bind fun nR=>
     some (AX.ret,[(AV.lbx nR)],lU.2.2)) (
     (A.aA 1 (AV.op σ.length 0)).bind fun eB=>
     ((A.deref eB lU.2.2).bind fun nS=>A.aj 0 nS).bind fun gy=>
     (A.add gy aG).bind fun kL=>
     (A.aA 1 (AV.op σ.length 0)).bind fun gz=>
     ((A.cell kL).bind fun v=>some [v]).bind fun i6=>
     (A.storeAt gz i6 lU.2.2).bind fun iR=>
     (A.aA 0 (AV.op σ.length 0)).bind fun eG=>
     ((A.deref eG iR).bind fun AK=>A.aj 0 AK).bind fun iT=>
     (A.aU 10 iT (lU.2.1.getD 1 AV.undef)).bind fun eS=>
     (A.aA 6 eS).bind fun fD=>
     ((A.deref fD iR).bind fun pS=>A.aj 0 pS).bind fun iK=>
     (A.add iK aG).bind fun fP=>
     (sK [a0,(AV.op σ.length 0),(lU.2.1.getD 1 AV.undef),fP,(lU.2.1.getD 2 AV.undef)] iR).bind fun fc=>
     some (AX.normal,[(lU.2.1.getD 0 AV.undef)],fc.2)))else
   none) [(AV.lbx [AV.au,ah,ah,aM])] iY).bind fun Bb=>
 bif Bb.1==AX.ret then(
  ((A.lb (Bb.2.1.getD 0 AV.undef)).bind fun Tj=>A.ay 0 4 Tj).bind fun fk=>
  some (fk,Bb.2.2))else
 none
noncomputable def EO:List AV→Heap→Option (AV×Heap):=A.wrap false [] .k (A.cR Km)
noncomputable def Ur (a0 a1:AV) (σ:Heap):Option (AV×Heap):=
 (A.cells 10 a0).bind fun c1=>
 (A.aj 3 c1).bind fun x2=>
 (A.aA 2 a1).bind fun x3=>
 ((A.deref x3 σ).bind fun c4=>A.aj 0 c4).bind fun x5=>
 (A.eql .i x2 x5).bind fun x6=>
 A.fin σ x6 σ
noncomputable def Bh:List AV→Heap→Option (AV×Heap):=A.wrap true [(.a [.k,.k,.k,.k,.k,(.s 11),.k,.k,.k,.k])] .k (A.cR Ur)
noncomputable def Us (a0 a1:AV) (σ:Heap):Option (AV×Heap):=
 (A.cells 11 a0).bind fun c1=>
 (A.aj 0 c1).bind fun x2=>
 (A.aA 3 a1).bind fun x3=>
 ((A.deref x3 σ).bind fun c4=>A.aj 0 c4).bind fun x5=>
 (A.eql .i x2 x5).bind fun x6=>
 A.fin σ x6 σ
noncomputable def Bi:List AV→Heap→Option (AV×Heap):=A.wrap true [(.a uk)] .k (A.cR Us)
noncomputable def NX (a0 a1 a2 a3:AV) (σ:Heap):Option (AV×Heap):=
 (A.cells 5 a3).bind fun c1=>
 (A.aL a2).bind fun x2=>
 (A.aA 0 x2).bind fun x3=>
 ((A.deref x3 σ).bind fun c4=>A.ay 0 3 c4).bind fun x5=>
 (A.aj 0 c1).bind fun x6=>
 (A.quiet (vR [x5,x6] σ) σ).bind fun x7=>
 (A.aL a2).bind fun x8=>
 (A.aA 9 x8).bind fun x9=>
 ((A.deref x9 (σ++[aJ.map []])).bind fun dY=>A.aj 0 dY).bind fun bT=>
 (A.BL bT).bind fun anG=>
 A.zS (fun kT xT TR=>
   A.sS (AV.op (σ++[aJ.map []]).length 0) xT fun cz kS=>
   (A.ext 0 cz).bind fun bK=>
   A.cond bK (
    (A.uW (AV.op (σ++[aJ.map []]).length 0) kS).bind fun cW=>
    (A.ext 0 cW).bind fun dg=>
    (A.cells 2 dg).bind fun kC=>
    (A.splice 0 kC [ah,br]).bind fun gq=>
    (A.ay 0 2 gq).bind fun eP=>
    (p9 [a2,eP,x7] kS).bind fun tD=>
    (A.ext 0 tD.1).bind fun x25=>
    (A.ext 1 tD.1).bind fun fC=>
    (A.cells 9 x25).bind fun kD=>
    (A.splice 0 kD [ah,ah,ah,ah,ah,ah,AV.au,ah,aM]).bind fun nQ=>
    (A.not fC).bind fun x29=>
    (A.guard x29 false (some a0) an).bind fun cH=>
    (A.guard x29 false (A.aL cH) an).bind fun x31=>
    (A.guard x29 false (A.aA 10 x31) an).bind fun x32=>
    (A.guard x29 false ((A.deref x32 tD.2).bind fun D5=>A.aj 0 D5) an).bind fun x34=>
    (A.guard x29 false (A.ay 0 2 gq) an).bind fun gn=>
    (A.guard x29 false (A.look (.s [0,2]) x34 gn (AV.agg [br,ah,ah,ah,ah,aM,AV.au]) tD.2) an).bind fun gI=>
    (A.guard x29 false ((A.cells 7 gI).bind fun fA=>A.aj 1 fA) an).bind fun x38=>
    (A.guard x29 false (A.neq .i x38 aG) an).bind fun ff=>
    (A.pick x29 cL ff).bind fun cZ=>
    A.cond cZ (
     TR (AX.normal,[(kT.getD 0 AV.undef)],tD.2)) (
     (A.ay 0 2 gq).bind fun dW=>
     (A.ay 0 9 nQ).bind fun ga=>
     (A.quiet (uK [ga,x7] tD.2) tD.2).bind fun fJ=>
     ((A.lb (kT.getD 0 AV.undef)).bind fun _=>some (4)).bind fun p44=>
     ((A.lb (kT.getD 0 AV.undef)).bind fun xu=>A.aj p44 xu).bind fun fK=>
     ((((A.cell aG).bind fun v=>some [v]).bind fun gZ=>(A.splice 0 gZ [ah,AV.au]).bind fun mG=>some mG).bind fun cs=>some (AV.agg cs)).bind fun eA=>
     ((((A.cell fJ).bind fun v=>some [v]).bind fun nR=>(A.splice 0 nR [ah,ah,ah,ah,ah,ah,AV.au]).bind fun xw=>((A.cell x7).bind fun v=>some [v]).bind fun IM=>(A.splice 2 IM xw).bind fun nS=>((A.cell fK).bind fun v=>some [v]).bind fun vD=>(A.splice 4 vD nS).bind fun iA=>(A.cells 2 eA).bind fun pR=>(A.splice 5 pR iA).bind fun i6=>some i6).bind fun cs=>some (AV.agg cs)).bind fun gA=>
     (A.quiet (uN [gA] tD.2) tD.2).bind fun eG=>
     (A.aL a1).bind fun gE=>
     (A.aA 1 gE).bind fun iT=>
     ((A.deref iT tD.2).bind fun c62=>A.aj 0 c62).bind fun fD=>
     (((A.cells 7 eG).bind fun pS=>(A.splice 0 pS [ah,ah,ah,ah,ah,ah,AV.au,ah,aM]).bind fun xx=>((A.cell fD).bind fun v=>some [v]).bind fun Ti=>(A.splice 7 Ti xx).bind fun xy=>((A.cell cL).bind fun v=>some [v]).bind fun IN=>(A.splice 8 IN xy).bind fun pU=>some pU).bind fun cs=>some (AV.agg cs)).bind fun eT=>
     (A.ew (.s [0,2]) (AV.om σ.length) dW eT tD.2).bind fun M8=>
     TR (AX.normal,[(kT.getD 0 AV.undef)],M8))) (
    TR (AX.exit 0,[(kT.getD 0 AV.undef)],kS))) [(AV.lbx c1)] ((σ++[aJ.map []])++[aJ.it [] anG]) fun Ns=>
 bif Ns.1==AX.exit 0 then(
  ((A.lb (Ns.2.1.getD 0 AV.undef)).bind fun _=>some (0)).bind fun p73=>
  ((A.lb (Ns.2.1.getD 0 AV.undef)).bind fun Tk=>A.aj p73 Tk).bind fun eC=>
  ((((A.cell x7).bind fun v=>some [v]).bind fun D8=>(A.splice 0 D8 [ah,ah,aM]).bind fun lS=>((A.cell eC).bind fun v=>some [v]).bind fun nU=>(A.splice 1 nU lS).bind fun AL=>((A.cell aM).bind fun v=>some [v]).bind fun uu=>(A.splice 2 uu AL).bind fun mH=>some mH).bind fun cs=>some (AV.agg cs)).bind fun p7=>
  (A.aL a2).bind fun rq=>
  (A.aA 0 rq).bind fun Bf=>
  (A.cells 3 p7).bind fun AM=>
  (A.storeAt Bf AM Ns.2.2).bind fun xz=>
  (A.aL a2).bind fun mQ=>
  (A.aA 6 mQ).bind fun iM=>
  ((A.cell (AV.int .i64 (-1))).bind fun v=>some [v]).bind fun nV=>
  (A.storeAt iM nV xz).bind fun nW=>
  (A.aL a2).bind fun x91=>
  (A.aA 8 x91).bind fun oc=>
  ((A.cell (AV.int .i64 (-1))).bind fun v=>some [v]).bind fun Cr=>
  (A.storeAt oc Cr nW).bind fun sx=>
  (A.aL a2).bind fun x95=>
  (A.aA 9 x95).bind fun x96=>
  ((A.cell (AV.om σ.length)).bind fun v=>some [v]).bind fun xA=>
  (A.storeAt x96 xA sx).bind fun pW=>
  A.Ao σ (AV.aH []) pW)else
 none
noncomputable def GM:List AV→Heap→Option (AV×Heap):=A.wrap false [] .k (A.vB NX)
noncomputable def UG (a0 a1:AV) (σ:Heap):Option (AV×Heap):=
 (GY [a1] σ).bind fun r1=>
 (A.not r1.1).bind fun x2=>
 (rD [x2,aG] r1.2).bind fun r3=>
 (Bk [a0] r3.2).bind fun r4=>
 (A.lss a1 r4.1).bind fun x5=>
 (rD [x5,(AV.int .i64 7)] r4.2).bind fun r6=>
 ((((A.cell r3.1).bind fun v=>some [v]).bind fun c7=>(A.splice 0 c7 [ah,ah]).bind fun c8=>((A.cell r6.1).bind fun v=>some [v]).bind fun c9=>(A.splice 1 c9 c8).bind fun dY=>some dY).bind fun cs=>some (AV.sl 1 (chunks 1 2 cs))).bind fun bT=>
 (ya [bT] r6.2).bind fun gD=>
 A.fin σ gD.1 gD.2
noncomputable def GQ:List AV→Heap→Option (AV×Heap):=A.wrap true [(.p DV)] .k (A.cR UG)
noncomputable def UA (a0 a1 a2 a3:AV) (σ:Heap):Option (AV×Heap):=
 (A.cells 2 a2).bind fun c1=>
 (A.ay 0 2 c1).bind fun x2=>
 (Bj [a0,a1,x2,a3] σ).bind fun r3=>
 (A.ext 0 r3.1).bind fun x4=>
 (A.ext 1 r3.1).bind fun x5=>
 (A.aL a0).bind fun x6=>
 (A.aA 10 x6).bind fun x7=>
 ((A.deref x7 r3.2).bind fun c8=>A.aj 0 c8).bind fun x9=>
 (A.ay 0 2 c1).bind fun bJ=>
 (A.look (.s [0,2]) x9 bJ (AV.agg [br,ah,ah,ah,ah,aM,AV.au]) r3.2).bind fun bT=>
 ((A.cells 7 bT).bind fun eo=>A.aj 1 eo).bind fun dr=>
 (A.neq .i dr aG).bind fun dc=>
 A.cond dc (
  A.fin σ x4 r3.2) (
  (A.aL a1).bind fun cU=>
  (A.aA 3 cU).bind fun cz=>
  ((A.deref cz r3.2).bind fun mF=>A.aj 0 mF).bind fun bK=>
  A.cond bK (
   A.fin σ ah r3.2) (
   (A.aL a1).bind fun cW=>
   (A.aA 2 cW).bind fun dg=>
   ((A.deref dg r3.2).bind fun kC=>A.aj 0 kC).bind fun dh=>
   (CS [x4,dh] r3.2).bind fun nC=>
   (A.ext 0 nC.1).bind fun x24=>
   (A.ext 1 nC.1).bind fun x25=>
   A.fin σ x24 nC.2))
noncomputable def CO:List AV→Heap→Option (AV×Heap):=A.wrap true [(.p DV),(.p [(.s 10),.k,.k,.k])] .k (A.vB UA)
noncomputable def Kg (a0 a1:AV) (σ:Heap):Option (AV×Heap):=
 (GQ [a0,a1] σ).bind fun r1=>
 (A.neq .i r1.1 ah).bind fun x2=>
 A.cond x2 (
  some ((AV.aH [AV.au,r1.1]),r1.2)) (
  (EO [a0,a1] r1.2).bind fun r3=>
  (A.cells 4 r3.1).bind fun c4=>
  (A.storeAt (AV.op r3.2.length 0) c4 (r3.2++[aJ.box [AV.au,ah,ah,aM]])).bind fun c5=>
  (A.aL a0).bind fun x6=>
  (A.aA 9 x6).bind fun x7=>
  ((A.deref x7 c5).bind fun c8=>A.aj 0 c8).bind fun x9=>
  (A.bG x9).bind fun bJ=>
  (A.loop (fun v11 kK=>
    (A.lss (v11.getD 1 AV.undef) bJ).bind fun dc=>
    A.cond dc (
     (A.aU 2 x9 (v11.getD 1 AV.undef)).bind fun cU=>
     ((A.deref cU kK).bind fun mE=>A.ay 0 2 mE).bind fun cG=>
     (A.cells 2 cG).bind fun iZ=>
     (A.splice 0 iZ [ah,br]).bind fun gM=>
     (A.ay 0 2 gM).bind fun dg=>
     (A.ay 0 2 gM).bind fun bM=>
     (A.quiet (CO [a0,(AV.op r3.2.length 0),bM,a1] kK) kK).bind fun dh=>
     (((A.cells 2 dg).bind fun eF=>(A.splice 0 eF [ah,br,ah]).bind fun gr=>((A.cell dh).bind fun v=>some [v]).bind fun gO=>(A.splice 2 gO gr).bind fun fM=>some fM).bind fun cs=>some (AV.agg cs)).bind fun dK=>
     (((A.cells 3 dK).bind fun nQ=>(A.splice 0 nQ [ah,br,ah]).bind fun oG=>some oG).bind fun cs=>some (AV.sl 3 (chunks 3 1 cs))).bind fun cH=>
     (A.append 3 (140737488355328 / 32) (v11.getD 0 AV.undef) cH kK).bind fun sD=>
     (A.add (v11.getD 1 AV.undef) aG).bind fun x32=>
     some (AX.normal,[sD.1,x32],sD.2)) (
     some (AX.exit 0,[(v11.getD 0 AV.undef),(v11.getD 1 AV.undef)],kK))) [AV.au,ah] c5).bind fun qY=>
  bif qY.1==AX.exit 0 then(
   some ((AV.aH [(qY.2.1.getD 0 AV.undef),ah]),qY.2.2))else
  none)
noncomputable def Ke:List AV→Heap→Option (AV×Heap):=A.wrap false [] .k (A.cR Kg)
noncomputable def EM (a0:AV) (σ:Heap):Option (AV×Heap):=
 (A.aL a0).bind fun x1=>
 (A.aA 11 x1).bind fun x2=>
 ((A.deref x2 σ).bind fun c3=>A.aj 0 c3).bind fun x4=>
 (J7 [x4] σ).bind fun r5=>
 some (r5.1,r5.2)
noncomputable def NV:List AV→Heap→Option (AV×Heap):=A.wrap false [] .k (A.cD EM)
noncomputable def OI (a0:AV) (σ:Heap):Option (AV×Heap):=
 (A.cells 5 a0).bind fun c1=>
 (A.aj 4 c1).bind fun x2=>
 ((A.jl (.s 3) NB) [x2] σ).bind fun r3=>
 ((((A.cell r3.1).bind fun v=>some [v]).bind fun c4=>(A.splice 4 c4 zX).bind fun c5=>some c5).bind fun cs=>some (AV.agg cs)).bind fun x6=>
 (A.cells 5 x6).bind fun c7=>
 (A.splice 0 c7 zX).bind fun c8=>
 (A.aj 1 c1).bind fun x9=>
 ((A.jl (.s 4) NJ) [x9] r3.2).bind fun jm=>
 ((A.cell jm.1).bind fun v=>some [v]).bind fun gh=>
 (A.splice 1 gh c8).bind fun eo=>
 (A.aj 0 c1).bind fun dr=>
 (A.bG dr).bind fun dc=>
 (A.loop (fun cr iI=>
   (A.lss (cr.getD 3 AV.undef) dc).bind fun bK=>
   A.cond bK (
    (A.aU 3 dr (cr.getD 3 AV.undef)).bind fun cW=>
    ((A.deref cW iI).bind fun iz=>A.ay 0 3 iz).bind fun bM=>
    (A.cells 3 bM).bind fun gq=>
    (A.splice 0 gq [br,ah,AV.au]).bind fun eF=>
    (A.aj 2 eF).bind fun x24=>
    (EI [x24] iI).bind fun jQ=>
    ((A.cell jQ.1).bind fun v=>some [v]).bind fun fM=>
    (A.splice 2 fM eF).bind fun kD=>
    (A.aj 2 kD).bind fun x28=>
    (A.bG x28).bind fun x29=>
    (A.loop (fun v30 jR=>
      (A.lss (v30.getD 4 AV.undef) x29).bind fun ey=>
      A.cond ey (
       ((A.lb (v30.getD 3 AV.undef)).bind fun _=>some (2)).bind fun xI=>
       ((A.lb (v30.getD 3 AV.undef)).bind fun gX=>A.aj xI gX).bind fun gI=>
       ((A.lb (v30.getD 3 AV.undef)).bind fun _=>some (2)).bind fun A7=>
       ((A.lb (v30.getD 3 AV.undef)).bind fun lg=>A.aj A7 lg).bind fun ff=>
       (A.aU 7 ff (v30.getD 4 AV.undef)).bind fun cZ=>
       (A.aA 6 cZ).bind fun dW=>
       ((A.deref dW jR).bind fun lR=>A.aj 0 lR).bind fun fJ=>
       (A.quiet ((A.jl (.s 3) CI) [fJ] jR) jR).bind fun eR=>
       (A.aU 7 gI (v30.getD 4 AV.undef)).bind fun ef=>
       (A.aA 6 ef).bind fun fK=>
       ((A.cell eR).bind fun v=>some [v]).bind fun gZ=>
       (A.storeAt fK gZ jR).bind fun mG=>
       (A.add (v30.getD 4 AV.undef) aG).bind fun eA=>
       some (AX.normal,[(v30.getD 0 AV.undef),(v30.getD 1 AV.undef),(v30.getD 2 AV.undef),(v30.getD 3 AV.undef),eA],mG)) (
       some (AX.exit 2,[(v30.getD 0 AV.undef),(v30.getD 1 AV.undef),(v30.getD 2 AV.undef),(v30.getD 3 AV.undef),(v30.getD 4 AV.undef)],jR))) [(cr.getD 0 AV.undef),(cr.getD 1 AV.undef),(cr.getD 2 AV.undef),(AV.lbx kD),ah] jQ.2).bind fun cE=>
    bif cE.1==AX.exit 2 then(
     ((A.lb (cE.2.1.getD 2 AV.undef)).bind fun _=>some (0)).bind fun Em=>
     ((A.lb (cE.2.1.getD 2 AV.undef)).bind fun _=>some (Em)).bind fun En=>
     ((A.lb (cE.2.1.getD 2 AV.undef)).bind fun nS=>A.aj En nS).bind fun gy=>
     ((A.lb (cE.2.1.getD 3 AV.undef)).bind fun iA=>A.ay 0 3 iA).bind fun gz=>
     (((A.cells 3 gz).bind fun i6=>(A.splice 0 i6 [br,ah,AV.au]).bind fun iR=>some iR).bind fun cs=>some (AV.sl 3 (chunks 3 1 cs))).bind fun eG=>
     (A.append 3 (140737488355328 / 48) gy eG cE.2.2).bind fun xM=>
     ((A.lb (cE.2.1.getD 2 AV.undef)).bind fun _=>some (0)).bind fun Eo=>
     ((A.lb (cE.2.1.getD 2 AV.undef)).bind fun _=>some (Eo)).bind fun Ep=>
     (A.lb (cE.2.1.getD 2 AV.undef)).bind fun xx=>
     ((A.cell xM.1).bind fun v=>some [v]).bind fun ur=>
     (A.splice Ep ur xx).bind fun pS=>
     (A.add (cr.getD 3 AV.undef) aG).bind fun fP=>
     some (AX.normal,[(cE.2.1.getD 0 AV.undef),(cE.2.1.getD 1 AV.undef),(AV.lbx pS),fP],xM.2))else
    none) (
    some (AX.exit 0,[(cr.getD 0 AV.undef),(cr.getD 1 AV.undef),(cr.getD 2 AV.undef),(cr.getD 3 AV.undef)],iI))) [(AV.lbx c1),(AV.lbx zX),(AV.lbx eo),ah] jm.2).bind fun fc=>
 bif fc.1==AX.exit 0 then(
  ((A.lb (fc.2.1.getD 0 AV.undef)).bind fun _=>some (2)).bind fun p68=>
  ((A.lb (fc.2.1.getD 0 AV.undef)).bind fun pU=>A.aj p68 pU).bind fun eT=>
  (A.bG eT).bind fun mP=>
  (A.loop (fun v72 sI=>
    (A.lss (v72.getD 3 AV.undef) mP).bind fun eC=>
    A.cond eC (
     (A.aU 3 eT (v72.getD 3 AV.undef)).bind fun jf=>
     ((A.deref jf sI).bind fun lS=>A.ay 0 3 lS).bind fun jA=>
     (A.cells 3 jA).bind fun AL=>
     (A.splice 0 AL [ah,br,AV.au]).bind fun uu=>
     (A.aj 2 uu).bind fun p6=>
     ((A.jl (.s 3) EF) [p6] sI).bind fun xP=>
     ((A.cell xP.1).bind fun v=>some [v]).bind fun kE=>
     (A.splice 2 kE uu).bind fun i7=>
     ((A.lb (v72.getD 2 AV.undef)).bind fun _=>some (2)).bind fun Et=>
     ((A.lb (v72.getD 2 AV.undef)).bind fun xz=>A.aj Et xz).bind fun mQ=>
     (A.ay 0 3 i7).bind fun iM=>
     (((A.cells 3 iM).bind fun nV=>(A.splice 0 nV [ah,br,AV.au]).bind fun nW=>some nW).bind fun cs=>some (AV.sl 3 (chunks 3 1 cs))).bind fun x91=>
     (A.append 3 (140737488355328 / 48) mQ x91 xP.2).bind fun xS=>
     ((A.lb (v72.getD 2 AV.undef)).bind fun _=>some (2)).bind fun Ev=>
     (A.lb (v72.getD 2 AV.undef)).bind fun D9=>
     ((A.cell xS.1).bind fun v=>some [v]).bind fun sx=>
     (A.splice Ev sx D9).bind fun jt=>
     (A.add (v72.getD 3 AV.undef) aG).bind fun xX=>
     some (AX.normal,[(v72.getD 0 AV.undef),(v72.getD 1 AV.undef),(AV.lbx jt),xX],xS.2)) (
     some (AX.exit 4,[(v72.getD 0 AV.undef),(v72.getD 1 AV.undef),(v72.getD 2 AV.undef),(v72.getD 3 AV.undef)],sI))) [(fc.2.1.getD 0 AV.undef),(fc.2.1.getD 1 AV.undef),(fc.2.1.getD 2 AV.undef),ah] fc.2.2).bind fun ze=>
  bif ze.1==AX.exit 4 then(
   ((A.lb (ze.2.1.getD 0 AV.undef)).bind fun _=>some (3)).bind fun p99=>
   ((A.lb (ze.2.1.getD 0 AV.undef)).bind fun wI=>A.aj p99 wI).bind fun x101=>
   (A.bG x101).bind fun x102=>
   (A.loop (fun iG rZ=>
     (A.lss (iG.getD 2 AV.undef) x102).bind fun nK=>
     A.cond nK (
      (A.aU 2 x101 (iG.getD 2 AV.undef)).bind fun nL=>
      ((A.deref nL rZ).bind fun Dw=>A.ay 0 2 Dw).bind fun nM=>
      (A.cells 2 nM).bind fun Dx=>
      (A.splice 0 Dx [ah,AV.au]).bind fun mq=>
      (A.aj 1 mq).bind fun x112=>
      (CK [x112] rZ).bind fun tc=>
      ((A.cell tc.1).bind fun v=>some [v]).bind fun Dz=>
      (A.splice 1 Dz mq).bind fun tU=>
      (A.aj 1 tU).bind fun DT=>
      (A.bG DT).bind fun pO=>
      (A.loop (fun dz fQ=>
        (A.lss (dz.getD 3 AV.undef) pO).bind fun xg=>
        A.cond xg (
         ((A.lb (dz.getD 2 AV.undef)).bind fun _=>some (1)).bind fun Au=>
         ((A.lb (dz.getD 2 AV.undef)).bind fun nF=>A.aj Au nF).bind fun ue=>
         (A.aU 11 ue (dz.getD 3 AV.undef)).bind fun kg=>
         (A.aL kg).bind fun xh=>
         (A.aA 10 xh).bind fun xk=>
         ((A.deref xk fQ).bind fun lQ=>A.aj 0 lQ).bind fun nq=>
         (A.quiet ((A.jl (.s 8) CJ) [nq] fQ) fQ).bind fun sj=>
         (A.aL kg).bind fun uf=>
         (A.aA 6 uf).bind fun mz=>
         (A.aA 1 mz).bind fun nN=>
         ((A.deref nN fQ).bind fun nG=>A.aj 0 nG).bind fun ug=>
         (A.quiet ((A.jl (.s 2) CH) [ug] fQ) fQ).bind fun nO=>
         (A.aL kg).bind fun uh=>
         (A.aA 10 uh).bind fun mA=>
         ((A.cell sj).bind fun v=>some [v]).bind fun wK=>
         (A.storeAt mA wK fQ).bind fun wL=>
         (A.aL kg).bind fun uj=>
         (A.aA 6 uj).bind fun xm=>
         (A.aA 1 xm).bind fun mB=>
         ((A.cell nO).bind fun v=>some [v]).bind fun Aj=>
         (A.storeAt mB Aj wL).bind fun Ak=>
         (A.add (dz.getD 3 AV.undef) aG).bind fun AG=>
         some (AX.normal,[(dz.getD 0 AV.undef),(dz.getD 1 AV.undef),(dz.getD 2 AV.undef),AG],Ak)) (
         some (AX.exit 8,[(dz.getD 0 AV.undef),(dz.getD 1 AV.undef),(dz.getD 2 AV.undef),(dz.getD 3 AV.undef)],fQ))) [(iG.getD 0 AV.undef),(iG.getD 1 AV.undef),(AV.lbx tU),ah] tc.2).bind fun iF=>
      bif iF.1==AX.exit 8 then(
       ((A.lb (iF.2.1.getD 1 AV.undef)).bind fun _=>some (3)).bind fun DO=>
       ((A.lb (iF.2.1.getD 1 AV.undef)).bind fun wM=>A.aj DO wM).bind fun x150=>
       ((A.lb (iF.2.1.getD 2 AV.undef)).bind fun wN=>A.ay 0 2 wN).bind fun x152=>
       (((A.cells 2 x152).bind fun tX=>(A.splice 0 tX [ah,AV.au]).bind fun DB=>some DB).bind fun cs=>some (AV.sl 2 (chunks 2 1 cs))).bind fun AH=>
       (A.append 2 (140737488355328 / 32) x150 AH iF.2.2).bind fun w8=>
       ((A.lb (iF.2.1.getD 1 AV.undef)).bind fun _=>some (3)).bind fun DP=>
       (A.lb (iF.2.1.getD 1 AV.undef)).bind fun wP=>
       ((A.cell w8.1).bind fun v=>some [v]).bind fun sX=>
       (A.splice DP sX wP).bind fun wO=>
       (A.add (iG.getD 2 AV.undef) aG).bind fun DU=>
       some (AX.normal,[(iF.2.1.getD 0 AV.undef),(AV.lbx wO),DU],w8.2))else
      none) (
      some (AX.exit 6,[(iG.getD 0 AV.undef),(iG.getD 1 AV.undef),(iG.getD 2 AV.undef)],rZ))) [(ze.2.1.getD 1 AV.undef),(ze.2.1.getD 2 AV.undef),ah] ze.2.2).bind fun MU=>
   bif MU.1==AX.exit 6 then(
    ((A.lb (MU.2.1.getD 1 AV.undef)).bind fun Ii=>A.ay 0 5 Ii).bind fun SR=>
    (A.lb (MU.2.1.getD 0 AV.undef)).bind fun Al=>
    (A.cells 5 SR).bind fun Ij=>
    (A.splice 0 Ij Al).bind fun DC=>
    (A.ay 0 5 DC).bind fun x168=>
    A.fin σ x168 MU.2.2)else
   none)else
  none)else
 none
noncomputable def Kv:List AV→Heap→Option (AV×Heap):=A.wrap true [zW] (.a [(.e 3 Dq),(.s 4),(.e 3 [.k,.k,(.s 3)]),(.e 2 [.k,(.e 11 uk)]),(.s 3)]) (A.cD OI)
noncomputable def Hj (a0:AV) (σ:Heap):Option (AV×Heap):=
 (A.cells 5 a0).bind fun c1=>
 (A.ay 0 5 c1).bind fun x2=>
 (Kj [x2] σ).bind fun r3=>
 (A.neq .i r3.1 ah).bind fun x4=>
 A.cond x4 (
  some ((AV.aH [AV.np,r3.1]),r3.2)) (
  (A.ay 0 5 c1).bind fun x5=>
  (Kv [x5] r3.2).bind fun r6=>
  (A.cells 5 r6.1).bind fun c7=>
  (A.splice 0 c7 c1).bind fun c8=>
  (A.ay 0 5 c8).bind fun x9=>
  (((A.cells 5 x9).bind fun dY=>(A.splice 4 dY [AV.au,ah,ah,aM,AV.au,AV.au,AV.au,AV.au,AV.au,AV.au,AV.nm,AV.au]).bind fun gh=>((A.cell (AV.om r6.2.length)).bind fun v=>some [v]).bind fun eo=>(A.splice 10 eo gh).bind fun iY=>some iY).bind fun cs=>some (AV.agg cs)).bind fun dc=>
  (A.cells 12 dc).bind fun lH=>
  (A.aL (AV.op (r6.2++[aJ.map []]).length 0)).bind fun cz=>
  (A.aA 0 cz).bind fun cG=>
  (A.aA 2 cG).bind fun bK=>
  ((A.cell (AV.int .i64 65535)).bind fun v=>some [v]).bind fun gM=>
  (A.storeAt bK gM ((r6.2++[aJ.map []])++[aJ.box lH])).bind fun iz=>
  (A.ay 0 2 c8).bind fun bM=>
  (ET [bM] iz).bind fun Ex=>
  (A.ext 0 Ex.1).bind fun eP=>
  (A.ext 1 Ex.1).bind fun x24=>
  (A.aL (AV.op (r6.2++[aJ.map []]).length 0)).bind fun x25=>
  (A.aA 9 x25).bind fun fC=>
  ((A.cell eP).bind fun v=>some [v]).bind fun kD=>
  (A.storeAt fC kD Ex.2).bind fun nQ=>
  (A.aj 0 c8).bind fun x29=>
  (A.bG x29).bind fun cH=>
  (A.loop (fun v31 sG=>
    (A.lss (v31.getD 1 AV.undef) cH).bind fun x34=>
    A.cond x34 (
     (A.aU 3 x29 (v31.getD 1 AV.undef)).bind fun gn=>
     ((A.deref gn sG).bind fun gY=>A.ay 0 3 gY).bind fun bU=>
     (A.cells 3 bU).bind fun lg=>
     (A.splice 0 lg [br,ah,AV.au]).bind fun l7=>
     (A.aj 0 l7).bind fun cZ=>
     (A.ay 0 3 l7).bind fun dW=>
     (A.ew .z (AV.om nQ.length) cZ dW sG).bind fun IW=>
     (A.add (v31.getD 1 AV.undef) aG).bind fun fJ=>
     some (AX.normal,[(v31.getD 0 AV.undef),fJ],IW)) (
     some (AX.exit 0,[(v31.getD 0 AV.undef),(v31.getD 1 AV.undef)],sG))) [(AV.lbx c8),ah] (nQ++[aJ.map []])).bind fun dV=>
  bif dV.1==AX.exit 0 then(
   ((A.lb (dV.2.1.getD 0 AV.undef)).bind fun _=>some (0)).bind fun p45=>
   ((A.lb (dV.2.1.getD 0 AV.undef)).bind fun _=>some ((p45+1))).bind fun Jq=>
   ((A.lb (dV.2.1.getD 0 AV.undef)).bind fun gZ=>A.aj Jq gZ).bind fun ig=>
   (A.bG ig).bind fun eA=>
   (A.loop (fun v50 tH=>
     (A.lss (v50.getD 1 AV.undef) eA).bind fun gQ=>
     A.cond gQ (
      (A.aU 4 ig (v50.getD 1 AV.undef)).bind fun gy=>
      ((A.deref gy tH).bind fun iA=>A.ay 0 4 iA).bind fun gz=>
      (A.cells 4 gz).bind fun i6=>
      (A.splice 0 i6 [ah,br,ah,ah]).bind fun iR=>
      (A.aj 1 iR).bind fun eG=>
      (A.look .z (AV.om nQ.length) eG (AV.agg [br,ah,AV.au]) tH).bind fun gE=>
      ((A.cells 3 gE).bind fun nT=>A.aj 2 nT).bind fun eS=>
      (A.bG eS).bind fun fD=>
      (A.loop (fun v64 gm=>
        (A.lss (v64.getD 2 AV.undef) fD).bind fun jy=>
        A.cond jy (
         (A.aU 7 eS (v64.getD 2 AV.undef)).bind fun gJ=>
         ((A.deref gJ gm).bind fun pU=>A.ay 0 7 pU).bind fun eT=>
         (A.cells 7 eT).bind fun lI=>
         (A.splice 0 lI [br,ah,ah,ah,ah,aM,AV.au]).bind fun jG=>
         (A.aL (AV.op (r6.2++[aJ.map []]).length 0)).bind fun ij=>
         (A.aA 10 ij).bind fun iq=>
         ((A.deref iq gm).bind fun pV=>A.aj 0 pV).bind fun jf=>
         ((A.lb (v64.getD 1 AV.undef)).bind fun _=>some (0)).bind fun sB=>
         ((A.lb (v64.getD 1 AV.undef)).bind fun nU=>A.aj sB nU).bind fun jS=>
         (A.aj 0 jG).bind fun fT=>
         ((((A.cell jS).bind fun v=>some [v]).bind fun mH=>(A.splice 0 mH [ah,br]).bind fun lp=>((A.cell fT).bind fun v=>some [v]).bind fun kE=>(A.splice 1 kE lp).bind fun i7=>some i7).bind fun cs=>some (AV.agg cs)).bind fun iL=>
         (A.ay 0 7 jG).bind fun jB=>
         (A.ew (.s [0,2]) jf iL jB gm).bind fun uy=>
         (A.add (v64.getD 2 AV.undef) aG).bind fun iM=>
         some (AX.normal,[(v64.getD 0 AV.undef),(v64.getD 1 AV.undef),iM],uy)) (
         some (AX.exit 4,[(v64.getD 0 AV.undef),(v64.getD 1 AV.undef),(v64.getD 2 AV.undef)],gm))) [(v50.getD 0 AV.undef),(AV.lbx iR),ah] tH).bind fun xR=>
      bif xR.1==AX.exit 4 then(
       (A.add (v50.getD 1 AV.undef) aG).bind fun x90=>
       some (AX.normal,[(xR.2.1.getD 0 AV.undef),x90],xR.2.2))else
      none) (
      some (AX.exit 2,[(v50.getD 0 AV.undef),(v50.getD 1 AV.undef)],tH))) [(dV.2.1.getD 0 AV.undef),ah] dV.2.2).bind fun zc=>
   bif zc.1==AX.exit 2 then(
    ((A.lb (zc.2.1.getD 0 AV.undef)).bind fun _=>some (4)).bind fun p92=>
    ((A.lb (zc.2.1.getD 0 AV.undef)).bind fun Cr=>A.aj p92 Cr).bind fun ru=>
    (A.bG ru).bind fun x95=>
    (A.loop (fun jx sJ=>
      (A.lss (jx.getD 1 AV.undef) x95).bind fun x99=>
      A.cond x99 (
       (A.aU 3 ru (jx.getD 1 AV.undef)).bind fun nJ=>
       ((A.deref nJ sJ).bind fun pG=>A.ay 0 3 pG).bind fun x102=>
       (A.cells 3 x102).bind fun Dv=>
       (A.splice 0 Dv [ah,ah,ah]).bind fun rS=>
       ((A.lb (jx.getD 0 AV.undef)).bind fun zZ=>A.ay 0 5 zZ).bind fun nK=>
       (A.aj 1 rS).bind fun nL=>
       (Bp [nK,nL] sJ).bind fun nI=>
       (A.ext 0 nI.1).bind fun nM=>
       (A.ext 1 nI.1).bind fun AA=>
       (A.cells 2 nM).bind fun mq=>
       (A.splice 0 mq [ah,AV.au]).bind fun Dy=>
       (A.aL (AV.op (r6.2++[aJ.map []]).length 0)).bind fun x113=>
       (A.aA 0 x113).bind fun x114=>
       (A.aA 0 x114).bind fun x115=>
       ((A.deref x115 nI.2).bind fun tV=>A.aj 0 tV).bind fun pO=>
       (A.aj 0 rS).bind fun xe=>
       (A.aj 2 rS).bind fun AB=>
       (A.aj 1 Dy).bind fun AD=>
       ((((A.cell xe).bind fun v=>some [v]).bind fun pH=>(A.splice 3 pH [ah,ah,aM,ah,ah,AV.au,ah,ah,ah,AV.nm]).bind fun Aa=>((A.cell AB).bind fun v=>some [v]).bind fun nF=>(A.splice 4 nF Aa).bind fun Ab=>((A.cell AD).bind fun v=>some [v]).bind fun wJ=>(A.splice 5 wJ Ab).bind fun tW=>((A.cell (AV.int .i64 (-1))).bind fun v=>some [v]).bind fun qG=>(A.splice 6 qG tW).bind fun lQ=>((A.cell (AV.int .i64 65535)).bind fun v=>some [v]).bind fun Ac=>(A.splice 7 Ac lQ).bind fun Ad=>((A.cell (AV.int .i64 (-1))).bind fun v=>some [v]).bind fun Ae=>(A.splice 8 Ae Ad).bind fun Af=>some Af).bind fun cs=>some (AV.agg cs)).bind fun nN=>
       (((A.cells 10 nN).bind fun nG=>(A.splice 0 nG [ah,ah,aM,ah,ah,AV.au,ah,ah,ah,AV.nm]).bind fun Ah=>some Ah).bind fun cs=>some (AV.sl 10 (chunks 10 1 cs))).bind fun nO=>
       (A.append 10 (140737488355328 / 96) pO nO nI.2).bind fun wZ=>
       (A.aL (AV.op (r6.2++[aJ.map []]).length 0)).bind fun mA=>
       (A.aA 0 mA).bind fun AE=>
       (A.aA 0 AE).bind fun AF=>
       ((A.cell wZ.1).bind fun v=>some [v]).bind fun DA=>
       (A.storeAt AF DA wZ.2).bind fun Ai=>
       (A.add (jx.getD 1 AV.undef) aG).bind fun mB=>
       some (AX.normal,[(jx.getD 0 AV.undef),mB],Ai)) (
       some (AX.exit 6,[(jx.getD 0 AV.undef),(jx.getD 1 AV.undef)],sJ))) [(zc.2.1.getD 0 AV.undef),ah] zc.2.2).bind fun abg=>
    bif abg.1==AX.exit 6 then(
     some ((AV.aH [(AV.op (r6.2++[aJ.map []]).length 0),ah]),abg.2.2))else
    none)else
   none)else
  none)
noncomputable def KQ:List AV→Heap→Option (AV×Heap):=A.wrap true [zW] .k (A.cD Hj)
noncomputable def ER (a0 a1 a2:AV) (σ:Heap):Option (AV×Heap):=
 ((A.cells 5 a2).bind fun cs=>some (AV.rp cs)).bind fun x1=>
 (A.aA 1 x1).bind fun x2=>
 ((A.deref x2 σ).bind fun c3=>A.aj 0 c3).bind fun x4=>
 (A.eql .i x4 (AV.int .i64 8)).bind fun x5=>
 A.cond x5 (
  (A.aL a1).bind fun x6=>
  (A.aA 1 x6).bind fun x7=>
  ((A.deref x7 σ).bind fun c8=>A.aj 0 c8).bind fun x9=>
  (A.add x9 aG).bind fun bJ=>
  (A.aL a1).bind fun bT=>
  (A.aA 1 bT).bind fun cO=>
  ((A.cell bJ).bind fun v=>some [v]).bind fun iY=>
  (A.storeAt cO iY σ).bind fun jP=>
  (A.aA 4 x1).bind fun cU=>
  ((A.deref cU jP).bind fun mE=>A.aj 0 mE).bind fun cG=>
  (A.aL a1).bind fun bK=>
  (A.aA 2 bK).bind fun cW=>
  ((A.cell cG).bind fun v=>some [v]).bind fun iz=>
  (A.storeAt cW iz jP).bind fun kC=>
  some (ah,kC)) (
  (A.eql .i x4 (AV.int .i64 9)).bind fun dh=>
  A.cond dh (
   (A.aL a1).bind fun eP=>
   (A.aA 1 eP).bind fun x24=>
   ((A.deref x24 σ).bind fun gO=>A.aj 0 gO).bind fun fC=>
   (A.add fC aG).bind fun dK=>
   (A.aL a1).bind fun x28=>
   (A.aA 1 x28).bind fun x29=>
   ((A.cell dK).bind fun v=>some [v]).bind fun su=>
   (A.storeAt x29 su σ).bind fun vC=>
   (A.aA 4 x1).bind fun x32=>
   ((A.deref x32 vC).bind fun D5=>A.aj 0 D5).bind fun x34=>
   (A.eql .i x34 aG).bind fun gn=>
   (A.aL a1).bind fun gI=>
   (A.aA 3 gI).bind fun bU=>
   ((A.cell gn).bind fun v=>some [v]).bind fun lg=>
   (A.storeAt bU lg vC).bind fun l7=>
   some (ah,l7)) (
   (A.aL a1).bind fun cZ=>
   (A.aA 0 cZ).bind fun dW=>
   ((A.deref dW σ).bind fun lR=>A.aj 0 lR).bind fun fJ=>
   (GF (A.tab (fun _ _=>none) [(352,Bh),(354,Bi)]) [fJ,(AV.fn 352 [x1])] σ).bind fun dV=>
   (A.aL a1).bind fun ef=>
   (A.aA 0 ef).bind fun fK=>
   ((A.deref fK dV.2).bind fun gZ=>A.aj 0 gZ).bind fun ig=>
   (A.aU 10 ig dV.1).bind fun eA=>
   (A.aA 1 x1).bind fun mO=>
   ((A.deref mO dV.2).bind fun xw=>A.aj 0 xw).bind fun eB=>
   (A.eql .i eB aG).bind fun gQ=>
   A.cond gQ (
    (A.aL eA).bind fun gy=>
    (A.aA 6 gy).bind fun kL=>
    ((A.deref kL dV.2).bind fun pR=>A.aj 0 pR).bind fun jJ=>
    (A.add jJ aG).bind fun gA=>
    (A.aL eA).bind fun eG=>
    (A.aA 5 eG).bind fun gE=>
    ((A.deref gE dV.2).bind fun nT=>A.aj 0 nT).bind fun eS=>
    (A.bG eS).bind fun fD=>
    (A.eql .i gA fD).bind fun lC=>
    A.cond lC (
     some ((AV.int .i64 8),dV.2)) (
     (A.aL a1).bind fun iK=>
     (A.aA 1 iK).bind fun fP=>
     ((A.deref fP dV.2).bind fun xy=>A.aj 0 xy).bind fun gJ=>
     (A.add gJ aG).bind fun fk=>
     (A.aL a1).bind fun eT=>
     (A.aA 1 eT).bind fun mP=>
     ((A.cell fk).bind fun v=>some [v]).bind fun jG=>
     (A.storeAt mP jG dV.2).bind fun IP=>
     (A.geq gA ah).bind fun iq=>
     (A.cond iq (
      (A.aA 0 x1).bind fun jf=>
      ((A.deref jf IP).bind fun lS=>A.aj 0 lS).bind fun jA=>
      (sK [a0,a1,dV.1,gA,jA] IP).bind fun ko=>
      some (([]:List AV),ko.2)) (
      some (([]:List AV),IP))).bind fun r75=>
     some (ah,r75.2))) (
    (A.eql .i eB (AV.int .i64 2)).bind fun fT=>
    A.cond fT (
     (A.aL eA).bind fun p6=>
     (A.aA 6 p6).bind fun p7=>
     ((A.deref p7 dV.2).bind fun kE=>A.aj 0 kE).bind fun Bf=>
     (A.sub Bf aG).bind fun iL=>
     (A.lss iL ah).bind fun jB=>
     A.cond jB (
      some ((AV.int .i64 8),dV.2)) (
      (A.aL a1).bind fun mQ=>
      (A.aA 1 mQ).bind fun iM=>
      ((A.deref iM dV.2).bind fun nV=>A.aj 0 nV).bind fun x90=>
      (A.add x90 aG).bind fun x91=>
      (A.aL a1).bind fun oc=>
      (A.aA 1 oc).bind fun x93=>
      ((A.cell x91).bind fun v=>some [v]).bind fun sx=>
      (A.storeAt x93 sx dV.2).bind fun jt=>
      (A.geq iL ah).bind fun x96=>
      (A.cond x96 (
       (A.aA 0 x1).bind fun x98=>
       ((A.deref x98 jt).bind fun xB=>A.aj 0 xB).bind fun nJ=>
       (sK [a0,a1,dV.1,iL,nJ] jt).bind fun vu=>
       some (([]:List AV),vu.2)) (
       some (([]:List AV),jt))).bind fun r97=>
      some (ah,r97.2))) (
     (A.eql .i eB (AV.int .i64 3)).bind fun x102=>
     A.cond x102 (
      (A.aL eA).bind fun vA=>
      (A.aA 5 vA).bind fun x104=>
      ((A.deref x104 dV.2).bind fun zZ=>A.aj 0 zZ).bind fun nK=>
      (GH (A.tab (fun _ _=>none) [(352,Bh),(354,Bi)]) [nK,(AV.fn 354 [x1])] dV.2).bind fun Ge=>
      (A.lss Ge.1 ah).bind fun II=>
      A.cond II (
       some ((AV.int .i64 8),Ge.2)) (
       (A.aL a1).bind fun nM=>
       (A.aA 1 nM).bind fun AA=>
       ((A.deref AA Ge.2).bind fun mq=>A.aj 0 mq).bind fun x112=>
       (A.add x112 aG).bind fun x113=>
       (A.aL a1).bind fun x114=>
       (A.aA 1 x114).bind fun x115=>
       ((A.cell x113).bind fun v=>some [v]).bind fun tV=>
       (A.storeAt x115 tV Ge.2).bind fun Ie=>
       (A.geq Ge.1 ah).bind fun xe=>
       (A.cond xe (
        (A.aA 0 x1).bind fun AD=>
        ((A.deref AD Ie).bind fun pH=>A.aj 0 pH).bind fun IJ=>
        (sK [a0,a1,dV.1,Ge.1,IJ] Ie).bind fun oF=>
        some (([]:List AV),oF.2)) (
        some (([]:List AV),Ie))).bind fun aoj=>
       some (ah,aoj.2))) (
      (A.eql .i eB (AV.int .i64 4)).bind fun ue=>
      A.cond ue (
       (A.aL eA).bind fun kg=>
       (A.aA 0 kg).bind fun xh=>
       (A.aA 2 xh).bind fun xk=>
       ((A.deref xk dV.2).bind fun lQ=>A.aj 0 lQ).bind fun nq=>
       (A.guard nq false (some eA) an).bind fun sj=>
       (A.guard nq false (A.aL sj) an).bind fun uf=>
       (A.guard nq false (A.aA 6 uf) an).bind fun mz=>
       (A.guard nq false ((A.deref mz dV.2).bind fun amP=>A.aj 0 amP) an).bind fun SM=>
       (A.guard nq false (A.lss SM ah) an).bind fun ug=>
       (A.pick nq cL ug).bind fun nO=>
       A.cond nO (
        some ((AV.int .i64 10),dV.2)) (
        (A.aL eA).bind fun uh=>
        (A.aA 0 uh).bind fun mA=>
        ((A.deref mA dV.2).bind fun wK=>A.ay 0 3 wK).bind fun AF=>
        (A.aA 0 x1).bind fun uj=>
        ((A.deref uj dV.2).bind fun Ai=>A.aj 0 Ai).bind fun mB=>
        (A.quiet (vR [AF,mB] dV.2) dV.2).bind fun SN=>
        (A.aA 0 x1).bind fun SO=>
        ((A.deref SO dV.2).bind fun amR=>A.aj 0 amR).bind fun SP=>
        ((((A.cell SN).bind fun v=>some [v]).bind fun RO=>(A.splice 0 RO [ah,ah,aM]).bind fun wM=>((A.cell SP).bind fun v=>some [v]).bind fun Ig=>(A.splice 1 Ig wM).bind fun wN=>((A.cell cL).bind fun v=>some [v]).bind fun RQ=>(A.splice 2 RQ wN).bind fun tX=>some tX).bind fun cs=>some (AV.agg cs)).bind fun SQ=>
        (A.aL eA).bind fun AH=>
        (A.aA 0 AH).bind fun aoB=>
        (A.cells 3 SQ).bind fun amT=>
        (A.storeAt aoB amT dV.2).bind fun sX=>
        (A.aL a1).bind fun x159=>
        (A.aA 1 x159).bind fun x160=>
        ((A.deref x160 sX).bind fun Ih=>A.aj 0 Ih).bind fun aoC=>
        (A.add aoC aG).bind fun aoD=>
        (A.aL a1).bind fun SR=>
        (A.aA 1 SR).bind fun aoE=>
        ((A.cell aoD).bind fun v=>some [v]).bind fun DC=>
        (A.storeAt aoE DC sX).bind fun Al=>
        (A.geq (AV.int .i64 (-1)) ah).bind fun x168=>
        (A.cond x168 (
         (A.aA 0 x1).bind fun aoF=>
         ((A.deref aoF Al).bind fun amW=>A.aj 0 amW).bind fun SS=>
         (sK [a0,a1,dV.1,(AV.int .i64 (-1)),SS] Al).bind fun aol=>
         some (([]:List AV),aol.2)) (
         some (([]:List AV),Al))).bind fun aok=>
        some (ah,aok.2))) (
       (A.eql .i eB (AV.int .i64 5)).bind fun SU=>
       A.cond SU (
        (A.aL eA).bind fun aoI=>
        (A.aA 0 aoI).bind fun SV=>
        (A.aA 2 SV).bind fun aoJ=>
        ((A.deref aoJ dV.2).bind fun RT=>A.aj 0 RT).bind fun aoK=>
        (A.not aoK).bind fun aoL=>
        A.cond aoL (
         some ((AV.int .i64 10),dV.2)) (
         (A.aL eA).bind fun aoM=>
         (A.aA 0 aoM).bind fun aoN=>
         (A.aA 0 aoN).bind fun SX=>
         ((A.deref SX dV.2).bind fun RU=>A.aj 0 RU).bind fun aoO=>
         (A.aA 0 x1).bind fun aoP=>
         ((A.deref aoP dV.2).bind fun am4=>A.aj 0 am4).bind fun aoR=>
         ((((A.cell aoO).bind fun v=>some [v]).bind fun am6=>(A.splice 0 am6 [ah,ah,aM]).bind fun am7=>((A.cell aoR).bind fun v=>some [v]).bind fun am8=>(A.splice 1 am8 am7).bind fun DD=>((A.cell aM).bind fun v=>some [v]).bind fun DE=>(A.splice 2 DE DD).bind fun DF=>some DF).bind fun cs=>some (AV.agg cs)).bind fun aoT=>
         (A.aL eA).bind fun aoU=>
         (A.aA 0 aoU).bind fun aoV=>
         (A.cells 3 aoT).bind fun am9=>
         (A.storeAt aoV am9 dV.2).bind fun aaO=>
         (A.aL a1).bind fun SY=>
         (A.aA 1 SY).bind fun aoY=>
         ((A.deref aoY aaO).bind fun RV=>A.aj 0 RV).bind fun SZ=>
         (A.add SZ aG).bind fun S2=>
         (A.aL a1).bind fun aoZ=>
         (A.aA 1 aoZ).bind fun ao0=>
         ((A.cell S2).bind fun v=>some [v]).bind fun anf=>
         (A.storeAt ao0 anf aaO).bind fun RW=>
         (A.geq (AV.int .i64 (-1)) ah).bind fun ao3=>
         (A.cond ao3 (
          (A.aA 0 x1).bind fun S3=>
          ((A.deref S3 RW).bind fun ani=>A.aj 0 ani).bind fun ao5=>
          (sK [a0,a1,dV.1,(AV.int .i64 (-1)),ao5] RW).bind fun aon=>
          some (([]:List AV),aon.2)) (
          some (([]:List AV),RW))).bind fun aom=>
         some (ah,aom.2))) (
        (A.eql .i eB (AV.int .i64 6)).bind fun ao6=>
        A.cond ao6 (
         (A.aL eA).bind fun ao7=>
         (A.aA 6 ao7).bind fun S4=>
         ((A.deref S4 dV.2).bind fun anl=>A.aj 0 anl).bind fun S5=>
         (A.lss S5 ah).bind fun S6=>
         A.cond S6 (
          some ((AV.int .i64 10),dV.2)) (
          (A.aL a1).bind fun S7=>
          (A.aA 1 S7).bind fun S8=>
          ((A.deref S8 dV.2).bind fun anm=>A.aj 0 anm).bind fun ao9=>
          (A.add ao9 aG).bind fun S9=>
          (A.aL a1).bind fun Ta=>
          (A.aA 1 Ta).bind fun Tb=>
          ((A.cell S9).bind fun v=>some [v]).bind fun ano=>
          (A.storeAt Tb ano dV.2).bind fun aaP=>
          ((A.deref x1 aaP).bind fun anp=>A.ay 0 5 anp).bind fun apb=>
          (GM [a0,a1,eA,apb] aaP).bind fun aop=>
          some (ah,aop.2))) (
         (A.eql .i eB (AV.int .i64 7)).bind fun Tc=>
         (A.cond Tc (
          (A.aA 4 x1).bind fun Td=>
          ((A.deref Td dV.2).bind fun RZ=>A.aj 0 RZ).bind fun ape=>
          (A.aL eA).bind fun apf=>
          (A.aA 7 apf).bind fun apg=>
          ((A.cell ape).bind fun v=>some [v]).bind fun ans=>
          (A.storeAt apg ans dV.2).bind fun ant=>
          some (([]:List AV),ant)) (
          some (([]:List AV),dV.2))).bind fun abh=>
         (A.aL a1).bind fun aph=>
         (A.aA 1 aph).bind fun api=>
         ((A.deref api abh.2).bind fun anu=>A.aj 0 anu).bind fun apj=>
         (A.add apj aG).bind fun apk=>
         (A.aL a1).bind fun apl=>
         (A.aA 1 apl).bind fun apm=>
         ((A.cell apk).bind fun v=>some [v]).bind fun anv=>
         (A.storeAt apm anv abh.2).bind fun R1=>
         (A.geq (AV.int .i64 (-1)) ah).bind fun apn=>
         (A.cond apn (
          (A.aA 0 x1).bind fun apo=>
          ((A.deref apo R1).bind fun anw=>A.aj 0 anw).bind fun apq=>
          (sK [a0,a1,dV.1,(AV.int .i64 (-1)),apq] R1).bind fun aor=>
          some (([]:List AV),aor.2)) (
          some (([]:List AV),R1))).bind fun aoq=>
         some (ah,aoq.2)))))))))
noncomputable def GR:List AV→Heap→Option (AV×Heap):=A.wrap false [] .k (A.lG ER)
noncomputable def Kr (a0 a1:AV) (σ:Heap):Option (AV×Heap):=
 (A.cells 5 a1).bind fun c1=>
 (A.aL a0).bind fun x2=>
 (A.aA 11 x2).bind fun x3=>
 ((A.deref x3 σ).bind fun c4=>A.aj 0 c4).bind fun x5=>
 (A.bG x5).bind fun x6=>
 (A.eql .i x6 (AV.int .i64 5000)).bind fun x7=>
 (A.quiet (rD [x7,(AV.int .i64 2)] σ) σ).bind fun x8=>
 (A.ay 0 5 c1).bind fun x9=>
 (A.quiet (Kb [x9] σ) σ).bind fun bJ=>
 (A.aj 0 c1).bind fun bT=>
 (A.quiet (GY [bT] σ) σ).bind fun cO=>
 (A.not cO).bind fun dr=>
 (A.quiet (rD [dr,aG] σ) σ).bind fun dc=>
 (A.aj 0 c1).bind fun cU=>
 (A.quiet (Bk [a0] σ) σ).bind fun cz=>
 (A.lss cU cz).bind fun cG=>
 (A.quiet (rD [cG,(AV.int .i64 7)] σ) σ).bind fun bK=>
 ((((A.cell x8).bind fun v=>some [v]).bind fun gM=>(A.splice 0 gM [ah,ah,ah,ah]).bind fun iz=>((A.cell bJ).bind fun v=>some [v]).bind fun kC=>(A.splice 1 kC iz).bind fun gq=>((A.cell dc).bind fun v=>some [v]).bind fun eF=>(A.splice 2 eF gq).bind fun gr=>((A.cell bK).bind fun v=>some [v]).bind fun gO=>(A.splice 3 gO gr).bind fun fM=>some fM).bind fun cs=>some (AV.sl 1 (chunks 1 4 cs))).bind fun dK=>
 (A.quiet (ya [dK] σ) σ).bind fun x28=>
 (A.aL a0).bind fun x29=>
 (A.aA 4 x29).bind fun cH=>
 ((A.deref cH σ).bind fun vC=>A.ay 0 5 vC).bind fun x32=>
 (A.ay 0 5 c1).bind fun ey=>
 (A.quiet (Kc [x32,ey] σ) σ).bind fun x34=>
 ((((A.cell x28).bind fun v=>some [v]).bind fun gX=>(A.splice 0 gX [ah,ah]).bind fun gY=>((A.cell x34).bind fun v=>some [v]).bind fun fA=>(A.splice 1 fA gY).bind fun lg=>some lg).bind fun cs=>some (AV.sl 1 (chunks 1 2 cs))).bind fun ff=>
 (A.quiet (ya [ff] σ) σ).bind fun cZ=>
 (A.neq .i cZ ah).bind fun dW=>
 A.cond dW (
  some (cZ,σ)) (
  (A.aj 0 c1).bind fun ga=>
  (EO [a0,ga] σ).bind fun iS=>
  (A.cells 4 iS.1).bind fun D6=>
  (A.storeAt (AV.op iS.2.length 0) D6 (iS.2++[aJ.box [AV.au,ah,ah,aM]])).bind fun xu=>
  (A.ay 0 5 c1).bind fun fK=>
  (GR [a0,(AV.op iS.2.length 0),fK] xu).bind fun n9=>
  (A.neq .i n9.1 ah).bind fun ig=>
  A.cond ig (
   some (n9.1,n9.2)) (
   ((A.deref (AV.op iS.2.length 0) n9.2).bind fun AJ=>A.ay 0 4 AJ).bind fun mO=>
   (A.aL a0).bind fun gP=>
   (A.aA 0 gP).bind fun eB=>
   (A.cells 4 mO).bind fun nS=>
   (A.storeAt eB nS n9.2).bind fun vD=>
   (A.aL a0).bind fun kL=>
   (A.aA 11 kL).bind fun gz=>
   ((A.deref gz vD).bind fun i6=>A.aj 0 i6).bind fun gA=>
   (A.ay 0 5 c1).bind fun eG=>
   (((A.cells 5 eG).bind fun AK=>(A.splice 0 AK [ah,ah,ah,ah,ah]).bind fun nT=>some nT).bind fun cs=>some (AV.sl 5 (chunks 5 1 cs))).bind fun eS=>
   (A.append 5 (140737488355328 / 40) gA eS vD).bind fun tF=>
   (A.aL a0).bind fun lC=>
   (A.aA 11 lC).bind fun iK=>
   ((A.cell tF.1).bind fun v=>some [v]).bind fun Ti=>
   (A.storeAt iK Ti tF.2).bind fun xy=>
   some (ah,xy)))
noncomputable def EU:List AV→Heap→Option (AV×Heap):=A.wrap false [] .k (A.cR Kr)
end
section
set_option maxRecDepth 100000
noncomputable def Ui (a0 a1 a2:AV) (σ:Heap):Option (AV×Heap):=
 (A.cells 5 a0).bind fun c1=>
 (A.aj 4 c1).bind fun x2=>
 (A.bG x2).bind fun x3=>
 (A.eql .i x3 ah).bind fun x4=>
 A.cond x4 (
  A.fin σ cL σ) (
  (A.aj 4 c1).bind fun x5=>
  (A.zL 3 x5 none (some aG) σ).bind fun x6=>
  ((A.cell x6).bind fun v=>some [v]).bind fun c7=>
  (A.splice 4 c7 c1).bind fun c8=>
  (A.ay 0 5 c8).bind fun x9=>
  (KQ [x9] σ).bind fun jm=>
  (A.ext 0 jm.1).bind fun bT=>
  (A.ext 1 jm.1).bind fun cO=>
  (A.neq .i cO ah).bind fun dr=>
  (A.guard dr false (some bT) an).bind fun dc=>
  (A.guard dr false (A.eql .p dc AV.np) an).bind fun cU=>
  (A.pick dr cL cU).bind fun cz=>
  A.cond cz (
   (A.neq .i cO ah).bind fun cG=>
   (A.guard cG true (some bT) an).bind fun bK=>
   (A.guard cG true (A.eql .p bK AV.np) an).bind fun cW=>
   (A.pick cG cW aM).bind fun dg=>
   A.fin σ dg jm.2) (
   (A.bG a1).bind fun bM=>
   (A.loop (fun v22 T4=>
     (A.lss (v22.getD 1 AV.undef) bM).bind fun x25=>
     A.cond x25 (
      (A.aU 5 a1 (v22.getD 1 AV.undef)).bind fun fC=>
      ((A.deref fC T4).bind fun kD=>A.ay 0 5 kD).bind fun x28=>
      (A.cells 5 x28).bind fun oG=>
      (A.splice 0 oG [ah,ah,ah,ah,ah]).bind fun su=>
      (A.ay 0 5 su).bind fun x31=>
      (EU [bT,x31] T4).bind fun r32=>
      (A.add (v22.getD 1 AV.undef) aG).bind fun ey=>
      some (AX.normal,[(v22.getD 0 AV.undef),ey],r32.2)) (
      some (AX.exit 0,[(v22.getD 0 AV.undef),(v22.getD 1 AV.undef)],T4))) [(AV.lbx c8),ah] jm.2).bind fun lB=>
   bif lB.1==AX.exit 0 then(
    (Bk [bT] lB.2.2).bind fun Jw=>
    ((A.lb (lB.2.1.getD 0 AV.undef)).bind fun _=>some (4)).bind fun TV=>
    ((A.lb (lB.2.1.getD 0 AV.undef)).bind fun fA=>A.aj TV fA).bind fun x38=>
    (A.aU 3 x38 ah).bind fun ff=>
    (A.aA 0 ff).bind fun cZ=>
    ((A.deref cZ Jw.2).bind fun uq=>A.aj 0 uq).bind fun ga=>
    ((((A.cell (AV.int .i64 4)).bind fun v=>some [v]).bind fun pQ=>(A.splice 1 pQ [ah,ah,ah,ah,ah]).bind fun D6=>((A.cell Jw.1).bind fun v=>some [v]).bind fun xu=>(A.splice 0 xu D6).bind fun D7=>((A.cell ga).bind fun v=>some [v]).bind fun gZ=>(A.splice 2 gZ D7).bind fun mG=>some mG).bind fun cs=>some (AV.agg cs)).bind fun eA=>
    (EU [bT,eA] Jw.2).bind fun cE=>
    (A.neq .i cE.1 ah).bind fun gP=>
    A.cond gP (
     (NV [bT] cE.2).bind fun zb=>
     (A.bG zb.1).bind fun gQ=>
     (A.bG a1).bind fun gy=>
     (A.leq gQ gy).bind fun kL=>
     A.fin σ kL zb.2) (
     (Ke [bT,Jw.1] cE.2).bind fun CB=>
     (A.ext 0 CB.1).bind fun jJ=>
     (A.ext 1 CB.1).bind fun gA=>
     (A.rem a2 (AV.int .i64 36000000)).bind fun eG=>
     (A.max ah eG).bind fun gE=>
     (A.add Jw.1 gE).bind fun iT=>
     (A.min (AV.int .i64 36000000) iT).bind fun eS=>
     (Ke [bT,eS] CB.2).bind fun tF=>
     (A.ext 0 tF.1).bind fun lC=>
     (A.ext 1 tF.1).bind fun iK=>
     (A.eql .i gA ah).bind fun fP=>
     (A.guard fP true (some iK) an).bind fun jy=>
     (A.guard fP true (A.eql .i jy ah) an).bind fun gJ=>
     (A.pick fP gJ aM).bind fun fk=>
     (A.guard fk true (some jJ) an).bind fun eT=>
     (A.guard fk true (some lC) an).bind fun mP=>
     (A.guard fk true (A.quiet (J5 [eT,mP] tF.2) tF.2) an).bind fun oa=>
     (A.pick fk oa aM).bind fun ij=>
     A.fin σ ij tF.2))else
   none))
noncomputable def Uh:List AV→Heap→Option (AV×Heap):=A.wrap true [zW,(.s 5)] .k (A.lG Ui)
end
section
open Go.RowKit
theorem mX.same {P:Program} {nm:List Nat} {f:FuncId} {args:List AV} {σ:Heap} {r:AV} (hc:∀us w,(callFunc f us).run P w=.ok (.enter f us) w)
  (h:∀(c:RC) (vs:Array Value) (w:World),aI c args vs.toList→Calls P f vs w fun e w'=>∃v,e=.returned v∧Below w.heap.size w w'∧∀c',ak c' r v):mX P nm f args σ r σ:=by
 refine .inl ⟨f,hc,fun z vs e1 e2 hh ha=>(h _ vs z.w ha).mono ?_⟩
 rintro e w' ⟨v,k1,k2,k3⟩
 have ho:Out z z.w z.E:=⟨rfl,rfl,rfl,Nat.le_refl _,fun _ _ _=>rfl,fun i p hp=>.inr ⟨p,hp,rfl⟩,fun i p hp=>⟨p,hp,.inl rfl⟩,e2,fun p hp=>hh.lt hp⟩
 exact⟨v,z.E,k1,ho.grow k2,hh.mono (wg k2) rfl (fun p hp=>k2.block _ (hh.lt hp)),k3 _⟩
theorem ME {c:RC} {a:AV} {vs:Array Value} (h:aI c [a] vs.toList):∃v,vs=#[v]∧ak c a v:=by
 simp only[aI]at h
 obtain⟨v,vs',e,h1,e2⟩:=h
 refine⟨v,?_,h1⟩
 subst e2
 cases vs;simp at e;simp [e]
theorem Rx {c:RC} {a b:AV} {vs:Array Value} (h:aI c [a,b] vs.toList):∃v u,vs=#[v,u]∧ak c a v∧ak c b u:=by
 simp only[aI]at h
 obtain⟨v,vs',e,h1,u,vs2,e2,h2,e3⟩:=h
 refine⟨v,u,?_,h1,h2⟩
 subst e3;subst e2
 cases vs;simp at e;simp [e]
theorem UE:Sound Tryz.prog aF 61 Kk:=by
 intro args σ r σ' h
 unfold Kk A.cR at h
 split at h
 ·simp only at h
  split at h
  ·simp only[Option.some.injEq,Prod.mk.injEq]at h
   obtain⟨rfl,rfl⟩:=h
   refine mX.same Tryz.call61 fun c vs w hr=>?_
   obtain⟨v,u,rfl,h1,h2⟩:=Rx hr
   simp only[ak]at h1 h2
   subst h1 h2
   refine(Tryz.strings_Compare _ _ w).mono ?_
   rintro e w' ⟨rfl,rfl⟩
   exact⟨_,rfl,Below.refl _ _,fun c'=>by simp [ak]⟩
  ·cases h
 ·cases h
end
section
open Go.RowKit
set_option maxRecDepth 100000
theorem yc {P:Program} {nm:List Nat} {f:FuncId} {m0:List AV→Heap→Option (AV×Heap)} (h0:Sound P nm f m0) (hc:∀us w,(callFunc f us).run P w=.ok (.enter f us) w)
  (hz:∀a cap w,Calls P f #[.slice a 0 cap] w fun e w'=>∃q,e=.returned (.slice q 0 0)∧Below w.heap.size w w'):Sound P nm f (A.qv m0):=by
 intro args σ r σ' h
 unfold A.qv at h
 split at h
 ·simp only[Option.some.injEq,Prod.mk.injEq]at h
  obtain⟨rfl,rfl⟩:=h
  refine mX.same hc fun c vs w hr=>?_
  obtain⟨v,rfl,h1⟩:=ME hr
  simp only[ak]at h1
  obtain⟨a,cap,rfl,_⟩:=h1
  refine(hz _ _ w).mono ?_
  rintro e w' ⟨q,rfl,hb⟩
  exact⟨_,rfl,hb,fun c'=>by simp [ak]⟩
 ·simp only[Option.some.injEq,Prod.mk.injEq]at h
  obtain⟨rfl,rfl⟩:=h
  refine mX.same hc fun c vs w hr=>?_
  obtain⟨v,rfl,h1⟩:=ME hr
  simp only[ak]at h1
  subst h1
  refine(hz _ _ w).mono ?_
  rintro e w' ⟨q,rfl,hb⟩
  exact⟨_,rfl,hb,fun c'=>by simp [ak]⟩
 ·simp only[Option.some.injEq,Prod.mk.injEq]at h
  obtain⟨rfl,rfl⟩:=h
  refine mX.same hc fun c vs w hr=>?_
  obtain⟨v,rfl,h1⟩:=ME hr
  simp only[ak]at h1
  obtain⟨a,rfl⟩:=h1
  refine(hz _ _ w).mono ?_
  rintro e w' ⟨q,rfl,hb⟩
  exact⟨_,rfl,hb,fun c'=>by simp [ak]⟩
 ·simp only[Option.some.injEq,Prod.mk.injEq]at h
  obtain⟨rfl,rfl⟩:=h
  refine mX.same hc fun c vs w hr=>?_
  obtain⟨v,rfl,h1⟩:=ME hr
  simp only[ak]at h1
  obtain⟨_,p,_,_,a,cap,rfl,_⟩:=h1
  refine(hz _ _ w).mono ?_
  rintro e w' ⟨q,rfl,hb⟩
  exact⟨_,rfl,hb,fun c'=>by simp [ak]⟩
 ·exact h0 _ _ _ _ h
theorem mU {P:Program} {t e:TypeId} (ht:P.underlying t=some (.slice e)) (a:Option Addr) (n m:Nat) (w:World):Sem.run P (binOp .eql t (.slice a n m) (.slice none 0 0)) w=.ok (.bool a.isNone) w:=by
 simp [binOp,show(Op.equal t (.slice a n m) (.slice none 0 0)).run P w=.ok a.isNone w from ZW w 9999 t a n m ht]
theorem ajz (a:Option Addr) (cap:Nat) (w:World):Calls Tryz.prog 97 #[.slice a 0 cap] w fun e w'=>∃q,e=.returned (.slice q 0 0)∧Below w.heap.size w w':=by
 go_enter Tryz.func97,Tryz.ntmps97
 cases a
 ·go_wp2_with (simp only[mU (Tryz.underlying133),Option.isNone_none,Result.andThen_ok])
  go_ret
  exact⟨_,rfl,Below.refl _ _⟩
 ·go_wp2_with (simp only[mU (Tryz.underlying133),Option.isNone_some,Result.andThen_ok])
  go_ret
  exact⟨_,rfl,(Below.refl _ _).alloc (Nat.le_refl _) _⟩
theorem ah8 (a:Option Addr) (cap:Nat) (w:World):Calls Tryz.prog 64 #[.slice a 0 cap] w fun e w'=>∃q,e=.returned (.slice q 0 0)∧Below w.heap.size w w':=by
 go_enter Tryz.func64,Tryz.ntmps64
 cases a
 ·go_wp2_with (simp only[mU (Tryz.underlying130),Option.isNone_none,Result.andThen_ok])
  go_ret
  exact⟨_,rfl,Below.refl _ _⟩
 ·go_wp2_with (simp only[mU (Tryz.underlying130),Option.isNone_some,Result.andThen_ok])
  go_ret
  exact⟨_,rfl,(Below.refl _ _).alloc (Nat.le_refl _) _⟩
theorem ak7 (a:Option Addr) (cap:Nat) (w:World):Calls Tryz.prog 96 #[.slice a 0 cap] w fun e w'=>∃q,e=.returned (.slice q 0 0)∧Below w.heap.size w w':=by
 go_enter Tryz.func96,Tryz.ntmps96
 cases a
 ·go_wp2_with (simp only[mU (Tryz.underlying68),Option.isNone_none,Result.andThen_ok])
  go_ret
  exact⟨_,rfl,Below.refl _ _⟩
 ·go_wp2_with (simp only[mU (Tryz.underlying68),Option.isNone_some,Result.andThen_ok])
  go_ret
  exact⟨_,rfl,(Below.refl _ _).alloc (Nat.le_refl _) _⟩
theorem ah9 (a:Option Addr) (cap:Nat) (w:World):Calls Tryz.prog 94 #[.slice a 0 cap] w fun e w'=>∃q,e=.returned (.slice q 0 0)∧Below w.heap.size w w':=by
 go_enter Tryz.func94,Tryz.ntmps94
 cases a
 ·go_wp2_with (simp only[mU (Tryz.underlying48),Option.isNone_none,Result.andThen_ok])
  go_ret
  exact⟨_,rfl,Below.refl _ _⟩
 ·go_wp2_with (simp only[mU (Tryz.underlying48),Option.isNone_some,Result.andThen_ok])
  go_ret
  exact⟨_,rfl,(Below.refl _ _).alloc (Nat.le_refl _) _⟩
theorem ah7 (a:Option Addr) (cap:Nat) (w:World):Calls Tryz.prog 93 #[.slice a 0 cap] w fun e w'=>∃q,e=.returned (.slice q 0 0)∧Below w.heap.size w w':=by
 go_enter Tryz.func93,Tryz.ntmps93
 cases a
 ·go_wp2_with (simp only[mU (Tryz.underlying99),Option.isNone_none,Result.andThen_ok])
  go_ret
  exact⟨_,rfl,Below.refl _ _⟩
 ·go_wp2_with (simp only[mU (Tryz.underlying99),Option.isNone_some,Result.andThen_ok])
  go_ret
  exact⟨_,rfl,(Below.refl _ _).alloc (Nat.le_refl _) _⟩
theorem aeK (a:Option Addr) (cap:Nat) (w:World):Calls Tryz.prog 91 #[.slice a 0 cap] w fun e w'=>∃q,e=.returned (.slice q 0 0)∧Below w.heap.size w w':=by
 go_enter Tryz.func91,Tryz.ntmps91
 cases a
 ·go_wp2_with (simp only[mU (Tryz.underlying28),Option.isNone_none,Result.andThen_ok])
  go_ret
  exact⟨_,rfl,Below.refl _ _⟩
 ·go_wp2_with (simp only[mU (Tryz.underlying28),Option.isNone_some,Result.andThen_ok])
  go_ret
  exact⟨_,rfl,(Below.refl _ _).alloc (Nat.le_refl _) _⟩
theorem ajA (a:Option Addr) (cap:Nat) (w:World):Calls Tryz.prog 92 #[.slice a 0 cap] w fun e w'=>∃q,e=.returned (.slice q 0 0)∧Below w.heap.size w w':=by
 go_enter Tryz.func92,Tryz.ntmps92
 cases a
 ·go_wp2_with (simp only[mU (Tryz.underlying23),Option.isNone_none,Result.andThen_ok])
  go_ret
  exact⟨_,rfl,Below.refl _ _⟩
 ·go_wp2_with (simp only[mU (Tryz.underlying23),Option.isNone_some,Result.andThen_ok])
  go_ret
  exact⟨_,rfl,(Below.refl _ _).alloc (Nat.le_refl _) _⟩
theorem afG (a:Option Addr) (cap:Nat) (w:World):Calls Tryz.prog 95 #[.slice a 0 cap] w fun e w'=>∃q,e=.returned (.slice q 0 0)∧Below w.heap.size w w':=by
 go_enter Tryz.func95,Tryz.ntmps95
 cases a
 ·go_wp2_with (simp only[mU (Tryz.underlying40),Option.isNone_none,Result.andThen_ok])
  go_ret
  exact⟨_,rfl,Below.refl _ _⟩
 ·go_wp2_with (simp only[mU (Tryz.underlying40),Option.isNone_some,Result.andThen_ok])
  go_ret
  exact⟨_,rfl,(Below.refl _ _).alloc (Nat.le_refl _) _⟩
theorem agZ (a:Option Addr) (cap:Nat) (w:World):Calls Tryz.prog 49 #[.slice a 0 cap] w fun e w'=>∃q,e=.returned (.slice q 0 0)∧Below w.heap.size w w':=by
 go_enter Tryz.func49,Tryz.ntmps49
 cases a
 ·go_wp2_with (simp only[mU (Tryz.underlying31),Option.isNone_none,Result.andThen_ok])
  go_ret
  exact⟨_,rfl,Below.refl _ _⟩
 ·go_wp2_with (simp only[mU (Tryz.underlying31),Option.isNone_some,Result.andThen_ok])
  go_ret
  exact⟨_,rfl,(Below.refl _ _).alloc (Nat.le_refl _) _⟩
theorem aia (a:Option Addr) (cap:Nat) (w:World):Calls Tryz.prog 104 #[.slice a 0 cap] w fun e w'=>∃q,e=.returned (.slice q 0 0)∧Below w.heap.size w w':=by
 go_enter Tryz.func104,Tryz.ntmps104
 cases a
 ·go_wp2_with (simp only[mU (Tryz.underlying90),Option.isNone_none,Result.andThen_ok])
  go_ret
  exact⟨_,rfl,Below.refl _ _⟩
 ·go_wp2_with (simp only[mU (Tryz.underlying90),Option.isNone_some,Result.andThen_ok])
  go_ret
  exact⟨_,rfl,(Below.refl _ _).alloc (Nat.le_refl _) _⟩
end
section
open Go.RowKit
theorem amv {c:RC} {a b d:AV} {vs:Array Value} (h:aI c [a,b,d] vs.toList):∃v u t,vs=#[v,u,t]∧ak c a v∧ak c b u∧ak c d t:=by
 simp only[aI]at h
 obtain⟨v,vs',e,h1,u,vs2,e2,h2,t,vs3,e3,h3,e4⟩:=h
 refine⟨v,u,t,?_,h1,h2,h3⟩
 subst e4;subst e3;subst e2
 cases vs;simp at e;simp [e]
theorem aez:Sound Tryz.prog aF 282 G3:=by
 intro args σ r σ' h
 unfold G3 A.cR at h
 split at h
 ·simp only at h
  split at h
  ·rename_i x y
   split at h
   ·rename_i hb
    simp only[Option.some.injEq,Prod.mk.injEq]at h
    obtain⟨rfl,rfl⟩:=h
    refine mX.same Tryz.call282 fun c vs w hr=>?_
    obtain⟨v,u,rfl,h1,h2⟩:=Rx hr
    simp only[ak]at h1 h2
    subst h1 h2
    have hx:((x.toNat:Nat):Int)=x:=Int.toNat_of_nonneg hb.1
    have hy:((y.toNat:Nat):Int)=y:=Int.toNat_of_nonneg hb.2.2.1
    have:=Tryz.bits_Mul64 x.toNat y.toNat (by omega) (by omega) w
    rw[hx,hy]at this
    refine this.mono ?_
    rintro e w' ⟨rfl,rfl⟩
    exact⟨_,rfl,Below.refl _ _,fun c'=>by simp [ak,aI]⟩
   ·cases h
  ·cases h
 ·cases h
theorem agM (x y c:Nat) (hc:c≤1) (w:World):(callFunc 283 #[.int .u64 x,.int .u64 y,.int .u64 c]).run Tryz.prog w=
  .ok (.value (.tuple #[.int .u64 (((x+y+c) % 18446744073709551616:Nat):Int),.int .u64 (((x+y+c) / 18446744073709551616:Nat):Int)])) w:=by
 rw[run_callFunc_extern Tryz.func283 (by kernel_rfl) (by kernel_rfl) (by kernel_rfl) (e:=add64Entry) (by kernel_rfl),run_add64 x y c (by omega) (by omega) (by omega) (by omega)]
 simp only[Result.andThen]
 congr 5<;>omega
theorem aey:Sound Tryz.prog aF 283 EZ:=by
 intro args σ r σ' h
 unfold EZ A.lG at h
 split at h
 ·simp only at h
  split at h
  ·rename_i x y d
   split at h
   ·rename_i hb
    simp only[Option.some.injEq,Prod.mk.injEq]at h
    obtain⟨rfl,rfl⟩:=h
    refine .inr fun z vs e1 e2 hh ha=>?_
    obtain⟨v,u,t,rfl,h1,h2,h3⟩:=amv ha
    simp only[ak]at h1 h2 h3
    subst h1 h2 h3
    have hx:((x.toNat:Nat):Int)=x:=Int.toNat_of_nonneg hb.1
    have hy:((y.toNat:Nat):Int)=y:=Int.toNat_of_nonneg hb.2.2.1
    have hd:((d.toNat:Nat):Int)=d:=Int.toNat_of_nonneg hb.2.2.2.2.1
    have:=agM x.toNat y.toNat d.toNat (by omega) z.w
    rw[hx,hy,hd]at this
    exact⟨_,z.w,z.E,this,⟨rfl,rfl,rfl,Nat.le_refl _,fun _ _ _=>rfl,fun i p hp=>.inr ⟨p,hp,rfl⟩,fun i p hp=>⟨p,hp,.inl rfl⟩,e2,fun p hp=>hh.lt hp⟩,hh,by simp [ak,aI]⟩
   ·cases h
  ·cases h
 ·cases h
end
section
theorem bq (s t:ByteArray):(s==t)=decide (s=t):=by
 obtain⟨a⟩:=s
 obtain⟨b⟩:=t
 show(a==b)=_
 rw[Bool.eq_iff_iff]
 simp
section
variable {α β : Type}
theorem cT (t e:Option α):A.cond (.bool true) t e=t:=rfl
theorem cF (t e:Option α):A.cond (.bool false) t e=e:=rfl
theorem gTT (e d:Option α):A.guard (.bool true) true e d=e:=rfl
theorem gTF (e d:Option α):A.guard (.bool true) false e d=d:=rfl
theorem gFT (e d:Option α):A.guard (.bool false) true e d=d:=rfl
theorem gFF (e d:Option α):A.guard (.bool false) false e d=e:=rfl
theorem pT (x y:AV):A.pick (.bool true) x y=some x:=rfl
theorem pF (x y:AV):A.pick (.bool false) x y=some y:=rfl
theorem AW {p:Prop} [Decidable p] {w:Bool} {e d:Option α} {f:α→Option β}:(A.guard (.bool (decide p)) w e d).bind f=if p then(A.guard (.bool true) w e d).bind f else(A.guard (.bool false) w e d).bind f:=by by_cases h:p<;>simp [h]
theorem AU {b w:Bool} {e d:Option α} {f:α→Option β}:(A.guard (.bool b) w e d).bind f=match b with|true=>(A.guard (.bool true) w e d).bind f|false=>(A.guard (.bool false) w e d).bind f:=by cases b<;>rfl
theorem AQ {p:Prop} [Decidable p] {t e:Option α}:A.cond (.bool (decide p)) t e=if p then t else e:=by by_cases h:p<;>simp [h,A.cond]
theorem Am {p:Prop} [Decidable p] {t e:Option α}:A.cond (.bool (!decide p)) t e=if p then e else t:=by by_cases h:p<;>simp [h,A.cond]
theorem AP {b:Bool} {t e:Option α}:A.cond (.bool (!b)) t e=match b with|true=>e|false=>t:=by cases b<;>rfl
theorem AO {b:Bool} {t e:Option α}:A.cond (.bool b) t e=match b with|true=>t|false=>e:=by cases b<;>rfl
theorem gN (w:Bool) (e d:Option α):A.guard (.aH []) w e d=d:=rfl
theorem xN (a b:AX):(a==b)=decide (a=b):=by rw[Bool.eq_iff_iff];simp
end
section
variable (k : IntKind) (a b : Int) (p q : Prop) [Decidable p] [Decidable q] (s t : ByteArray) (x y : AV) (σ : Heap) (cs : List AV)
theorem kN:A.add (.int .i64 a) (.int .i64 b)=some (.int .i64 (IntKind.i64.wrap (a+b))):=rfl
theorem pE:A.sub (.int .i64 a) (.int .i64 b)=some (.int .i64 (IntKind.i64.wrap (a-b))):=rfl
theorem wG:A.mul (.int .i64 a) (.int .i64 b)=some (.int .i64 (IntKind.i64.wrap (a*b))):=rfl
theorem aaN (h:b≠0):A.quo (.int .i64 a) (.int .i64 b)=some (.int .i64 (IntKind.i64.wrap (a.tdiv b))):=by simp [A.quo,h]
theorem amE (h:b≠0):A.rem (.int .i64 a) (.int .i64 b)=some (.int .i64 (a.tmod b)):=by simp [A.rem,h]
theorem kO:A.lss (.int .i64 a) (.int .i64 b)=some (.bool (decide (a<b))):=rfl
theorem Ia:A.leq (.int .i64 a) (.int .i64 b)=some (.bool (decide (a≤b))):=rfl
theorem FY:A.gtr (.int .i64 a) (.int .i64 b)=some (.bool (decide (b<a))):=rfl
theorem rR:A.geq (.int .i64 a) (.int .i64 b)=some (.bool (decide (b≤a))):=rfl
theorem aag:A.lss (.int .u8 a) (.int .u8 b)=some (.bool (decide (a<b))):=rfl
theorem aaf:A.leq (.int .u8 a) (.int .u8 b)=some (.bool (decide (a≤b))):=rfl
theorem aad:A.gtr (.int .u8 a) (.int .u8 b)=some (.bool (decide (b<a))):=rfl
theorem aac:A.geq (.int .u8 a) (.int .u8 b)=some (.bool (decide (b≤a))):=rfl
theorem iH:A.eql .i (.int k a) (.int k b)=some (.bool (decide (a=b))):=by
 simp only[A.eql,A.dZ,A.mI,if_true,Option.map_some];congr 2
theorem gC:A.neq .i (.int k a) (.int k b)=some (.bool (decide (¬a=b))):=by
 simp only[A.neq,A.dZ,A.mI,if_true,Option.map_some]
 congr 2
 rw[Bool.eq_iff_iff];simp
theorem aaK:A.eql .z (.str s) (.str t)=some (.bool (decide (s=t))):=by
 simp only[A.eql,A.dZ,A.oH,Option.map_some,bq]
theorem RJ:A.neq .z (.str s) (.str t)=some (.bool (decide (¬s=t))):=by
 simp only[A.neq,A.dZ,A.oH,Option.map_some,bq];simp
theorem aaM (b:Bool):A.not (.bool b)=some (.bool (!b)):=rfl
theorem aah:A.not (.bool (decide p))=some (.bool (decide (¬p))):=by simp [A.not]
theorem aLb:A.lb (.lbx cs)=some cs:=rfl
theorem Z8 (l:List AV):A.ext 0 (.aH (x::l))=some x:=rfl
theorem Z9 (x0 x:AV) (l:List AV):A.ext 1 (.aH (x0::x::l))=some x:=rfl
theorem aaa (x0 x1 x:AV) (l:List AV):A.ext 2 (.aH (x0::x1::x::l))=some x:=rfl
theorem aab (x0 x1 x2 x:AV) (l:List AV):A.ext 3 (.aH (x0::x1::x2::x::l))=some x:=rfl
theorem aDe:A.deref (.rp cs) σ=some cs:=rfl
theorem aFa (o:Nat):A.aA o (.rp cs)=some (.rp (cs.drop o)):=rfl
theorem aae:A.Co (.str s)=some (.int .i64 s.size):=rfl
theorem aCI (n:Int):A.cell (.int k n)=some (.int k n):=rfl
theorem aCB (b:Bool):A.cell (.bool b)=some (.bool b):=rfl
theorem aCS:A.cell (.str s)=some (.str s):=rfl
theorem aaJ (sz:Nat) (es:List (List AV)):A.cell (.sl sz es)=some (.sl sz es):=rfl
theorem TU (o k:Nat):A.aj o (cs.drop k)=A.aj (k+o) cs:=by simp [A.aj,List.getElem?_drop]
end
theorem gd0 (a d:AV) (l:List AV):(a::l).getD 0 d=a:=rfl
theorem gd1 (a b d:AV) (l:List AV):(b::a::l).getD 1 d=a:=rfl
theorem gd2 (a b c d:AV) (l:List AV):(b::c::a::l).getD 2 d=a:=rfl
theorem gd3 (a b c e d:AV) (l:List AV):(b::c::e::a::l).getD 3 d=a:=rfl
theorem gd4 (a b c e f d:AV) (l:List AV):(b::c::e::f::a::l).getD 4 d=a:=rfl
theorem gd5 (a b c e f g d:AV) (l:List AV):(b::c::e::f::g::a::l).getD 5 d=a:=rfl
theorem gd6 (a b c e f g h d:AV) (l:List AV):(b::c::e::f::g::h::a::l).getD 6 d=a:=rfl
theorem gd7 (a b c e f g h i d:AV) (l:List AV):(b::c::e::f::g::h::i::a::l).getD 7 d=a:=rfl
theorem gd8 (a b c e f g h i j d:AV) (l:List AV):(b::c::e::f::g::h::i::j::a::l).getD 8 d=a:=rfl
theorem wrap64 {n:Int} (h:aN n):IntKind.i64.wrap n=n:=IntWalk.i64_in n h
theorem wrap_eq {ro:Bool} {eX:List Sh} {fI:Sh} {r:List AV→Heap→Option (AV×Heap)} {args:List AV} {σ σ':Heap} {v v':AV} (h:args.any A.own=false) (e:r (A.bW eX args) σ=some (v,σ')) (hv:A.nn fI v=v'):A.wrap ro eX fI r args σ=some (v',σ'):=by
 unfold A.wrap
 rw[h,Bool.and_false,cond_false,e]
 simp [hv]
theorem Ph {v:AV} (n:Nat) (h:A.tP v=true):A.fresh v=true∧A.shift n v=v:=by
 cases v<;>first|exact⟨h,rfl⟩|cases h
theorem Wg {v:AV} (n:Nat) (h:A.DQ v=true):A.zF v=true∧A.yE n v=v:=by
 have key:(∀vs,v≠.aH vs)→A.zF v=true∧A.yE n v=v:=by
  intro k
  have:=Ph (v:=v) n
  cases v<;>first|exact absurd rfl (k _)|exact this h
 by_cases ht:∃vs,v=.aH vs
 ·obtain⟨vs,rfl⟩:=ht
  simp only[A.DQ,List.all_eq_true]at h
  refine⟨by simp only[A.zF,List.all_eq_true];exact fun x hx=>(Ph n (h x hx)).1,?_⟩
  simp only[A.yE]
  congr 1
  calc vs.map (A.shift n)=vs.map id:=List.map_congr_left fun x hx=>(Ph n (h x hx)).2
   _=vs:=List.map_id vs
 ·exact key fun vs e=>ht ⟨vs,e⟩
theorem Yp {eX:List Sh} {fI:Sh} {r:List AV→Heap→Option (AV×Heap)} {args args':List AV} {σ:Heap} {v:AV} (h:args.any A.own=true) (hz:A.eO σ 0 8 args=some args') (ho:args'.any A.own=false) (e:A.wrap true eX fI r args' []=some (v,[])) (hs:A.DQ v=true):A.wrap true eX fI r args σ=some (v,σ):=by
 unfold A.wrap at e ⊢
 rw[ho,Bool.and_false,cond_false]at e
 obtain⟨⟨q1,q2⟩,e1,e2⟩:=Option.map_eq_some_iff.1 e
 simp only[Prod.mk.injEq]at e2
 obtain⟨rfl,rfl⟩:=e2
 rw[h,Bool.and_self,cond_true,hz]
 simp [e1,(Wg σ.length hs).1,(Wg σ.length hs).2]
theorem bC (σ:Heap) (r:AV):A.fin σ r σ=some (r,σ):=by simp [A.fin]
theorem WJ (σ:Heap) (n d:Nat) {a:AV} (h:A.vi a=true):A.bw σ n d a=some a:=by
 cases a<;>simp only[A.vi]at h<;>first|(cases h;done)|skip
 case sl sz es=>cases es with
  |nil=>cases d<;>simp [A.bw,A.jh]
  |cons _ _=>simp at h
 all_goals cases d<;>simp [A.bw]
theorem VR (σ:Heap) (n d:Nat):∀{l:List AV},l.all A.vi=true→A.eO σ n d l=some l
 |[],_=>by simp [A.eO]
 |a::l,h=>by
  simp only[List.all_cons,Bool.and_eq_true]at h
  simp [A.eO,WJ σ n d h.1,VR σ n d h.2]
theorem WK (σ:Heap) (n d:Nat) {a:AV} (h:A.tP a=true):A.bw σ n d a=some a:=by
 unfold A.tP at h
 split at h
 ·cases d<;>simp [A.bw,VR σ n _ h]
 ·exact WJ σ n d h
theorem VS (σ:Heap) (n d:Nat):∀{l:List AV},l.all A.tP=true→A.eO σ n d l=some l
 |[],_=>by simp [A.eO]
 |a::l,h=>by
  simp only[List.all_cons,Bool.and_eq_true]at h
  simp [A.eO,WK σ n d h.1,VS σ n d h.2]
theorem aiq (σ:Heap) (n d:Nat) {a:AV} (h:A.DQ a=true):A.bw σ n d a=some a:=by
 unfold A.DQ at h
 split at h
 ·cases d<;>simp [A.bw,VS σ n _ h]
 ·exact WK σ n d h
theorem LC (σ bs:Heap) {r:AV} (h:A.DQ r=true):A.fin σ r (σ++bs)=some (r,σ):=by
 unfold A.fin
 split
 ·rfl
 ·rw[if_pos (by simp),aiq _ _ _ h];rfl
theorem QD (σ bs:Heap) (k:IntKind) (n:Int):A.fin σ (.int k n) (σ++bs)=some (.int k n,σ):=LC σ bs rfl
theorem XJ (σ bs:Heap) (b:Bool):A.fin σ (.bool b) (σ++bs)=some (.bool b,σ):=LC σ bs rfl
theorem YC (σ bs:Heap) (s:ByteArray):A.fin σ (.str s) (σ++bs)=some (.str s,σ):=LC σ bs rfl
theorem XK (σ bs:Heap):A.fin σ (.aH []) (σ++bs)=some (.aH [],σ):=LC σ bs rfl
theorem Nb (σ bs:Heap) (j:Nat):(σ++bs)[σ.length+j]? =bs[j]? :=by rw[List.getElem?_append_right (by omega)];congr 1;omega
theorem F2 (σ bs:Heap):(σ++bs)[σ.length]? =bs[0]? :=by rw[List.getElem?_append_right (Nat.le_refl _),Nat.sub_self]
theorem rV (σ bs:Heap) (j:Nat) (b:aJ):(σ++bs).set (σ.length+j) b=σ++bs.set j b:=by rw[List.set_append_right _ _ (by omega)];congr 2;omega
theorem Rr (σ bs:Heap) (b:aJ):(σ++bs).set σ.length b=σ++bs.set 0 b:=by rw[List.set_append_right _ _ (Nat.le_refl _),Nat.sub_self]
section
variable {α : Type} (sz : Nat) (c : α → List AV) (l : List α)
theorem fE:A.bG (sl sz c l)=some (.int .i64 l.length):=by simp [sl,A.bG]
theorem lM {k:Nat} {x:α} (h:l[k]? =some x):A.aU sz (sl sz c l) (.int .i64 (k:Int))=some (.rp (c x)):=by
 have hk:k<l.length:=(List.getElem?_eq_some_iff.1 h).1
 have hx:l[k]=x:=(List.getElem?_eq_some_iff.1 h).2
 simp [A.aU,sl,A.idx,hk,hx]
theorem ahc {i:Int} {x:α} (h0:0≤i) (h:l[i.toNat]? =some x):A.aU sz (sl sz c l) (.int .i64 i)=some (.rp (c x)):=by
 have:=lM sz c l h
 rwa[Int.toNat_of_nonneg h0]at this
end
inductive Rd (S R : Type) where
 |go (s:S)
 |out (r:R)
def Rd.el {S R γ:Type} (x:Rd S R) (f:S→γ) (g:R→γ):γ:=match x with|.go s=>f s|.out r=>g r
theorem BS {S R γ:Type} (s:S) (f:S→γ) (g:R→γ):(Rd.go s:Rd S R).el f g=f s:=rfl
theorem BH {S R γ:Type} (r:R) (f:S→γ) (g:R→γ):(Rd.out r:Rd S R).el f g=g r:=rfl
theorem FI {S R γ:Type} {p:Prop} [Decidable p] (x y:Rd S R) (f:S→γ) (g:R→γ):(if p then x else y).el f g=if p then x.el f g else y.el f g:=by split<;>rfl
def ku {α S R:Type} (body:List α→α→S→Rd S R):List α→List α→S→Rd S R
 |_,[],s=>.go s
 |pre,x::l,s=>match body pre x s with|.go s'=>ku body (pre++[x]) l s'|.out r=>.out r
theorem ahf {f:List AV→Heap→Option (AX×List AV×Heap)} {v:List AV} {σ:Heap}:∀{n m:Nat} {r r':AX×List AV×Heap},A.iter f n v σ=some r→A.iter f m v σ=some r'→r=r':=by
 intro n
 induction n generalizing v σ with
 |zero=>intro m r r' h;cases h
 |succ n ih=>
  intro m r r' h1 h2
  cases m with
  |zero=>cases h2
  |succ m=>
   simp only[A.iter]at h1 h2
   cases hf:f v σ with
   |none=>rw[hf]at h1;cases h1
   |some q=>
    rw[hf]at h1 h2
    simp only[Option.bind_some]at h1 h2
    obtain⟨e,v',σ'⟩:=q
    cases e with
    |normal=>exact ih h1 h2
    |exit i=>simp only at h1 h2;rw[h1]at h2;injection h2
    |ret=>simp only at h1 h2;rw[h1]at h2;injection h2
theorem CV {f:List AV→Heap→Option (AX×List AV×Heap)} {v:List AV} {σ:Heap} {n:Nat} {r:AX×List AV×Heap} (h:A.iter f n v σ=some r):A.loop f v σ=some r:=by
 have hex:∃n r,A.iter f n v σ=some r:=⟨n,r,h⟩
 unfold A.loop
 rw[dif_pos hex]
 exact congrArg some (ahf (Classical.choose_spec (Classical.choose_spec hex)) h)
theorem C0 {f:List AV→Heap→Option (AX×List AV×Heap)} {v v':List AV} {σ σ':Heap} {r:AX×List AV×Heap} (h:f v σ=some (.normal,v',σ')) (k:∃n,A.iter f n v' σ'=some r):∃n,A.iter f n v σ=some r:=by
 obtain⟨n,k⟩:=k
 exact⟨n+1,by simp [A.iter,h,k]⟩
theorem uO {f:List AV→Heap→Option (AX×List AV×Heap)} {v:List AV} {σ:Heap} {r:AX×List AV×Heap} (h:f v σ=some r) (hr:r.1≠.normal):∃n,A.iter f n v σ=some r:=by
 obtain⟨e,v',σ'⟩:=r
 refine⟨1,?_⟩
 cases e<;>first|(simp [A.iter,h];done)|exact absurd rfl hr
theorem oM {α S R γ:Type} {f:List AV→Heap→Option (AX×List AV×Heap)} (l:List α) (body:List α→α→S→Rd S R) (st:List α→S→List AV) (hp:List α→S→Heap)
  (fin:S→AX×List AV×Heap) (out:List α→S→R→AX×List AV×Heap) (P:List α→S→Prop) (s0:S) {k:AX×List AV×Heap→Option γ} (K1:S→Option γ) (K2:R→Option γ)
  (hstep:∀pre x rest s,l=pre++x::rest→P pre s→f (st pre s) (hp pre s)=some ((body pre x s).el (fun s'=>(.normal,st (pre++[x]) s',hp (pre++[x]) s')) (fun r=>out pre s r)))
  (hend:∀s,P l s→f (st l s) (hp l s)=some (fin s)) (h0:P [] s0)
  (hP:∀pre x rest s s',l=pre++x::rest→P pre s→body pre x s=.go s'→P (pre++[x]) s')
  (hk1:∀s,P l s→k (fin s)=K1 s) (hk2:∀pre x rest s r,l=pre++x::rest→P pre s→body pre x s=.out r→k (out pre s r)=K2 r)
  (Aq:∀s,(fin s).1≠.normal:=by intros;simp) (hout:∀pre s r,(out pre s r).1≠.normal:=by intros;simp) {v:List AV} {σ:Heap} (hv:v=st [] s0:=by rfl) (fS:σ=hp [] s0:=by rfl):
  (A.loop f v σ).bind k=(ku body [] l s0).el K1 K2:=by
 have key:∀(rest pre:List α) (s:S),l=pre++rest→P pre s→∃q,(∃n,A.iter f n (st pre s) (hp pre s)=some q)∧k q=(ku body pre rest s).el K1 K2:=by
  intro rest
  induction rest with
  |nil=>
   intro pre s hl hp'
   rw[List.append_nil]at hl
   subst hl
   exact⟨fin s,uO (hend s hp') (Aq s),by rw[ku,BS,hk1 s hp']⟩
  |cons x rest ih=>
   intro pre s hl hp'
   have h:=hstep pre x rest s hl hp'
   rw[ku]
   cases hb:body pre x s with
   |go s'=>
    rw[hb]at h
    obtain⟨q,h1,h2⟩:=ih (pre++[x]) s' (by simpa using hl) (hP pre x rest s s' hl hp' hb)
    exact⟨q,C0 h h1,h2⟩
   |out r=>
    rw[hb]at h
    exact⟨out pre s r,uO h (hout pre s r),by rw[BH,hk2 pre x rest s r hl hp' hb]⟩
 obtain⟨q,⟨n,h1⟩,h2⟩:=key l [] s0 rfl h0
 rw[hv,fS,CV h1,Option.bind_some,h2]
theorem KY {α:Type} {body:List α→α→Unit→Rd Unit Int} {uv:List α→List α→Int} (h0:∀pre,uv pre []=0) (h:∀pre x rest,uv pre (x::rest)=(body pre x ()).el (fun _=>uv (pre++[x]) rest) (fun r=>r)) {γ:Type} (K:Int→γ):
  ∀(l pre:List α),(ku body pre l ()).el (fun _=>K 0) K=K (uv pre l)
 |[],pre=>by rw[ku,h0];rfl
 |x::l,pre=>by
  rw[ku,h]
  cases body pre x ()with
  |go s=>exact KY h0 h K l (pre++[x])
  |out r=>rfl
theorem oP {α:Type} {l pre rest:List α} {x:α} (h:l=pre++x::rest):l[pre.length]? =some x:=by rw[h];simp
theorem rO {α:Type} {l pre rest:List α} {x:α} (h:l=pre++x::rest):pre.length<l.length:=by rw[h];simp
theorem X4 {α:Type} {l pre rest:List α} {x:α} (h:l=pre++x::rest) (h0:0<pre.length):∃y,pre.getLast? =some y∧l[pre.length-1]? =some y:=by
 cases hp:pre.getLast? with
 |none=>rw[List.getLast?_eq_none_iff]at hp;subst hp;simp at h0
 |some y=>
  refine⟨y,rfl,?_⟩
  rw[h,List.getElem?_append_left (by omega),←hp,List.getLast?_eq_getElem?]
theorem Xq {γ:Type} {p:UInt8→Bool} {f:List AV→Heap→Option (AX×List AV×Heap)} (s:ByteArray) {σ:Heap} {k:AX×List AV×Heap→Option γ} (K2:Option γ)
  (hstep:∀(i:Nat) (c:UInt8),i<s.size→A.th (.str s) (.int .i64 (i:Int))=some (.int .u8 c.toNat)→f [.bool false,.int .i64 (i:Int)] σ=if p c=true then some (.normal,[.bool false,.int .i64 ((i:Int)+1)],σ)else some (.ret,[.bool false,.int .i64 (i:Int)],σ))
  (hend:f [.bool false,.int .i64 (s.size:Int)] σ=some (.exit 0,[.bool false,.int .i64 (s.size:Int)],σ)) (hk2:∀i:Int,k (.ret,[.bool false,.int .i64 i],σ)=K2):
  (A.loop f [.bool false,.int .i64 0] σ).bind k=if s.data.toList.all p=true then k (.exit 0,[.bool false,.int .i64 (s.size:Int)],σ)else K2:=by
 have hsz:s.data.toList.length=s.size:=rfl
 refine(oM (S:=Unit) (R:=Unit) s.data.toList (fun _ c _=>if p c=true then .go ()else .out ()) (fun pre _=>[.bool false,.int .i64 (pre.length:Int)]) (fun _ _=>σ) (fun _=>(.exit 0,[.bool false,.int .i64 (s.size:Int)],σ)) (fun pre _ _=>(.ret,[.bool false,.int .i64 (pre.length:Int)],σ)) (fun _ _=>True) ()
  (fun _=>k (.exit 0,[.bool false,.int .i64 (s.size:Int)],σ)) (fun _=>K2) ?_ ?_ trivial (fun _ _ _ _ _ _ _ _=>trivial) (fun _ _=>rfl) (fun _ _ _ _ _ _ _ _=>hk2 _)).trans ?_
 ·intro pre c rest u hl _
  have hlt:=rO hl
  have hc:=oP hl
  rw[hsz]at hlt
  have hsi:A.th (.str s) (.int .i64 (pre.length:Int))=some (.int .u8 c.toNat):=by
   have h2:s[pre.length]=c:=(List.getElem?_eq_some_iff.1 hc).2
   simp [A.th,A.idx,hlt,h2]
  rw[hstep pre.length c hlt hsi]
  cases p c<;>simp [Rd.el]
 ·intro u _;rw[hsz];exact hend
 ·have key:∀(l pre:List UInt8),(ku (fun(_:List UInt8) c (_:Unit)=>if p c=true then(Rd.go ():Rd Unit Unit)else .out ()) pre l ()).el (fun _=>k (.exit 0,[.bool false,.int .i64 (s.size:Int)],σ)) (fun _=>K2)=if l.all p=true then k (.exit 0,[.bool false,.int .i64 (s.size:Int)],σ)else K2:=by
   intro l
   induction l with
   |nil=>intro pre;simp [ku,Rd.el]
   |cons c l ih=>
    intro pre
    rw[ku]
    cases hc:p c
    ·simp [hc,Rd.el]
    ·simp only[if_true]
     rw[ih]
     simp [hc]
  exact key s.data.toList []
section
variable {α : Type} (g : α → ByteArray) (gi : α → Int) (v : α → AV)
theorem Zt (k:ByteArray):∀(l:List α),A.find .z (.str k) (l.map fun x=>(AV.str (g x),v x))=some ((l.find? fun x=>decide (k=g x)).map v)
 |[]=>rfl
 |x::l=>by
  simp only[List.map_cons,A.find,A.dZ,A.oH,Option.bind_some,List.find?]
  by_cases h:k=g x
  ·rw[bq];simp [h]
  ·rw[bq];simp [h,Zt k l]
theorem Zs (kk:IntKind) (k:Int):∀(l:List α),A.find .i (.int kk k) (l.map fun x=>(AV.int kk (gi x),v x))=some ((l.find? fun x=>decide (k=gi x)).map v)
 |[]=>rfl
 |x::l=>by
  simp only[List.map_cons,A.find,A.dZ,A.mI,if_true,Option.bind_some,List.find?]
  by_cases h:k=gi x
  ·have:(k==gi x)=true:=by simpa using h
   simp [this,h]
  ·have:(k==gi x)=false:=by simpa using h
   simp [this,h,Zs kk k l]
theorem RB {k:ByteArray} {w:AV}:∀{l:List α},(∀x∈l,g x≠k)→A.upd .z (.str k) w (l.map fun x=>(AV.str (g x),v x))=some ((l.map fun x=>(AV.str (g x),v x))++[(.str k,w)])
 |[],_=>rfl
 |x::l,h=>by
  have h1:(k==g x)=false:=by rw[bq];exact decide_eq_false fun e:k=g x=>h x (by simp) e.symm
  simp only[List.map_cons,A.upd,A.dZ,A.oH,Option.bind_some,h1,cond_false]
  rw[RB (fun y hy=>h y (by simp [hy]))]
  rfl
theorem RA {kk:IntKind} {k:Int} {w:AV}:∀{l:List α},(∀x∈l,gi x≠k)→A.upd .i (.int kk k) w (l.map fun x=>(AV.int kk (gi x),v x))=some ((l.map fun x=>(AV.int kk (gi x),v x))++[(.int kk k,w)])
 |[],_=>rfl
 |x::l,h=>by
  have h1:(k==gi x)=false:=by simpa using fun e:k=gi x=>h x (by simp) e.symm
  simp only[List.map_cons,A.upd,A.dZ,A.mI,if_true,Option.bind_some,h1,cond_false]
  rw[RA (fun y hy=>h y (by simp [hy]))]
  rfl
end
theorem BA (e:A.EK) {k z:AV} {σ:Heap} {id:Nat} {es:List (AV×AV)} (hk:A.jq e k=true) (h:σ[id]? =some (.map es)):A.look e (.om id) k z σ=(A.find e k es).map fun r=>r.getD z:=by
 simp [A.look,hk,A.entries,h]
theorem zz (e:A.EK) {k w:AV} {σ:Heap} {id:Nat} {es:List (AV×AV)} (hk:A.jq e k=true) (h:σ[id]? =some (.map es)):A.ew e (.om id) k w σ=(A.upd e k w es).map fun es=>σ.set id (.map es):=by
 simp [A.ew,hk,h]
theorem XT {α:Type} (l:List α) (x:α):(((l++[x]).length:Nat):Int)=(l.length:Int)+1:=by simp
theorem KP {α:Type} (sz:Nat) (c:α→List AV) (l:List α) {k:Nat} {x:α} (h0:0<k) (h:l[k-1]? =some x):A.aU sz (sl sz c l) (.int .i64 ((k:Int) -1))=some (.rp (c x)):=by
 have:=lM sz c l h
 rwa[show((k-1:Nat):Int)=(k:Int) -1 by omega]at this
def l6 {α:Type} (g:α→ByteArray) (l:List α):List (AV×AV):=l.map fun x=>(AV.str (g x),AV.bool true)
def qN {α:Type} (g:α→Int) (l:List α):List (AV×AV):=l.map fun x=>(AV.int .i64 (g x),AV.bool true)
theorem Qa {α:Type} (p:α→Bool):∀(l:List α),((l.find? p).map fun _=>AV.bool true).getD aM=AV.bool (l.any p)
 |[]=>rfl
 |x::l=>by
  simp only[List.find?,List.any_cons]
  cases h:p x
  ·simpa using Qa p l
  ·rfl
theorem Xf {α:Type} (g:α→ByteArray) (k:ByteArray) (l:List α):(A.find .z (.str k) (l6 g l)).map (fun r=>r.getD (.bool false))=some (.bool (jr k (l.map g))):=by
 unfold l6
 rw[Zt g (fun _=>AV.bool true) k l,Option.map_some,Qa]
 refine congrArg some (congrArg AV.bool ?_)
 rw[Bool.eq_iff_iff,Qi]
 simp only[List.any_eq_true,decide_eq_true_eq,List.mem_map]
 exact⟨fun⟨x,h,e⟩=>⟨x,h,e.symm⟩,fun⟨x,h,e⟩=>⟨x,h,e.symm⟩⟩
theorem Xb {α:Type} (g:α→Int) (k:Int) (l:List α):(A.find .i (.int .i64 k) (qN g l)).map (fun r=>r.getD (.bool false))=some (.bool (jr k (l.map g))):=by
 unfold qN
 rw[Zs g (fun _=>AV.bool true) .i64 k l,Option.map_some,Qa]
 refine congrArg some (congrArg AV.bool ?_)
 rw[Bool.eq_iff_iff,Qi]
 simp only[List.any_eq_true,decide_eq_true_eq,List.mem_map]
 exact⟨fun⟨x,h,e⟩=>⟨x,h,e.symm⟩,fun⟨x,h,e⟩=>⟨x,h,e.symm⟩⟩
section
variable {α : Type} (g : α → ByteArray) (gi : α → Int) (l : List α) (k : ByteArray) (n : Int) (σ bs : Heap) (b0 : aJ)
theorem Wj:A.look .z (.om σ.length) (.str k) (.bool false) (σ++aJ.map (l6 g l)::bs)=some (.bool (jr k (l.map g))):=by
 rw[BA .z rfl (by rw[F2];rfl),Xf]
theorem Wh:A.look .i (.om σ.length) (.int .i64 n) (.bool false) (σ++aJ.map (qN gi l)::bs)=some (.bool (jr n (l.map gi))):=by
 rw[BA .i rfl (by rw[F2];rfl),Xb]
theorem Wk:A.look .z (.om (σ.length+1)) (.str k) (.bool false) (σ++b0::aJ.map (l6 g l)::bs)=some (.bool (jr k (l.map g))):=by
 rw[BA .z rfl (by rw[Nb];rfl),Xf]
theorem Wi:A.look .i (.om (σ.length+1)) (.int .i64 n) (.bool false) (σ++b0::aJ.map (qN gi l)::bs)=some (.bool (jr n (l.map gi))):=by
 rw[BA .i rfl (by rw[Nb];rfl),Xb]
theorem Xh (h:jr k (l.map g)=false):A.ew .z (.om σ.length) (.str k) (.bool true) (σ++aJ.map (l6 g l)::bs)=some (σ++aJ.map (l6 g l++[(.str k,.bool true)])::bs):=by
 rw[zz .z rfl (by rw[F2];rfl),l6,RB g _ (fun x hx e=>KR.1 h (by rw[←e];exact List.mem_map_of_mem hx)),Option.map_some,Rr];rfl
theorem Xd (h:jr n (l.map gi)=false):A.ew .i (.om σ.length) (.int .i64 n) (.bool true) (σ++aJ.map (qN gi l)::bs)=some (σ++aJ.map (qN gi l++[(.int .i64 n,.bool true)])::bs):=by
 rw[zz .i rfl (by rw[F2];rfl),qN,RA gi _ (fun x hx e=>KR.1 h (by rw[←e];exact List.mem_map_of_mem hx)),Option.map_some,Rr];rfl
theorem Xi (h:jr k (l.map g)=false):A.ew .z (.om (σ.length+1)) (.str k) (.bool true) (σ++b0::aJ.map (l6 g l)::bs)=some (σ++b0::aJ.map (l6 g l++[(.str k,.bool true)])::bs):=by
 rw[zz .z rfl (by rw[Nb];rfl),l6,RB g _ (fun x hx e=>KR.1 h (by rw[←e];exact List.mem_map_of_mem hx)),Option.map_some,rV];rfl
theorem Xe (h:jr n (l.map gi)=false):A.ew .i (.om (σ.length+1)) (.int .i64 n) (.bool true) (σ++b0::aJ.map (qN gi l)::bs)=some (σ++b0::aJ.map (qN gi l++[(.int .i64 n,.bool true)])::bs):=by
 rw[zz .i rfl (by rw[Nb];rfl),qN,RA gi _ (fun x hx e=>KR.1 h (by rw[←e];exact List.mem_map_of_mem hx)),Option.map_some,rV];rfl
end
theorem Xg {α:Type} (g:α→ByteArray) (l:List α) (x:α):l6 g (l++[x])=l6 g l++[(.str (g x),.bool true)]:=by simp [l6]
theorem PA (σ:Heap) (v:AV):A.quiet (some (v,σ)) σ=some v:=by simp [A.quiet]
def Fz (a:AV):Prop:=∀σ n d,A.bw σ n d a=some a
def iX (l:List AV):Prop:=∀σ n d,A.eO σ n d l=some l
theorem dM (k:IntKind) (n:Int):Fz (.int k n):=fun _ _ d=>by cases d<;>simp [A.bw]
theorem By (b:Bool):Fz (.bool b):=fun _ _ d=>by cases d<;>simp [A.bw]
theorem yA (s:ByteArray):Fz (.str s):=fun _ _ d=>by cases d<;>simp [A.bw]
theorem wq {l:List AV} (h:iX l):Fz (.agg l):=fun σ n d=>by cases d<;>simp [A.bw,h σ n]
theorem oO:iX []:=fun _ _ _=>by simp [A.eO]
theorem bR {a:AV} {l:List AV} (h:Fz a) (k:iX l):iX (a::l):=fun σ n d=>by simp [A.eO,h σ n d,k σ n d]
theorem oZ {α:Type} {sz:Nat} {c:α→List AV} (h:∀x,iX (c x)) (l:List α):Fz (sl sz c l):=by
 intro σ n d
 have:A.jh σ n d (l.map c)=some (l.map c):=by
  induction l with
  |nil=>simp [A.jh]
  |cons x l ih=>simp [A.jh,h x σ n d,ih]
 cases d<;>simp [sl,A.bw,this]
theorem R5 {α:Type} {c:α→List AV} (h:∀x,iX (c x)) (l:List α) (σ:Heap) (n d:Nat):A.jh σ n d (l.map c)=some (l.map c):=by
 induction l with
 |nil=>simp [A.jh]
 |cons x l ih=>simp [A.jh,h x σ n d,ih]
def vr {α:Type} (id sz:Nat) (l:List α):AV:=if l=[]then .au else .os id l.length sz 0 l.length
def rY {α:Type} (sz:Nat) (c:α→List AV) (l:List α):Heap:=if l=[]then[]else[.arr l.length sz (l.map c)]
theorem aiK {α:Type} (sz:Nat) (c:α→List AV):rY sz c []=[]:=rfl
theorem afY {α:Type} {sz most:Nat} (c:α→List AV) (l:List α) (x:α) (σ:Heap) (h:l.length+1≤most):A.append sz most (vr σ.length sz l) (.sl sz [c x]) (σ++rY sz c l)=some (vr σ.length sz (l++[x]),σ++rY sz c (l++[x])):=by
 unfold vr rY
 cases l with
 |nil=>
  have h1:1≤most:=by simpa using h
  simp [A.append,A.sM,A.elems,h1]
 |cons y l=>
  have h1:l.length+1+1≤most:=by simpa using h
  simp [A.append,A.sM,A.elems,h1,F2,Rr,Nat.add_assoc,List.take_of_length_le]
theorem akl {α:Type} {sz:Nat} {c:α→List AV} (hc:∀x,iX (c x)) (l:List α) (σ:Heap) (d:Nat):A.bw (σ++rY sz c l) σ.length (d+1) (vr σ.length sz l)=some (if l=[]then .au else sl sz c l):=by
 unfold vr rY
 split
 ·simp [A.bw]
 ·rename_i hl
  simp only[A.bw,Nat.lt_irrefl,if_false,F2,List.getElem?_cons_zero]
  rw[if_pos (by simp)]
  have e:(List.take l.length (List.drop 0 (l.map c)))=l.map c:=by simp [List.take_of_length_le]
  rw[e,Fj,R5 hc]
  rfl
theorem aij {α:Type} {sz:Nat} {c:α→List AV} (hc:∀x,iX (c x)) (l:List α) (k:IntKind) (n:Int) (σ:Heap):A.fin σ (.aH [vr σ.length sz l,.int k n]) (σ++rY sz c l)=some (.aH [if l=[]then .au else sl sz c l,.int k n],σ):=by
 unfold A.fin
 split
 ·rename_i h
  have:rY sz c l=[]:=by simpa using h
  have hl:l=[]:=by
   unfold rY at this
   split at this
   ·assumption
   ·cases this
  subst hl;rfl
 ·rw[if_pos (by simp)]
  have:A.bw (σ++rY sz c l) σ.length 8 (.aH [vr σ.length sz l,.int k n])=some (.aH [if l=[]then .au else sl sz c l,.int k n]):=by
   simp only[A.bw,A.eO,akl hc,dM k n _ _ _,Option.bind_some,Option.map_some]
  rw[this];rfl
theorem alq {α:Type} (sz:Nat) (c:α→List AV) (l:List α):A.nn (.s sz) (if l=[]then .au else sl sz c l)=sl sz c l:=by
 split
 ·rename_i h;subst h;rfl
 ·rfl
def jZ {α:Type} (p:α→Bool) (l:List α):Int:=match l.findIdx? p with|some i=>i|none=>-1
theorem zk {α:Type} (p:α→Bool) (l:List α):(jZ p l=-1∧(∀x∈l,p x=false)∧l.find? p=none)∨∃(k:Nat) (x:α),l[k]? =some x∧p x=true∧jZ p l=k∧l.find? p=some x∧∀(j:Nat) (y:α),j<k→l[j]? =some y→p y=false:=by
 induction l with
 |nil=>left;exact⟨rfl,by simp,rfl⟩
 |cons x l ih=>
  cases h:p x
  ·rcases ih with⟨h1,h2,h3⟩|⟨k,y,h1,h2,h3,h4,h5⟩
   ·left
    refine⟨?_,?_,?_⟩
    ·unfold jZ at h1 ⊢
     rw[List.findIdx?_cons,h]
     cases hf:l.findIdx? p with
     |none=>simp
     |some i=>rw[hf]at h1;simp at h1
    ·intro y hy
     rcases List.mem_cons.1 hy with rfl|hy
     ·exact h
     ·exact h2 y hy
    ·simp [List.find?,h,h3]
   ·right
    refine⟨k+1,y,by simpa using h1,h2,?_,by simp [List.find?,h,h4],?_⟩
    ·unfold jZ at h3 ⊢
     rw[List.findIdx?_cons,h]
     cases hf:l.findIdx? p with
     |none=>rw[hf]at h3;simp at h3
     |some i=>rw[hf]at h3;simp at h3 ⊢;omega
    ·intro j z hj hz
     cases j with
     |zero=>simp at hz;subst hz;exact h
     |succ j=>exact h5 j z (by omega) (by simpa using hz)
  ·right
   refine⟨0,x,rfl,h,?_,by simp [List.find?,h],by intro j y hj;omega⟩
   unfold jZ
   rw[List.findIdx?_cons,h];rfl
theorem C9 {α:Type} {γ:Type} (p:α→Bool) (K1:Option γ) (K2:Int→Option γ):∀(l pre:List α),(∀x∈pre,p x=false)→(ku (fun pre x (_:Unit)=>if p x=true then(Rd.out (pre.length:Int):Rd Unit Int)else .go ()) pre l ()).el (fun _=>K1) K2=if jZ p (pre++l)=-1 then K1 else K2 (jZ p (pre++l))
 |[],pre,h=>by
  have:jZ p (pre++[])=-1:=by
   rcases zk p (pre++[])with h1|⟨k,x,h1,h2,_⟩
   ·exact h1.1
   ·have:=h x (by have:=List.mem_of_getElem? h1;simpa using this)
    rw[h2]at this;cases this
  rw[ku,BS,if_pos this]
 |x::l,pre,h=>by
  rw[ku]
  cases hx:p x
  ·simp only[Bool.false_eq_true,if_false]
   have:=C9 p K1 K2 l (pre++[x]) (fun y hy=>by
    rcases List.mem_append.1 hy with hy|hy
    ·exact h y hy
    ·simp at hy;subst hy;exact hx)
   simpa using this
  ·simp only[if_true,BH]
   have:jZ p (pre++x::l)=pre.length:=by
    rcases zk p (pre++x::l)with h1|⟨k,y,h1,h2,h3,_,h5⟩
    ·have:=h1.2.1 x (by simp);rw[hx]at this;cases this
    ·rw[h3]
     rcases Nat.lt_trichotomy k pre.length with hk|hk|hk
     ·rw[List.getElem?_append_left hk]at h1
      have:=h y (List.mem_of_getElem? h1);rw[h2]at this;cases this
     ·omega
     ·have:=h5 pre.length x hk (by simp);rw[hx]at this;cases this
   rw[this,if_neg (by omega)]
theorem Yd {α R γ:Type} (p:α→Bool) (r:R) (K1:Unit→γ) (K2:R→γ):∀(l pre:List α),(ku (fun _ x (_:Unit)=>if p x=true then(Rd.out r:Rd Unit R)else .go ()) pre l ()).el K1 K2=if l.any p=true then K2 r else K1 ()
 |[],pre=>by simp [ku,Rd.el]
 |x::l,pre=>by
  rw[ku]
  cases h:p x
  ·simp only[Bool.false_eq_true,if_false]
   rw[Yd p r K1 K2 l (pre++[x])]
   simp [h]
  ·simp [h,Rd.el]
theorem VG {α:Type} (sz:Nat) (c:α→List AV) (l:List α) {k:Nat} (h:k≤l.length) {σ:Heap}:A.zL sz (sl sz c l) none (some (.int .i64 (k:Int))) σ=some (sl sz c (l.take k)):=by
 simp [A.zL,sl,A.bound,h,List.map_take]
theorem Xc (l:List Int) (n:Int):qN id l++[(.int .i64 n,.bool true)]=qN id (l++[n]):=by simp [qN]
theorem ahn {κ:Type} [DecidableEq κ] (k x:κ) (S:List κ):jr k (S++[x])=(jr k S||decide (x=k)):=by simp [jr]
theorem tY {α:Type} {sz:Nat} {c:α→List AV} {sh:List Sh} (h:∀x,A.bW sh (c x)=c x) (l:List α):A.nn (.e sz sh) (sl sz c l)=sl sz c l:=by
 simp only[sl,A.nn,List.map_map]
 congr 1
 exact List.map_congr_left fun x _=>h x
theorem akg (sz:Nat) (sh:List Sh):A.nn (.e sz sh) .au=.sl sz []:=by simp [A.nn]
theorem XX {α γ:Type} {f:List AV→Heap→Option (AX×List AV×Heap)} (l:List α) (p:α→Bool) (vs:Nat→List AV) (σ:Heap) (fin:AX×List AV×Heap) (ret:Nat→AX×List AV×Heap) {k:AX×List AV×Heap→Option γ} (K1 K2:Option γ)
  (hstep:∀(i:Nat) (x:α),l[i]? =some x→f (vs i) σ=if p x=true then some (ret i)else some (.normal,vs (i+1),σ)) (hend:f (vs l.length) σ=some fin) (hk1:k fin=K1) (hk2:∀i,k (ret i)=K2)
  (Aq:fin.1≠.normal:=by simp) (Iz:∀i,(ret i).1≠.normal:=by intros;simp) {v:List AV} {σ':Heap} (hv:v=vs 0:=by rfl) (fS:σ'=σ:=by rfl):
  (A.loop f v σ').bind k=if l.any p=true then K2 else K1:=by
 subst hv fS
 refine(oM (S:=Unit) (R:=Unit) l (fun _ x _=>if p x=true then .out ()else .go ()) (fun pre _=>vs pre.length) (fun _ _=>σ') (fun _=>fin) (fun pre _ _=>ret pre.length) (fun _ _=>True) () (fun _=>K1) (fun _=>K2)
  ?_ (fun _ _=>hend) trivial (fun _ _ _ _ _ _ _ _=>trivial) (fun _ _=>hk1) (fun _ _ _ _ _ _ _ _=>hk2 _) (fun _=>Aq) (fun _ _ _=>Iz _)).trans (Yd p () _ _ l [])
 intro pre x rest u hl _
 rw[hstep pre.length x (oP hl)]
 cases p x<;>simp [Rd.el]
theorem XR {α:Type} (sz:Nat) (c:α→List AV) {l:List α} {k:Nat} {x:α} (h:l[k]? =some x):A.aU sz (sl sz c l) (.int .i64 (k:Int))=some (.rp (c x))∧(k:Int)<(l.length:Int)∧(l.length≤aW→IntKind.i64.wrap ((k:Int)+1)=(k:Int)+1):=
 ⟨lM sz c l h,by have:=(List.getElem?_eq_some_iff.1 h).1;omega,fun hl=>wrap64 (by have:=(List.getElem?_eq_some_iff.1 h).1;unfold aN;unfold aW at hl;omega)⟩
theorem ahi {α γ:Type} {f:List AV→Heap→Option (AX×List AV×Heap)} (l:List α) (p:α→Bool) (vs:Nat→List AV) (σ:Heap) (fin:AX×List AV×Heap) (ret:Nat→α→AX×List AV×Heap) {k:AX×List AV×Heap→Option γ} (K1:Option γ) (K2:α→Option γ)
  (hstep:∀(i:Nat) (x:α),l[i]? =some x→f (vs i) σ=if p x=true then some (ret i x)else some (.normal,vs (i+1),σ)) (hend:f (vs l.length) σ=some fin) (hk1:k fin=K1) (hk2:∀i x,k (ret i x)=K2 x)
  (Aq:fin.1≠.normal:=by simp) (Iz:∀i x,(ret i x).1≠.normal:=by intros;simp) {v:List AV} {σ':Heap} (hv:v=vs 0:=by rfl) (fS:σ'=σ:=by rfl):
  (A.loop f v σ').bind k=(l.find? p).elim K1 K2:=by
 subst hv fS
 have run:∀(l pre:List α),(ku (fun _ x (_:Unit)=>if p x=true then(Rd.out x:Rd Unit α)else .go ()) pre l ()).el (fun _=>K1) K2=(l.find? p).elim K1 K2:=by
  intro l
  induction l with
  |nil=>intro pre;rfl
  |cons x l ih=>
   intro pre
   rw[ku]
   cases h:p x
   ·simp only[Bool.false_eq_true,if_false]
    rw[ih,List.find?_cons,h]
   ·simp [h,Rd.el]
 refine(oM (S:=Unit) (R:=α) l (fun _ x _=>if p x=true then .out x else .go ()) (fun pre _=>vs pre.length) (fun _ _=>σ') (fun _=>fin) (fun pre _ x=>ret pre.length x) (fun _ _=>True) () (fun _=>K1) K2
  ?_ (fun _ _=>hend) trivial (fun _ _ _ _ _ _ _ _=>trivial) (fun _ _=>hk1) (fun _ _ _ _ _ _ _ _=>hk2 _ _) (fun _=>Aq) (fun _ _ _=>Iz _ _)).trans (run l [])
 intro pre x rest u hl _
 rw[hstep pre.length x (oP hl)]
 cases p x<;>simp [Rd.el]
theorem Fm {α:Type} (n:Int) (B:AV→Option α) (s:Option α):((A.lss (.int .i64 n) (.int .i64 n)).bind fun x=>A.cond x (B x) s)=s:=by
 simp only[kO,Int.lt_irrefl,Option.bind_some,decide_false,cF]
section
variable {α β : Type}
theorem agX {c c':AV} (h:c=c') (t e:Option α):A.cond c t e=A.cond c' t e:=by rw[h]
theorem afO {c c':AV} (h:c=c') (w:Bool) (e d:Option α):A.guard c w e d=A.guard c' w e d:=by rw[h]
theorem agO {x y:Option α} (h:x=y) (f:α→Option β):x.bind f=y.bind f:=by rw[h]
attribute [congr] agX afO agO
end
theorem aP:type_of% @Option.bind_some.{0,0}∧type_of% @Option.map_some.{0,0}∧type_of% @cT∧type_of% @cF∧type_of% @gTT∧type_of% @gTF∧type_of% @gFT∧type_of% @gFF∧type_of% @gN∧type_of% @pT∧type_of% @pF∧type_of% @cond_true.{1}∧type_of% @cond_false.{1}∧type_of% @xN∧type_of% @kN∧type_of% @pE∧type_of% @wG∧type_of% @kO∧type_of% @Ia∧type_of% @FY∧type_of% @rR∧type_of% @aag∧type_of% @aaf∧type_of% @aad∧type_of% @aac∧type_of% @iH∧type_of% @gC∧type_of% @aaK∧type_of% @RJ∧type_of% @aaM∧type_of% @aah∧type_of% @aLb∧type_of% @Z8∧type_of% @Z9∧type_of% @aaa∧type_of% @aab∧type_of% @aDe∧type_of% @aFa∧type_of% @aae∧type_of% @aCI∧type_of% @aCB∧type_of% @aCS∧type_of% @aaJ∧type_of% @TU∧type_of% @gd0∧type_of% @gd1∧type_of% @gd2∧type_of% @gd3∧type_of% @gd4∧type_of% @gd5∧type_of% @gd6∧type_of% @gd7∧type_of% @gd8∧type_of% @bC∧type_of% @QD∧type_of% @XJ∧type_of% @YC∧type_of% @XK∧type_of% @fE∧type_of% @ite_true.{1}∧type_of% @ite_false.{1}∧type_of% @if_true.{1}∧type_of% @if_false.{1}∧type_of% @Bool.false_eq_true∧type_of% @not_true_eq_false∧type_of% @not_false_eq_true∧type_of% @decide_true∧type_of% @decide_false∧type_of% @Bool.not_true∧type_of% @Bool.not_false∧type_of% @List.append_assoc.{0}∧type_of% @List.cons_append.{0}∧type_of% @List.nil_append.{0}∧type_of% @List.drop_zero.{0}∧type_of% @YW∧type_of% @YX∧type_of% @XT∧type_of% @Int.natCast_add∧type_of% @Int.cast_ofNat_Int∧type_of% @PA∧type_of% @BS∧type_of% @BH∧type_of% @FI∧type_of% @Wj∧type_of% @Wh∧type_of% @Wk∧type_of% @Wi∧type_of% @Xg∧type_of% @Xh∧type_of% @Xd∧type_of% @Xi∧type_of% @Xe∧type_of% @true_and∧type_of% @and_true∧type_of% @false_and∧type_of% @and_false∧type_of% @true_or∧type_of% @or_true∧type_of% @false_or∧type_of% @or_false∧type_of% @Option.getD_some.{0}∧type_of% @Option.getD_none.{0}∧type_of% @List.length_append.{0}∧type_of% @List.length_cons.{0}∧type_of% @List.length_nil.{0}∧type_of% @Nat.zero_add∧type_of% @Nat.add_zero:=
 ⟨@Option.bind_some.{0,0},@Option.map_some.{0,0},@cT,@cF,@gTT,@gTF,@gFT,@gFF,@gN,@pT,@pF,@cond_true.{1},@cond_false.{1},@xN,@kN,@pE,@wG,@kO,@Ia,@FY,@rR,@aag,@aaf,@aad,@aac,@iH,@gC,@aaK,@RJ,@aaM,@aah,@aLb,@Z8,@Z9,@aaa,@aab,@aDe,@aFa,@aae,@aCI,@aCB,@aCS,@aaJ,@TU,@gd0,@gd1,@gd2,@gd3,@gd4,@gd5,@gd6,@gd7,@gd8,@bC,@QD,@XJ,@YC,@XK,@fE,@ite_true.{1},@ite_false.{1},@if_true.{1},@if_false.{1},@Bool.false_eq_true,@not_true_eq_false,@not_false_eq_true,@decide_true,@decide_false,@Bool.not_true,@Bool.not_false,@List.append_assoc.{0},@List.cons_append.{0},@List.nil_append.{0},@List.drop_zero.{0},@YW,@YX,@XT,@Int.natCast_add,@Int.cast_ofNat_Int,@PA,@BS,@BH,@FI,@Wj,@Wh,@Wk,@Wi,@Xg,@Xh,@Xd,@Xi,@Xe,@true_and,@and_true,@false_and,@and_false,@true_or,@or_true,@false_or,@or_false,@Option.getD_some.{0},@Option.getD_none.{0},@List.length_append.{0},@List.length_cons.{0},@List.length_nil.{0},@Nat.zero_add,@Nat.add_zero⟩
end
theorem PV (x:lD):iX (gV x):=(bR (dM _ _) (bR (dM _ _) oO))
theorem WM (x:ow):iX (mm x):=(bR (dM _ _) (bR (dM _ _) (bR (yA _) oO)))
theorem PU (x:ep):iX (eU x):=(bR (yA _) (bR (dM _ _) (bR (dM _ _) (bR (dM _ _) (bR (dM _ _) (bR (By _) (bR (oZ WM _) oO)))))))
theorem aeS (x:cV):iX (ck x):=(bR (yA _) (bR (dM _ _) (bR (oZ PU _) oO)))
theorem Qf (x:gW):iX (bV x):=(bR (dM _ _) (bR (yA _) (bR (dM _ _) (bR (dM _ _) oO))))
theorem zy (x:aB):iX (aO x):=(bR (dM _ _) (bR (yA _) oO))
theorem KC (x:lK):iX (dX x):=(bR (dM _ _) (bR (yA _) (bR (dM _ _) oO)))
theorem VU (x:jU):iX (dL x):=(bR (dM _ _) (bR (yA _) (bR (oZ KC _) oO)))
theorem XO (x:fF):iX (fH x):=(bR (dM _ _) (bR (yA _) (bR (dM _ _) (bR (dM _ _) (bR (By _) (bR (By _) (bR (dM _ _) (bR (dM _ _) oO))))))))
theorem L5 (x:bg):iX (aZ x):=(bR (dM _ _) (bR (yA _) (bR (dM _ _) (bR (dM _ _) (bR (dM _ _) (bR (dM _ _) (bR (dM _ _) (bR (oZ PV _) (bR (By _) (bR (dM _ _) (bR (oZ XO _) oO)))))))))))
theorem WL (x:bh):iX (cI x):=(bR (dM _ _) (bR (yA _) (bR (dM _ _) (bR (dM _ _) (bR (dM _ _) oO)))))
theorem air (x:iU):iX (dQ x):=(bR (dM _ _) (bR (oZ L5 _) oO))
theorem OK (x:lJ):iX (bO x):=(bR (dM _ _) (bR (dM _ _) (bR (dM _ _) oO)))
theorem VT (x:dR):iX (bE x):=(bR (dM _ _) (bR (dM _ _) (bR (dM _ _) (bR (dM _ _) (bR (dM _ _) oO)))))
instance : Inhabited ByteArray := ⟨⟨#[]⟩⟩
instance : Inhabited lD := ⟨⟨0, 0⟩⟩
instance : Inhabited oQ := ⟨⟨0, []⟩⟩
instance : Inhabited gB := ⟨⟨0, 0, 0, 0, 0, ⟨0, []⟩⟩⟩
instance : Inhabited ajf := ⟨⟨0, 0⟩⟩
instance : Inhabited ow := ⟨⟨0, 0, ⟨#[]⟩⟩⟩
instance : Inhabited ep := ⟨⟨⟨#[]⟩, 0, 0, 0, 0, false, []⟩⟩
instance : Inhabited cV := ⟨⟨⟨#[]⟩, 0, []⟩⟩
instance : Inhabited gW := ⟨⟨0, ⟨#[]⟩, 0, 0⟩⟩
instance : Inhabited gp := ⟨⟨[], []⟩⟩
instance : Inhabited aB := ⟨⟨0, ⟨#[]⟩⟩⟩
theorem qt (a b:aB):A.dZ (.s [0,2]) (.agg (aO a)) (.agg (aO b))=some (decide (a=b)):=by
 obtain⟨x1,x2⟩:=a
 obtain⟨x101,x102⟩:=b
 simp only[A.dZ,aO,A.fV,A.l9,A.mI,A.vF,A.oH,if_true,Option.bind_some,Option.map_some,bq]
 congr 1
 rw[Bool.eq_iff_iff]
 simp [and_assoc]
theorem Zq (a b:aB):A.eql (.s [0,2]) (.agg (aO a)) (.agg (aO b))=some (.bool (decide (a=b))):=by rw[A.eql,qt];rfl
instance : Inhabited lK := ⟨⟨⟨0, ⟨#[]⟩⟩, 0⟩⟩
theorem aeQ (a b:lK):A.dZ (.s [0,2,0]) (.agg (dX a)) (.agg (dX b))=some (decide (a=b)):=by
 obtain⟨⟨x1,x2⟩,x3⟩:=a
 obtain⟨⟨x101,x102⟩,vA⟩:=b
 simp only[A.dZ,dX,A.fV,A.l9,A.mI,A.vF,A.oH,if_true,Option.bind_some,Option.map_some,bq]
 congr 1
 rw[Bool.eq_iff_iff]
 simp [and_assoc]
theorem afU (a b:lK):A.neq (.s [0,2,0]) (.agg (dX a)) (.agg (dX b))=some (.bool (decide (¬(a=b)))):=by rw[A.neq,aeQ,Option.map_some,decide_not]
instance : Inhabited jU := ⟨⟨0, ⟨#[]⟩, []⟩⟩
instance : Inhabited amC := ⟨⟨[], 0, 0⟩⟩
instance : Inhabited lW := ⟨⟨0, 0⟩⟩
theorem ag3 (a b:lW):A.dZ (.s [0,0]) (.agg (uV a)) (.agg (uV b))=some (decide (a=b)):=by
 obtain⟨x1,x2⟩:=a
 obtain⟨x101,x102⟩:=b
 simp only[A.dZ,uV,A.fV,A.l9,A.mI,A.vF,A.oH,if_true,Option.bind_some,Option.map_some,bq]
 congr 1
 rw[Bool.eq_iff_iff]
 simp [and_assoc]
theorem aiI (a b:lW):A.neq (.s [0,0]) (.agg (uV a)) (.agg (uV b))=some (.bool (decide (¬(a=b)))):=by rw[A.neq,ag3,Option.map_some,decide_not]
instance : Inhabited fF := ⟨⟨⟨0, ⟨#[]⟩⟩, ⟨0, 0⟩, false, false, 0, 0⟩⟩
instance : Inhabited bg := ⟨⟨0, ⟨#[]⟩, 0, 0, 0, 0, ⟨0, []⟩, false, 0, []⟩⟩
instance : Inhabited bh := ⟨⟨⟨0, ⟨#[]⟩⟩, ⟨0, 0⟩, 0⟩⟩
instance : Inhabited alS := ⟨⟨0, 0, 0⟩⟩
instance : Inhabited iU := ⟨⟨0, []⟩⟩
instance : Inhabited lJ := ⟨⟨0, 0, 0⟩⟩
instance : Inhabited fU := ⟨⟨⟨[], []⟩, [], [], []⟩⟩
instance : Inhabited dR := ⟨⟨0, 0, 0, 0, 0⟩⟩
instance : Inhabited akT := ⟨⟨0, ⟨0, 0, 0, 0, 0⟩⟩⟩
instance : Inhabited akW := ⟨⟨0, 0, 0, 0⟩⟩
instance : Inhabited aaI := ⟨⟨⟨0, ⟨#[]⟩⟩, ⟨0, 0, 0, 0, 0, ⟨0, []⟩⟩, 0, false⟩⟩
instance : Inhabited agJ := ⟨⟨0, 0, 0, false, 0, []⟩⟩
instance : Inhabited Vk := ⟨⟨0, 0, 0⟩⟩
instance : Inhabited Yq := ⟨⟨0, 0, 0, 0, 0, 0, false, false, []⟩⟩
instance : Inhabited Z7 := ⟨⟨0, 0⟩⟩
instance : Inhabited ahS := ⟨⟨⟨0, 0, 0, 0, 0, 0, false, false, []⟩, [], 0, [], 0, 0, 0⟩⟩
section
def Rf {β τ:Type} (M:Option β) (T:Option τ) (Q:τ→β→Prop):Prop:=∀t,T=some t→∃b,M=some b∧Q t b
section
variable {α β ω τ ζ : Type}
theorem aq {M0:Option α} {K:α→Option β} {T:Option τ} {Q:τ→β→Prop} (a:α) (h:M0=some a) (k:Rf (K a) T Q):Rf (M0.bind K) T Q:=by
 intro t ht;obtain⟨b,h1,h2⟩:=k t ht;exact⟨b,by rw[h];exact h1,h2⟩
theorem kZ {M0:Option α} {K:α→Option β} {o:Option ω} {K':ω→Option τ} {Q:τ→β→Prop} (e:ω→α) (h:∀t,o=some t→M0=some (e t)) (k:∀t,o=some t→Rf (K (e t)) (K' t) Q):Rf (M0.bind K) (o.bind K') Q:=by
 intro t ht
 obtain⟨x,h1,h2⟩:=Option.bind_eq_some_iff.1 ht
 obtain⟨b,h3,h4⟩:=k x h1 t h2
 exact⟨b,by rw[h x h1];exact h3,h4⟩
theorem MV {M0:Option α} {K:α→Option β} {o:Option ω} {K':ω→Option τ} {Q:τ→β→Prop} (Q0:ω→α→Prop) (h:Rf M0 o Q0) (k:∀t a,Q0 t a→Rf (K a) (K' t) Q):Rf (M0.bind K) (o.bind K') Q:=by
 intro t ht
 obtain⟨x,h1,h2⟩:=Option.bind_eq_some_iff.1 ht
 obtain⟨a,h3,h4⟩:=h x h1
 obtain⟨b,h5,h6⟩:=k x a h4 t h2
 exact⟨b,by rw[h3];exact h5,h6⟩
theorem bZ {t:τ} {b:β} {Q:τ→β→Prop} (h:Q t b):Rf (some b) (some t) Q:=by
 intro u hu;cases hu;exact⟨b,rfl,h⟩
theorem eD {M:Option β} {t:τ} {Q:τ→β→Prop} (b:β) (e:M=some b) (h:Q t b):Rf M (some t) Q:=by
 rw[e];exact bZ h
theorem akv {M:Option β} {Q:τ→β→Prop}:Rf M (none:Option τ) Q:=by intro u hu;cases hu
theorem amx {M:Option β} {p:Prop} [Decidable p] {T:Option τ} {Q:τ→β→Prop} (h:p→Rf M T Q):Rf M (if p then T else none) Q:=by
 split
 ·exact h ‹_›
 ·exact akv
theorem kY {p:Prop} [Decidable p] {X Y:Option β} {X' Y':Option τ} {Q:τ→β→Prop} (h1:p→Rf X X' Q) (h2:¬p→Rf Y Y' Q):Rf (A.cond (.bool (decide p)) X Y) (if p then X' else Y') Q:=by
 by_cases h:p
 ·simp only[h,decide_true,if_true];exact h1 h
 ·simp only[h,decide_false,if_false];exact h2 h
theorem ji {c:Bool} {X Y:Option β} {X' Y':Option τ} {Q:τ→β→Prop} (h1:c=true→Rf X X' Q) (h2:c=false→Rf Y Y' Q):Rf (A.cond (.bool c) X Y) (if c=true then X' else Y') Q:=by
 cases c
 ·exact h2 rfl
 ·exact h1 rfl
theorem qC {X Y:Option β} {T:Option τ} {Q:τ→β→Prop} (h:Rf X T Q):Rf (A.cond (.bool true) X Y) T Q:=h
theorem qB {X Y:Option β} {T:Option τ} {Q:τ→β→Prop} (h:Rf Y T Q):Rf (A.cond (.bool false) X Y) T Q:=h
theorem jW {c:Bool} {X Y:Option β} {T:Option τ} {Q:τ→β→Prop} (e:c=true) (h:Rf X T Q):Rf (bif c then X else Y) T Q:=by rw[e];exact h
theorem vg {c:Bool} {X Y:Option β} {T:Option τ} {Q:τ→β→Prop} (e:c=false) (h:Rf Y T Q):Rf (bif c then X else Y) T Q:=by rw[e];exact h
def gv {α:Type} (g:Bool) (e:α→AV) (t:α):AV:=bif g then e t else .aH []
end
inductive Lr (S B R : Type) where
 |go (s:S)
 |brk (b:B)
 |ret (r:R)
def mu {α S B R:Type} (body:Nat→α→S→Option (Lr S B R)) (fin:S→Option B):List α→Nat→S→Option (B ⊕ R)
 |[],_,s=>(fin s).map .inl
 |x::l,i,s=>(body i x s).bind fun q=>match q with|.go s'=>mu body fin l (i+1) s'|.brk b=>some (.inl b)|.ret r=>some (.inr r)
def kW {α S B R γ:Type} (l:List α) (body:Nat→α→S→Option (Lr S B R)) (fin:S→Option B) (s:S) (K1:B→Option γ) (K2:R→Option γ):Option γ:=
 if l.length≤aW then(mu body fin l 0 s).bind fun q=>q.elim K1 K2 else none
section
variable {α S B R β τ : Type}
abbrev LS:=AX×List AV×Heap
def M3 (I:S→List AV→Heap→Prop) (QB:B→LS→Prop) (QR:R→LS→Prop) (t:Lr S B R) (q:LS):Prop:=match t with
 |.go s=>q.1=.normal∧I s q.2.1 q.2.2
 |.brk b=>q.1≠.normal∧QB b q
 |.ret r=>q.1≠.normal∧QR r q
theorem qy {I:S→List AV→Heap→Prop} {QB:B→LS→Prop} {QR:R→LS→Prop} {s:S} {v:List AV} {σ:Heap} (h:I s v σ):M3 I QB QR (.go s) (.normal,v,σ):=⟨rfl,h⟩
theorem akw {I:S→List AV→Heap→Prop} {QB:B→LS→Prop} {QR:R→LS→Prop} {b:B} {q:LS} (n:q.1≠.normal) (h:QB b q):M3 I QB QR (.brk b) q:=⟨n,h⟩
theorem iw {I:S→List AV→Heap→Prop} {QB:B→LS→Prop} {QR:R→LS→Prop} {r:R} {q:LS} (n:q.1≠.normal) (h:QR r q):M3 I QB QR (.ret r) q:=⟨n,h⟩
theorem qx {f:List AV→Heap→Option LS} {K:LS→Option β} {Q:τ→β→Prop} {l:List α} {body:Nat→α→S→Option (Lr S B R)} {fin:S→Option B} {s0:S} {K1:B→Option τ} {K2:R→Option τ} {v0:List AV} {aC:Heap}
  (I:Nat→S→List AV→Heap→Prop) (QB:B→LS→Prop) (QR:R→LS→Prop)
  (hstep:l.length≤aW→∀i x s v σ,l[i]? =some x→I i s v σ→Rf (f v σ) (body i x s) (M3 (I (i+1)) QB QR))
  (hend:l.length≤aW→∀s v σ,I l.length s v σ→Rf (f v σ) (fin s) (fun b q=>q.1≠.normal∧QB b q))
  (h0:I 0 s0 v0 aC) (k1:l.length≤aW→∀b q,QB b q→Rf (K q) (K1 b) Q) (k2:l.length≤aW→∀r q,QR r q→Rf (K q) (K2 r) Q):
  Rf ((A.loop f v0 aC).bind K) (kW l body fin s0 K1 K2) Q:=by
 unfold kW
 refine amx fun hl=>?_
 have hstep:=hstep hl
 have hend:=hend hl
 have key:∀(rest pre:List α) (s:S) (v:List AV) (σ:Heap),l=pre++rest→I pre.length s v σ→∀t,mu body fin rest pre.length s=some t→∃q,(∃n,A.iter f n v σ=some q)∧(match t with|.inl b=>QB b q|.inr r=>QR r q):=by
  intro rest
  induction rest with
  |nil=>
   intro pre s v σ hl hI t ht
   rw[List.append_nil]at hl
   subst hl
   simp only[mu]at ht
   obtain⟨b,hb,rfl⟩:=Option.map_eq_some_iff.1 ht
   obtain⟨q,h1,h2,h3⟩:=hend s v σ hI b hb
   exact⟨q,uO h1 h2,h3⟩
  |cons x rest ih=>
   intro pre s v σ hl hI t ht
   simp only[mu]at ht
   obtain⟨y,hy,h2⟩:=Option.bind_eq_some_iff.1 ht
   obtain⟨q,h3,h4⟩:=hstep pre.length x s v σ (by rw[hl];simp) hI y hy
   obtain⟨e,v',σ'⟩:=q
   cases y with
   |go s'=>
    obtain⟨rfl,Tq⟩:=h4
    obtain⟨q,h5,h6⟩:=ih (pre++[x]) s' v' σ' (by simpa using hl) (by simpa using Tq) t (by simpa using h2)
    exact⟨q,C0 h3 h5,h6⟩
   |brk b=>simp only[Option.some.injEq]at h2;subst h2;exact⟨_,uO h3 h4.1,h4.2⟩
   |ret b=>simp only[Option.some.injEq]at h2;subst h2;exact⟨_,uO h3 h4.1,h4.2⟩
 intro t ht
 obtain⟨y,hy,h2⟩:=Option.bind_eq_some_iff.1 ht
 obtain⟨q,⟨n,hn⟩,h3⟩:=key l [] s0 v0 aC rfl h0 y hy
 cases y with
 |inl b=>obtain⟨z,h4,h5⟩:=k1 hl b q h3 t h2;exact⟨z,by rw[CV hn];exact h4,h5⟩
 |inr b=>obtain⟨z,h4,h5⟩:=k2 hl b q h3 t h2;exact⟨z,by rw[CV hn];exact h4,h5⟩
theorem jF {l:List α} {i:Nat} {x:α} (h:l[i]? =some x):A.lss (.int .i64 (i:Int)) (.int .i64 (l.length:Int))=some (.bool true):=by
 have:=(List.getElem?_eq_some_iff.1 h).1
 rw[kO];simp;omega
theorem jD (l:List α):A.lss (.int .i64 (l.length:Int)) (.int .i64 (l.length:Int))=some (.bool false):=by rw[kO];simp
theorem gd {l:List α} {i:Nat} {x:α} (h:l[i]? =some x) (hl:l.length≤aW):A.add (.int .i64 (i:Int)) (.int .i64 1)=some (.int .i64 ((i+1:Nat):Int)):=by
 have:=(List.getElem?_eq_some_iff.1 h).1
 rw[kN,wrap64 (by unfold aN;unfold aW at hl;omega)]
 simp
def uH (l:List α) (i:Int):Option α:=if 0≤i then l[i.toNat]? else none
theorem BX {sz:Nat} {c:α→List AV} {l:List α} {i:Int} {x:α} (h:uH l i=some x):A.aU sz (sl sz c l) (.int .i64 i)=some (.rp (c x)):=by
 unfold uH at h
 split at h
 ·exact ahc sz c l ‹_› h
 ·cases h
theorem iO {sz:Nat} {c:α→List AV} {l:List α} {i:Nat} {x:α} (h:l[i]? =some x):A.aU sz (sl sz c l) (.int .i64 (i:Int))=some (.rp (c x)):=lM sz c l h
end
theorem quiet_of {M:Option (AV×Heap)} {v:AV} {σ:Heap} (h:M=some (v,σ)):A.quiet M σ=some v:=by rw[h,PA]
def IF (a b:Int):Option Int:=if b=0 then none else some (IntKind.i64.wrap (a.tdiv b))
def IG (a b:Int):Option Int:=if b=0 then none else some (a.tmod b)
theorem alA {a b c:Int} (h:IF a b=some c):A.quo (.int .i64 a) (.int .i64 b)=some (.int .i64 c):=by
 unfold IF at h
 split at h
 ·cases h
 ·injection h with h;subst h;exact aaN a b ‹_›
theorem alC {a b c:Int} (h:IG a b=some c):A.rem (.int .i64 a) (.int .i64 b)=some (.int .i64 c):=by
 unfold IG at h
 split at h
 ·cases h
 ·injection h with h;subst h;exact amE a b ‹_›
noncomputable def tq {α:Type} (p:Prop) (x:α):Option α:=open Classical in if p then some x else none
theorem uX {α:Type} {p:Prop} {x:α} (h:p):tq p x=some x:=if_pos h
theorem wC {α β:Type} {p:Prop} {x r:α} {M:Option β} {e:α→β} (h:p→M=some (e x)) (k:tq p x=some r):M=some (e r):=by
 unfold tq at k
 split at k
 ·rename_i hp;injection k with k;subst k;exact h hp
 ·cases k
theorem rN (b t:Bool):A.pick (.bool b) (bif b then .bool t else .aH []) (.bool false)=some (.bool (b&&t)):=by cases b<;>rfl
theorem pg (b t:Bool):A.pick (.bool b) (.bool true) (bif !b then .bool t else .aH [])=some (.bool (b||t)):=by cases b<;>rfl
section
variable {α β ω τ : Type} {G b : Bool} {M0 : Option AV} {K : AV → Option β} {T : Option τ} {K' : ω → Option τ} {o : Option ω} {Q : τ → β → Prop}
theorem dS (a:AV) (h:b=true→M0=some a) (k:Rf (K (bif b then a else .aH [])) T Q):Rf ((A.guard (.bool b) true M0 (some (.aH []))).bind K) T Q:=by
 refine aq _ ?_ k
 cases b<;>simp_all [A.guard]
theorem eE (a:AV) (h:(!b)=true→M0=some a) (k:Rf (K (bif !b then a else .aH [])) T Q):Rf ((A.guard (.bool b) false M0 (some (.aH []))).bind K) T Q:=by
 refine aq _ ?_ k
 cases b<;>simp_all [A.guard]
theorem FN (a:AV) (h:(G&&b)=true→M0=some a) (k:Rf (K (bif G&&b then a else .aH [])) T Q):Rf ((A.guard (bif G then .bool b else .aH []) true M0 (some (.aH []))).bind K) T Q:=by
 refine aq _ ?_ k
 cases G<;>cases b<;>simp_all [A.guard]
theorem ZS (a:AV) (h:(G&&!b)=true→M0=some a) (k:Rf (K (bif G&&!b then a else .aH [])) T Q):Rf ((A.guard (bif G then .bool b else .aH []) false M0 (some (.aH []))).bind K) T Q:=by
 refine aq _ ?_ k
 cases G<;>cases b<;>simp_all [A.guard]
theorem amw {g:Bool} {M:Option AV} {d:ω} (e:ω→AV) (hM:M=bif g then M0 else some (.aH [])) (h:g=true→∀t,o=some t→M0=some (e t)) (k:∀t,(g=true→o=some t)→Rf (K (bif g then e t else .aH [])) (K' t) Q):Rf (M.bind K) ((if g=true then o else some d).bind K') Q:=by
 subst hM
 cases g
 ·exact k d (by simp)
 ·intro t ht
  simp only[if_true]at ht
  obtain⟨x,h1,h2⟩:=Option.bind_eq_some_iff.1 ht
  obtain⟨y,h3,h4⟩:=k x (fun _=>h1) t h2
  refine⟨y,?_,h4⟩
  simp only[cond_true,h rfl x h1,Option.bind_some]
  exact h3
theorem yC {d:ω} (e:ω→AV) (h:b=true→∀t,o=some t→M0=some (e t)) (k:∀t,(b=true→o=some t)→Rf (K (bif b then e t else .aH [])) (K' t) Q):Rf ((A.guard (.bool b) true M0 (some (.aH []))).bind K) ((if b=true then o else some d).bind K') Q:=amw e (by cases b<;>rfl) h k
end
theorem QW {ro:Bool} {eX:List Sh} {fI:Sh} {r:List AV→Heap→Option (AV×Heap)} {args args':List AV} {σ:Heap} (hn:A.bW eX args=A.bW eX args') (h1:args.any A.own=false) (h2:args'.any A.own=false):A.wrap ro eX fI r args σ=A.wrap ro eX fI r args' σ:=by
 unfold A.wrap
 rw[h1,h2,hn,Bool.and_false,cond_false,cond_false]
theorem QS {τ:Type} {ro:Bool} {eX:List Sh} {fI:Sh} {r:List AV→Heap→Option (AV×Heap)} {args args':List AV} {σ:Heap} {T:Option τ} {enc:τ→AV} (hn:A.bW eX args=args') (h:args.any A.own=false) (e:Rf (r args' σ) T (fun t b=>A.nn fI b.1=enc t∧b.2=σ)):∀t,T=some t→A.wrap ro eX fI r args σ=some (enc t,σ):=by
 intro t ht
 obtain⟨⟨v,σ'⟩,h1,h2,h3⟩:=e t ht
 simp only at h2 h3
 subst h3
 exact wrap_eq h (by rw[hn];exact h1) h2
theorem yp {τ:Type} {ro:Bool} {eX:List Sh} {fI:Sh} {f:AV→Heap→Option (AV×Heap)} {x0 y0:AV} {σ:Heap} {T:Option τ} {enc:τ→AV} (hn:A.bW eX [x0]=[y0]) (h:([x0]:List AV).any A.own=false) (e:Rf (f y0 σ) T (fun t b=>A.nn fI b.1=enc t∧b.2=σ)):∀t,T=some t→A.wrap ro eX fI (A.cD f) [x0] σ=some (enc t,σ):=QS hn h e
theorem uQ {τ:Type} {ro:Bool} {eX:List Sh} {fI:Sh} {f:AV→AV→Heap→Option (AV×Heap)} {x0 x1 y0 y1:AV} {σ:Heap} {T:Option τ} {enc:τ→AV} (hn:A.bW eX [x0,x1]=[y0,y1]) (h:([x0,x1]:List AV).any A.own=false) (e:Rf (f y0 y1 σ) T (fun t b=>A.nn fI b.1=enc t∧b.2=σ)):∀t,T=some t→A.wrap ro eX fI (A.cR f) [x0,x1] σ=some (enc t,σ):=QS hn h e
theorem Yb {τ:Type} {ro:Bool} {eX:List Sh} {fI:Sh} {f:AV→AV→AV→Heap→Option (AV×Heap)} {x0 x1 x2 y0 y1 y2:AV} {σ:Heap} {T:Option τ} {enc:τ→AV} (hn:A.bW eX [x0,x1,x2]=[y0,y1,y2]) (h:([x0,x1,x2]:List AV).any A.own=false) (e:Rf (f y0 y1 y2 σ) T (fun t b=>A.nn fI b.1=enc t∧b.2=σ)):∀t,T=some t→A.wrap ro eX fI (A.lG f) [x0,x1,x2] σ=some (enc t,σ):=QS hn h e
end
section
inductive Ct where
 |s (sz:Nat) (es:List (List AV))
 |m (es:List (AV×AV))
 |b (cs:List AV)
def yO:AV→Option Nat
 |.os id _ _ _ _=>some id
 |.om id=>some id
 |.op id _=>some id
 |_=>none
def Own (n:Nat) (σ:Heap) (p:AV×Ct):Prop:=match p.2 with
 |.s sz es=>(p.1=.au∧es=[])∨∃id g off a,p.1=.os id g sz off es.length∧n≤id∧σ[id]? =some (.arr g sz a)∧off≤a.length∧a.drop off=es
 |.m es=>∃id,p.1=.om id∧n≤id∧σ[id]? =some (.map es)
 |.b cs=>∃id,p.1=.op id 0∧n≤id∧σ[id]? =some (.box cs)
structure Hp (aC σ : Heap) (L : List (AV × Ct)) : Prop where
 pre:∃bs,σ=aC++bs
 own:∀(i:Nat) p,L[i]? =some p→Own aC.length σ p
 sep:∀(i j:Nat) p q a,L[i]? =some p→L[j]? =some q→yO p.1=some a→yO q.1=some a→i=j
section
variable {aC σ σ' : Heap} {L : List (AV × Ct)} {n : Nat}
theorem Q4 (σ:Heap):Hp σ σ []:=⟨⟨[],by simp⟩,by simp,by simp⟩
theorem Q9 {p:AV×Ct} {a:Nat} (h:Own n σ p) (e:yO p.1=some a):n≤a∧a<σ.length:=by
 obtain⟨v,c⟩:=p
 cases c with
 |s sz es=>
  rcases h with⟨h1,_⟩|⟨id,g,off,x,h1,h2,h3,_⟩
  ·simp only at h1;subst h1;cases e
  ·simp only at h1;subst h1;injection e with e;subst e;exact⟨h2,(List.getElem?_eq_some_iff.1 h3).1⟩
 |m es=>obtain⟨id,h1,h2,h3⟩:=h;simp only at h1;subst h1;injection e with e;subst e;exact⟨h2,(List.getElem?_eq_some_iff.1 h3).1⟩
 |b es=>obtain⟨id,h1,h2,h3⟩:=h;simp only at h1;subst h1;injection e with e;subst e;exact⟨h2,(List.getElem?_eq_some_iff.1 h3).1⟩
theorem X1 {p:AV×Ct} (h:Own n σ p) (k:∀a,yO p.1=some a→σ'[a]? =σ[a]?):Own n σ' p:=by
 obtain⟨v,c⟩:=p
 cases c with
 |s sz es=>
  rcases h with h|⟨id,g,off,x,h1,h2,h3,h4⟩
  ·exact .inl h
  ·simp only at h1;subst h1;exact .inr ⟨id,g,off,x,rfl,h2,by rw[k id rfl];exact h3,h4⟩
 |m es=>obtain⟨id,h1,h2,h3⟩:=h;simp only at h1;subst h1;exact⟨id,rfl,h2,by rw[k id rfl];exact h3⟩
 |b es=>obtain⟨id,h1,h2,h3⟩:=h;simp only at h1;subst h1;exact⟨id,rfl,h2,by rw[k id rfl];exact h3⟩
theorem aks (h:∃bs,σ=aC++bs) {id:Nat} (hn:aC.length≤id) (b:aJ):∃bs,σ.set id b=aC++bs:=by
 obtain⟨bs,rfl⟩:=h
 exact⟨bs.set (id-aC.length) b,by rw[List.set_append_right _ _ hn]⟩
theorem ZB (H:Hp aC σ L) {k id:Nat} {h h':AV} {c c':Ct} {b:aJ} (hk:L[k]? =some (h,c)) (hi:yO h=some id) (hi':yO h'=some id) (ho:Own aC.length (σ.set id b) (h',c')):Hp aC (σ.set id b) (L.set k (h',c')):=by
 have hid:=Q9 (H.own k _ hk) hi
 have AZ:=(List.getElem?_eq_some_iff.1 hk).1
 refine⟨aks H.pre hid.1 b,fun i p hp=>?_,fun i j p q a hp hq e1 e2=>?_⟩
 ·rw[List.getElem?_set]at hp
  split at hp
  ·rename_i e;subst e;simp [AZ]at hp;subst hp;exact ho
  ·rename_i e
   refine X1 (H.own i p hp) fun a ha=>?_
   rw[List.getElem?_set]
   split
   ·rename_i e';subst e';exact absurd (H.sep k i _ _ id hk hp hi ha) e
   ·rfl
 ·have key:∀(i:Nat) (p:AV×Ct),(L.set k (h',c'))[i]? =some p→yO p.1=some a→∃p',L[i]? =some p'∧yO p'.1=some a:=by
   intro i p hp e
   rw[List.getElem?_set]at hp
   split at hp
   ·rename_i e';subst e';simp [AZ]at hp;subst hp;exact⟨_,hk,by rw[hi];rw[hi']at e;exact e⟩
   ·exact⟨p,hp,e⟩
  obtain⟨p',hp',e1'⟩:=key i p hp e1
  obtain⟨q',A0,IT⟩:=key j q hq e2
  exact H.sep i j p' q' a hp' A0 e1' IT
theorem aj0 (H:Hp aC σ L) {h':AV} {c':Ct} {b:aJ} (hi':yO h'=some σ.length) (ho:Own aC.length (σ++[b]) (h',c')):Hp aC (σ++[b]) (L++[(h',c')]):=by
 refine⟨?_,fun i p hp=>?_,fun i j p q a hp hq e1 e2=>?_⟩
 ·obtain⟨bs,rfl⟩:=H.pre;exact⟨bs++[b],by simp⟩
 ·rw[List.getElem?_append]at hp
  split at hp
  ·refine X1 (H.own i p hp) fun a ha=>?_
   have:=(Q9 (H.own i p hp) ha).2
   rw[List.getElem?_append_left this]
  ·have hp':=(List.getElem?_eq_some_iff.1 hp).2
   simp at hp';subst hp';exact ho
 ·have key:∀(i:Nat) (p:AV×Ct),(L++[(h',c')])[i]? =some p→yO p.1=some a→(i=L.length∧a=σ.length)∨(L[i]? =some p∧a<σ.length):=by
   intro i p hp e
   rw[List.getElem?_append]at hp
   split at hp
   ·exact .inr ⟨hp,(Q9 (H.own i p hp) e).2⟩
   ·obtain⟨h1,h2⟩:=List.getElem?_eq_some_iff.1 hp
    simp at h1 h2;subst h2;rw[hi']at e;injection e with e;exact .inl ⟨by omega,e.symm⟩
  rcases key i p hp e1 with⟨a1,a2⟩|⟨a1,a2⟩<;>rcases key j q hq e2 with⟨b1,b2⟩|⟨b1,b2⟩
  ·omega
  ·omega
  ·omega
  ·exact H.sep i j p q a a1 b1 e1 e2
theorem Rp (H:Hp aC σ L):Hp aC (σ++[.map []]) (L++[(.om σ.length,.m [])]):=by
 have hl:aC.length≤σ.length:=by obtain⟨bs,rfl⟩:=H.pre;simp
 exact aj0 H rfl ⟨σ.length,rfl,hl,by simp⟩
theorem QH (H:Hp aC σ L):Hp aC σ []:=⟨H.pre,by simp,by simp⟩
theorem ajZ (H:Hp aC σ L) {k:Nat} {h key v:AV} {ek:A.EK} {es es':List (AV×AV)} (hk:L[k]? =some (h,.m es)) (hok:A.jq ek key=true) (he:A.upd ek key v es=some es'):∃σ',A.ew ek h key v σ=some σ'∧Hp aC σ' (L.set k (h,.m es')):=by
 obtain⟨id,h1,h2,h3⟩:=H.own k _ hk
 simp only at h1 h3
 subst h1
 have hid:=(List.getElem?_eq_some_iff.1 h3).1
 exact⟨σ.set id (.map es'),by simp [A.ew,hok,h3,he],ZB H hk rfl rfl ⟨id,rfl,h2,by simp [hid]⟩⟩
theorem ajY (H:Hp aC σ L) {k:Nat} {h key:AV} {ek:A.EK} {es es':List (AV×AV)} (hk:L[k]? =some (h,.m es)) (hok:A.jq ek key=true) (he:A.del ek key es=some es'):∃σ',A.DL ek h key σ=some σ'∧Hp aC σ' (L.set k (h,.m es')):=by
 obtain⟨id,h1,h2,h3⟩:=H.own k _ hk
 simp only at h1 h3
 subst h1
 have hid:=(List.getElem?_eq_some_iff.1 h3).1
 exact⟨σ.set id (.map es'),by simp [A.DL,hok,h3,he],ZB H hk rfl rfl ⟨id,rfl,h2,by simp [hid]⟩⟩
theorem ajX (H:Hp aC σ L) {k:Nat} {h key z:AV} {ek:A.EK} {es:List (AV×AV)} {r:Option AV} (hk:L[k]? =some (h,.m es)) (hok:A.jq ek key=true) (he:A.find ek key es=some r):A.look ek h key z σ=some (r.getD z):=by
 obtain⟨id,h1,h2,h3⟩:=H.own k _ hk
 simp only at h1 h3
 subst h1
 rw[BA ek hok h3,he];rfl
def Te (aC σ:Heap) (r r':AV):Prop:=(∀d,A.bw σ aC.length (d+1) r=some r')∧(σ=aC→r'=r)
theorem Zv {r:AV} (h:Fz r):Te aC σ r r:=⟨fun d=>h σ _ (d+1),fun _=>rfl⟩
theorem iV {s1:Sh} {v1 w1:AV} {ss:List Sh} {vs ws:List AV} (h1:A.nn s1 v1=w1) (h2:A.bW ss vs=ws):A.bW (s1::ss) (v1::vs)=w1::ws:=by simp only[A.bW,h1,h2]
theorem FV:A.bW [] []=[]:=by simp [A.bW]
theorem qJ {ss:List Sh} {vs ws:List AV} (h:A.bW ss vs=ws):A.nn (.a ss) (.agg vs)=.agg ws:=by simp only[A.nn,h]
theorem abc {ss:List Sh} {vs ws:List AV} (h:A.bW ss vs=ws):A.nn (.t ss) (.aH vs)=.aH ws:=by simp only[A.nn,h]
theorem L4 (d:Nat):∀{es:List (AV×AV)},(∀p∈es,Fz p.1∧Fz p.2)→A.BV σ n d es=some es
 |[],_=>by simp [A.BV]
 |(k,v)::es,h=>by
  have h1:=h (k,v) (by simp)
  simp only[A.BV,h1.1 σ n d,h1.2 σ n d,Option.bind_some,L4 d (es:=es) (fun p hp=>h p (by simp [hp])),Option.map_some]
theorem Zw (H:Hp aC σ L) {k:Nat} {h:AV} {es:List (AV×AV)} (hk:L[k]? =some (h,.m es)) (hc:∀p∈es,Fz p.1∧Fz p.2):Te aC σ h (.fm es):=by
 obtain⟨id,h1,h2,h3⟩:=H.own k _ hk
 simp only at h1 h3
 subst h1
 refine⟨fun d=>?_,fun e=>?_⟩
 ·simp only[A.bw,Nat.not_lt.2 h2,if_false,h3,L4 d hc,Option.map_some]
 ·subst e
  have:=(List.getElem?_eq_some_iff.1 h3).1
  omega
theorem Mn (H:Hp aC σ L) {r r':AV} (h:Te aC σ r r'):A.fin aC r σ=some (r',aC):=by
 obtain⟨bs,hb⟩:=H.pre
 subst hb
 by_cases sA:bs=[]
 ·subst sA
  rw[List.append_nil]at h ⊢
  rw[bC,h.2 rfl]
 ·unfold A.fin
  rw[if_neg (by simpa using sA),if_pos (by simp),h.1 7];rfl
end
section
variable {κ ν : Type} [DecidableEq κ]
def cC (k:κ):List (κ×ν)→Option ν
 |[]=>none
 |(k',v)::r=>if k=k' then some v else cC k r
def dD (k:κ) (v:ν):List (κ×ν)→List (κ×ν)
 |[]=>[(k,v)]
 |(k',v')::r=>if k=k' then(k,v)::r else(k',v')::dD k v r
def pN (k:κ):List (κ×ν)→List (κ×ν)
 |[]=>[]
 |(k',v')::r=>if k=k' then r else(k',v')::pN k r
variable {ek : A.EK} {eK : κ → AV} {eV : ν → AV} (hq : ∀ a b, A.dZ ek (eK a) (eK b) = some (decide (a = b)))
include hq
theorem BI (k:κ):∀l:List (κ×ν),A.find ek (eK k) (l.map fun p=>(eK p.1,eV p.2))=some ((cC k l).map eV)
 |[]=>rfl
 |(k',v)::r=>by
  simp only[List.map_cons,A.find,hq,Option.bind_some,cC]
  by_cases h:k=k'
  ·simp [h]
  ·simp [h,BI k r]
theorem Dn (k:κ) (v:ν):∀l:List (κ×ν),A.upd ek (eK k) (eV v) (l.map fun p=>(eK p.1,eV p.2))=some ((dD k v l).map fun p=>(eK p.1,eV p.2))
 |[]=>rfl
 |(k',v')::r=>by
  simp only[List.map_cons,A.upd,hq,Option.bind_some,dD]
  by_cases h:k=k'
  ·simp [h]
  ·simp [h,Dn k v r]
theorem aal (k:κ):∀l:List (κ×ν),A.del ek (eK k) (l.map fun p=>(eK p.1,eV p.2))=some ((pN k l).map fun p=>(eK p.1,eV p.2))
 |[]=>rfl
 |(k',v')::r=>by
  simp only[List.map_cons,A.del,hq,Option.bind_some,pN]
  by_cases h:k=k'
  ·simp [h]
  ·simp [h,aal k r]
end
theorem YA (a b:ByteArray):A.dZ .z (.str a) (.str b)=some (decide (a=b)):=by
 simp only[A.dZ,A.oH,bq]
theorem getD_map {α:Type} (o:Option α) (f:α→AV) (d:α):(o.map f).getD (f d)=f (o.getD d):=by cases o<;>rfl
theorem isSome_map {α:Type} (o:Option α) (f:α→AV):(o.map f).isSome=o.isSome:=by cases o<;>rfl
def uw {κ ν:Type} (eK:κ→AV) (eV:ν→AV) (l:List (κ×ν)):AV:=.fm (l.map fun p=>(eK p.1,eV p.2))
section
variable {κ ν : Type} [DecidableEq κ] {ek : A.EK} {eK : κ → AV} {eV : ν → AV} {aC σ : Heap} {L : List (AV × Ct)} {h : AV} {l : List (κ × ν)}
theorem QG (H:Hp aC σ L) (k:Nat) (hk:L[k]? =some (h,.m (l.map fun p=>(eK p.1,eV p.2)))) (hq:∀a b,A.dZ ek (eK a) (eK b)=some (decide (a=b))) (x:κ) (v:ν) (hok:A.jq ek (eK x)=true):∃σ',A.ew ek h (eK x) (eV v) σ=some σ'∧Hp aC σ' (L.set k (h,.m ((dD x v l).map fun p=>(eK p.1,eV p.2)))):=ajZ H hk hok (Dn hq x v l)
theorem ajW (H:Hp aC σ L) (k:Nat) (hk:L[k]? =some (h,.m (l.map fun p=>(eK p.1,eV p.2)))) (hq:∀a b,A.dZ ek (eK a) (eK b)=some (decide (a=b))) (x:κ) (hok:A.jq ek (eK x)=true):∃σ',A.DL ek h (eK x) σ=some σ'∧Hp aC σ' (L.set k (h,.m ((pN x l).map fun p=>(eK p.1,eV p.2)))):=ajY H hk hok (aal hq x l)
theorem ait (H:Hp aC σ L) (k:Nat) (hk:L[k]? =some (h,.m (l.map fun p=>(eK p.1,eV p.2)))) (hq:∀a b,A.dZ ek (eK a) (eK b)=some (decide (a=b))) (x:κ) (z:ν) (hok:A.jq ek (eK x)=true):A.look ek h (eK x) (eV z) σ=some (eV ((cC x l).getD z)):=by
 rw[ajX H hk hok (BI hq x l),getD_map]
theorem aim (hq:∀a b,A.dZ ek (eK a) (eK b)=some (decide (a=b))) (x:κ) (z:ν) (hok:A.jq ek (eK x)=true):A.look ek (uw eK eV l) (eK x) (eV z) σ=some (eV ((cC x l).getD z)):=by
 simp only[A.look,uw,hok,cond_true,A.entries,Option.bind_some,BI hq,Option.map_some,getD_map]
end
section
variable {α : Type} {c : α → List AV} {l ys : List α} {aC σ : Heap} {L : List (AV × Ct)} {h : AV} {sz : Nat}
end
end
section
def iE {α:Type} (f:Nat→α→Int):List α→Nat→Int
 |[],_=>0
 |x::l,i=>if f i x=0 then iE f l (i+1)else f i x
section
variable {α β γ S B R : Type}
theorem zl {f:Nat→α→Int}:∀(l:List α) (i:Nat),iE f l i=0↔∀j x,l[j]? =some x→f (i+j) x=0
 |[],i=>by simp [iE]
 |y::l,i=>by
  rw[iE]
  by_cases h:f i y=0
  ·rw[if_pos h,zl l (i+1)]
   constructor
   ·intro k j x hx
    cases j with
    |zero=>simp at hx;subst hx;exact h
    |succ j=>have:=k j x (by simpa using hx);rwa[show i+1+j=i+(j+1) by omega]at this
   ·intro k j x hx
    have:=k (j+1) x (by simpa using hx)
    rwa[show i+(j+1)=i+1+j by omega]at this
  ·rw[if_neg h]
   exact⟨fun e=>absurd e h,fun k=>absurd (k 0 y rfl) h⟩
theorem HB {l:List α} {body:Nat→α→S→Option (Lr S B R)} {fin:S→Option B} {s:S} {K1:B→Option γ} {K2:R→Option γ} (hl:l.length≤aW):kW l body fin s K1 K2=(mu body fin l 0 s).bind fun q=>q.elim K1 K2:=if_pos hl
theorem Bu {f:Nat→α→Int} {l:List α} {body:Nat→α→Unit→Option (Lr Unit Unit Int)} {fin:Unit→Option Unit} {s:Unit} {K1:Unit→Option γ} {K2:Int→Option γ} (hl:l.length≤aW) (hb:∀i x,l[i]? =some x→body i x ()=some (if f i x=0 then .go ()else .ret (f i x))) (hf:fin ()=some ():=by rfl):kW l body fin s K1 K2=if iE f l 0=0 then K1 ()else K2 (iE f l 0):=by
 rw[HB hl]
 have key:∀(rest pre:List α),l=pre++rest→mu body fin rest pre.length ()=some (if iE f rest pre.length=0 then .inl ()else .inr (iE f rest pre.length)):=by
  intro rest
  induction rest with
  |nil=>intro pre _;simp [mu,hf,iE]
  |cons x rest ih=>
   intro pre hp
   rw[mu,hb pre.length x (by rw[hp];simp),Option.bind_some,iE]
   by_cases h:f pre.length x=0
   ·simp only[h,if_true]
    have:=ih (pre++[x]) (by simpa using hp)
    simpa using this
   ·simp only[h,if_false]
 have k:=key l [] rfl
 rw[List.length_nil]at k
 rw[show s=()from rfl,k,Option.bind_some]
 split<;>rfl
theorem FC {p:Prop} [Decidable p] {k f:Int} {Y:Option (Lr Unit Unit Int)} (hk:k≠0) (h:Y=some (if f=0 then .go ()else .ret f)):(if p then some (.ret k)else Y)=some (if(if p then k else f)=0 then .go ()else .ret (if p then k else f)):=by
 by_cases hp:p
 ·simp [hp,hk]
 ·simp [hp,h]
theorem go_ret:(some (.go ()):Option (Lr Unit Unit Int))=some (if(0:Int)=0 then .go ()else .ret 0):=rfl
theorem XD (k:Int):(if k=0 then some (.go ())else some (.ret k):Option (Lr Unit Unit Int))=some (if k=0 then .go ()else .ret k):=by split<;>rfl
theorem WC {p:α→Bool} {l:List α} {body:Nat→α→Unit→Option (Lr Unit Unit R)} {r:α→R} {fin:Unit→Option Unit} {s:Unit} {K1:Unit→Option γ} {K2:R→Option γ} (hl:l.length≤aW) (hb:∀i x,l[i]? =some x→body i x ()=some (if p x=true then .ret (r x)else .go ())) (hf:fin ()=some ():=by rfl):kW l body fin s K1 K2=match l.find? p with|some x=>K2 (r x)|none=>K1 ():=by
 rw[HB hl]
 have key:∀(rest pre:List α),l=pre++rest→mu body fin rest pre.length ()=some (match rest.find? p with|some x=>.inr (r x)|none=>.inl ()):=by
  intro rest
  induction rest with
  |nil=>intro pre _;simp [mu,hf]
  |cons x rest ih=>
   intro pre hp
   rw[mu,hb pre.length x (by rw[hp];simp),Option.bind_some,List.find?_cons]
   cases h:p x
   ·simp only[Bool.false_eq_true,if_false]
    have:=ih (pre++[x]) (by simpa using hp)
    simpa using this
   ·simp only[if_true]
 have k:=key l [] rfl
 rw[List.length_nil]at k
 rw[show s=()from rfl,k,Option.bind_some]
 cases l.find? p<;>rfl
theorem Le {l:List α} {body:Nat→α→S→Option (Lr S B R)} {fin:S→Option B} {s:S} {K1:B→Option γ} {K2:R→Option γ} (g:S→α→S) (P:Nat→S→Prop) (hl:l.length≤aW) (h0:P 0 s) (hP:∀i x s,l[i]? =some x→P i s→P (i+1) (g s x)) (hb:∀i x s,l[i]? =some x→P i s→body i x s=some (.go (g s x))):kW l body fin s K1 K2=(fin (l.foldl g s)).bind K1:=by
 rw[HB hl]
 have key:∀(rest pre:List α) (s:S),l=pre++rest→P pre.length s→mu body fin rest pre.length s=(fin (rest.foldl g s)).map .inl:=by
  intro rest
  induction rest with
  |nil=>intro pre s _ _;simp [mu]
  |cons x rest ih=>
   intro pre s hp hq
   have hx:l[pre.length]? =some x:=by rw[hp];simp
   rw[mu,hb pre.length x s hx hq,Option.bind_some,List.foldl_cons]
   have:=ih (pre++[x]) (g s x) (by simpa using hp) (by simpa using hP _ _ _ hx hq)
   simpa using this
 have k:=key l [] s rfl h0
 rw[List.length_nil]at k
 rw[k]
 cases fin (l.foldl g s)<;>rfl
def pv [Inhabited α] (l:List α) (i:Nat):α:=if 0<i then l.getD (i-1) default else default
theorem QV {l:List α} {i:Int} {x:α} (h0:0≤i) (h:l[i.toNat]? =some x):uH l i=some x:=by rw[uH,if_pos h0,h]
theorem FE [Inhabited α] {l:List α} {i:Nat} {x:α} (h:l[i]? =some x) (hl:l.length≤aW):(if decide (0<(i:Int))=true then uH l (IntKind.i64.wrap ((i:Int) -1))else some default)=some (pv l i):=by
 have hi:=(List.getElem?_eq_some_iff.1 h).1
 unfold pv
 by_cases h0:0<i
 ·rw[if_pos (by simpa using h0),if_pos h0,wrap64 (by unfold aN;unfold aW at hl;omega)]
  refine QV (by omega) ?_
  have:((i:Int) -1).toNat=i-1:=by omega
  rw[this,List.getD,List.getElem?_eq_getElem (by omega)]
  rfl
 ·rw[if_neg (by simpa using h0),if_neg h0]
theorem Rl {a b:Int}:(([a,b]:List Int).find? fun n=>decide (¬n=0)).getD 0=if ¬(a=0)then a else b:=by
 by_cases ha:a=0
 ·by_cases hb:b=0<;>simp [ha,hb,List.find?]
 ·simp [ha,List.find?]
end
theorem LQ (s:ByteArray):s.toList=s.data.toList:=ByteArray.toList_eq s
theorem Qz:∀(a b:List UInt8),Lib.compareBytes a b<0↔Op.bytesLess a b=true
 |[],[]=>by simp [Lib.compareBytes,Op.bytesLess]
 |[],_::_=>by simp [Lib.compareBytes,Op.bytesLess]
 |_::_,[]=>by simp [Lib.compareBytes,Op.bytesLess]
 |a::x,b::y=>by
  rw[Lib.compareBytes,Op.bytesLess]
  by_cases h1:a<b
  ·simp [h1]
  ·by_cases h2:b<a
   ·have:a≠b:=by rintro rfl;exact h1 h2
    simp [h1,h2,this]
   ·have:a=b:=UInt8.le_antisymm (UInt8.not_lt.1 h2) (UInt8.not_lt.1 h1)
    subst this
    simp [UInt8.lt_irrefl,Qz x y]
theorem Qy:∀(a b:List UInt8),Lib.compareBytes a b=0↔a=b
 |[],[]=>by simp [Lib.compareBytes]
 |[],_::_=>by simp [Lib.compareBytes]
 |_::_,[]=>by simp [Lib.compareBytes]
 |a::x,b::y=>by
  rw[Lib.compareBytes]
  by_cases h1:a<b
  ·have:a≠b:=by rintro rfl;exact UInt8.lt_irrefl _ h1
   simp [h1,this]
  ·by_cases h2:b<a
   ·have:a≠b:=by rintro rfl;exact UInt8.lt_irrefl _ h2
    simp [h1,h2,this]
   ·have:a=b:=UInt8.le_antisymm (UInt8.not_lt.1 h2) (UInt8.not_lt.1 h1)
    subst this
    simp [UInt8.lt_irrefl,Qy x y]
def fB (a b:aB):Bool:=decide (a.unit<b.unit)||(decide (a.unit=b.unit)&&Op.bytesLess a.param.toList b.param.toList)
def vn (a b:aB):Int:=if ¬(a.unit=b.unit)then(if a.unit<b.unit then -1 else 1)else Lib.compareBytes a.param.data.toList b.param.data.toList
theorem QA (a b:aB):vn a b<0↔fB a b=true:=by
 unfold vn fB
 by_cases h:a.unit=b.unit
 ·simp [h,LQ,Qz]
 ·by_cases h2:a.unit<b.unit<;>simp [h,h2]
theorem aju (a b:aB):decide (0≤vn a b)=!fB a b:=by
 have:=QA a b
 cases h:fB a b
 ·rw[h]at this;simp at this;simp [this]
 ·rw[h]at this;simp at this;simp [this]
theorem ajt (a b:aB):vn a b=0↔a=b:=by
 obtain⟨u,p⟩:=a
 obtain⟨v,q⟩:=b
 unfold vn
 by_cases h:u=v
 ·subst h
  simp only[not_true_eq_false,if_false,Qy,aB.mk.injEq,true_and]
  exact⟨fun e=>by obtain⟨⟨p⟩⟩:=p;obtain⟨⟨q⟩⟩:=q;simp at e;subst e;rfl,fun e=>by rw[e]⟩
 ·by_cases h2:u<v<;>simp [h,h2]
end
section
open Go.Sort
theorem Zk:∀a:List UInt8,Op.bytesLess a a=false
 |[]=>rfl
 |x::l=>by simp [Op.bytesLess,UInt8.lt_irrefl,Zk l]
theorem Xu:∀a b c:List UInt8,Op.bytesLess a b=true→Op.bytesLess b c=true→Op.bytesLess a c=true
 |[],[],c,h,_=>by simp [Op.bytesLess]at h
 |[],_::_,[],_,k=>by simp [Op.bytesLess]at k
 |[],_::_,_::_,_,_=>rfl
 |_::_,[],c,h,_=>by simp [Op.bytesLess]at h
 |_::_,_::_,[],_,k=>by simp [Op.bytesLess]at k
 |x::a,y::b,z::c,h,k=>by
  rw[Op.bytesLess]at h k ⊢
  simp only[Bool.or_eq_true,Bool.and_eq_true,decide_eq_true_eq,beq_iff_eq]at h k ⊢
  rcases h with h|⟨rfl,h⟩<;>rcases k with k|⟨rfl,k⟩
  ·exact .inl (UInt8.lt_trans h k)
  ·exact .inl h
  ·exact .inl k
  ·exact .inr ⟨rfl,Xu a b c h k⟩
theorem BB (a:aB):fB a a=false:=by simp [fB,Zk]
theorem Fe {a b c:aB} (h:fB a b=true) (k:fB b c=true):fB a c=true:=by
 simp only[fB,Bool.or_eq_true,Bool.and_eq_true,decide_eq_true_eq]at h k ⊢
 rcases h with h|⟨h1,h2⟩<;>rcases k with k|⟨k1,k2⟩
 ·left;omega
 ·left;omega
 ·left;omega
 ·right;exact⟨by omega,Xu _ _ _ h2 k2⟩
theorem QK {a b:aB} (h:fB a b=false) (k:fB b a=false):a=b:=by
 rw[←ajt]
 have h1:¬vn a b<0:=fun e=>by rw[(QA a b).1 e]at h;cases h
 have hba:vn b a=-vn a b∨True:=.inr trivial
 -- what is neither smaller nor greater is the same
 unfold vn at h1 ⊢
 simp only[fB,Bool.or_eq_false_iff,Bool.and_eq_false_iff,decide_eq_false_iff_not]at h k
 have hu:a.unit=b.unit:=by omega
 simp only[hu,not_true_eq_false,if_false]at h1 ⊢
 have e1:Op.bytesLess a.param.data.toList b.param.data.toList=false:=by
  rcases h.2 with q|q
  ·exact absurd hu q
  ·simpa [LQ]using q
 have e2:Op.bytesLess b.param.data.toList a.param.data.toList=false:=by
  rcases k.2 with q|q
  ·exact absurd hu.symm q
  ·simpa [LQ]using q
 rw[Qy]
 have tri:∀x y:List UInt8,Op.bytesLess x y=false→Op.bytesLess y x=false→x=y:=by
  intro x
  induction x with
  |nil=>intro y p q;cases y with|nil=>rfl|cons y l=>simp [Op.bytesLess]at p
  |cons x xs ih=>
   intro y p q
   cases y with
   |nil=>simp [Op.bytesLess]at q
   |cons y ys=>
    rw[Op.bytesLess]at p q
    by_cases h1:x<y
    ·simp [h1]at p
    ·by_cases h2:y<x
     ·simp [h2]at q
     ·have:x=y:=UInt8.le_antisymm (UInt8.not_lt.1 h2) (UInt8.not_lt.1 h1)
      subst this
      simp [h1]at p q
      rw[ih ys p q]
 exact tri _ _ e1 e2
theorem Br (a b:aB):qw a b<0↔fB a b=true:=QA a b
theorem FF {α:Type} (f:α→aB):SWO (fun x y=>decide (qw (f x) (f y)<0)):=by
 refine⟨fun x=>?_,fun x y z h k=>?_,fun x y z h k=>?_⟩
 ·exact decide_eq_false fun h=>by rw[Br,BB]at h;cases h
 ·have h:=(Br _ _).1 (of_decide_eq_true h)
  have k:=(Br _ _).1 (of_decide_eq_true k)
  exact decide_eq_true ((Br _ _).2 (Fe h k))
 ·have h:fB (f x) (f y)=false:=by
   cases q:fB (f x) (f y)
   ·rfl
   ·exact absurd ((Br _ _).2 q) (of_decide_eq_false h)
  have k:fB (f y) (f z)=false:=by
   cases q:fB (f y) (f z)
   ·rfl
   ·exact absurd ((Br _ _).2 q) (of_decide_eq_false k)
  refine decide_eq_false fun q=>?_
  have q:=(Br _ _).1 q
  cases e:fB (f y) (f x)
  ·have:=QK h e
   rw[this,k]at q;cases q
  ·have:=Fe e q
   rw[k]at this;cases this
theorem VM (x y:bh) (h:cI x=cI y):x=y:=by
 obtain⟨⟨a,b⟩,⟨p,q⟩,r⟩:=x
 obtain⟨⟨a',b'⟩,⟨p',q'⟩,r'⟩:=y
 simp [cI]at h
 obtain⟨rfl,rfl,rfl,rfl,rfl⟩:=h
 rfl
end
section
open Go.RowKit Go.Sort
set_option maxRecDepth 100000
theorem aeE {α:Type} [Inhabited α] {enc:α→List Value} {k:Nat} (hk:∀x,(enc x).length=k) {w:World} {b off n:Nat} {d d':Array α} {os:Array Obj} {arr:Array Value} {bt:TypeId} (hs:d'.size=d.size)
  (hb:w.heap[b]? =some (.cells arr bt (0,0))) (hfit:off+d.size*k≤arr.size):
  Below w.heap.size (w.dU b (.cells (fZ arr off (d'.toList.flatMap enc)) bt (0,0))) (sortWorldK enc k w b off n d' os):=by
 have hlt:b<w.heap.size:=(Array.getElem?_eq_some_iff.1 hb).1
 have hfl:(d'.toList.flatMap enc).length=d'.size*k:=by
  have:∀l:List α,(l.flatMap enc).length=l.length*k:=by
   intro l
   induction l with
   |nil=>simp
   |cons x l ih=>simp [hk,ih,Nat.add_mul];omega
  rw[this,Array.length_toList]
 have jY:∀(l:List α) (t:Nat),t<l.length*k→(l.flatMap enc)[t]? =some ((enc l.toArray[t / k]!)[t % k]!):=by
  intro l
  induction l with
  |nil=>intro t ht;simp at ht
  |cons x l ih=>
   intro t ht
   have hk0:0<k:=Nat.pos_of_ne_zero fun e=>by subst e;simp at ht
   rw[List.flatMap_cons]
   by_cases h:t<k
   ·rw[List.getElem?_append_left (by rw[hk];exact h),Nat.div_eq_of_lt h,Nat.mod_eq_of_lt h]
    simp [hk,h]
   ·rw[List.getElem?_append_right (by rw[hk];omega),hk,ih (t-k) (by simp [Nat.add_mul]at ht;omega)]
    have e1:t / k=(t-k) / k+1:=by rw[Nat.div_eq_sub_div hk0 (by omega)]
    have e2:t % k=(t-k) % k:=by rw[Nat.mod_eq_sub_mod (by omega)]
    rw[e1,e2]
    simp
 have hcells:putCells id off (flatK enc k d') arr=fZ arr off (d'.toList.flatMap enc):=by
  apply Array.ext_getElem?
  intro j
  rw[Db _ _ _ (by rw[hfl,hs];omega)]
  simp only[putCells,Array.getElem?_mapIdx,size_flatK]
  by_cases hj:off≤j∧j<off+d'.size*k
  ·rw[if_pos (by rw[hfl];exact hj)]
   have hja:j<arr.size:=by rw[hs]at hj;omega
   rw[Array.getElem?_eq_getElem hja,Option.map_some,if_pos hj]
   have:=jY d'.toList (j-off) (by rw[Array.length_toList];omega)
   rw[this]
   simp only[id]
   rw[get_flatK _ _ _ _ (by omega)]
  ·rw[if_neg (by rw[hfl];exact hj)]
   by_cases hja:j<arr.size
   ·rw[Array.getElem?_eq_getElem hja,Option.map_some,if_neg hj]
   ·rw[Array.getElem?_eq_none (by omega),Option.map_none]
 refine⟨rfl,rfl,rfl,?_,fun i hi=>?_⟩
 ·rw[zn]
  simp [sortWorldK,grow,putRowK,putRow,mapBlock,Sort.ahead]
 ·have hi':i<(putRowK enc k (Sort.ahead w n) b off d').heap.size:=by simp [putRowK,putRow,mapBlock,Sort.ahead];exact hi
  show(grow (putRowK enc k (Sort.ahead w n) b off d') os).heap[i]? =_
  unfold grow
  simp only
  rw[Array.getElem?_append_left hi']
  simp only[putRowK,putRow,mapBlock,Sort.ahead]
  rw[Array.getElem?_modify]
  by_cases h:b=i
  ·subst h
   rw[if_pos rfl,uL _ hlt,hb]
   simp only[Option.map_some,onCells,hcells]
  ·rw[if_neg h,xY _ h]
theorem agA {P:Program} {nm:List Nat} {f g:FuncId} {α:Type} [Inhabited α] {sz:Nat} {c:α→List AV} {enc:α→List Value} {cf:α→α→Int} (hsz:0<sz) (hinj:∀x y,c x=c y→x=y) (fR:∀x,(c x).length=sz)
  (Cn:∀cc x,aI cc (c x) (enc x)) (amq:∀cc x vs,aI cc (c x) vs→vs=enc x) (hone:∀x,∀v∈enc x,dI v=true)
  (hf:∀us w,(callFunc f us).run P w=.ok (.enter f us) w) (hnone:∀w,Calls P f #[.slice none 0 0,.func (.func g) #[] #[]] w fun e w'=>e=.returned (.tuple #[])∧Below w.heap.size w w')
  (amj:∀(blk off cap:Nat) (d:Array α) (w:World),HoldsK enc sz w blk off d→blk<w.heap.size→d.size<4611686018427387904→Calls P f #[.slice (some ⟨blk,off,none⟩) d.size cap,.func (.func g) #[] #[]] w fun e w'=>
   e=.returned (.tuple #[])∧∃n os,w'=sortWorldK enc sz w blk off n (pdq (fun x y=>decide (cf x y<0)) d 0 d.size (Lib.bitLen d.size) true true) os)
  (hsize:∀d:Array α,(pdq (fun x y=>decide (cf x y<0)) d 0 d.size (Lib.bitLen d.size) true true).size=d.size)
  {x:AV} {σ:Heap} {r:AV} {σ':Heap} (hm:A.H6 sz c cf x σ=some (r,σ')) {n:Nat} (hn:∀f,nm.getD f 0=n→f=g):mX P nm f [x,.fn n []] σ r σ':=by
 refine .inl ⟨f,hf,fun z vs e1 e2 hh ha=>?_⟩
 obtain⟨v,u,rfl,r1,r2⟩:=Rx ha
 simp only[ak]at r2
 obtain⟨f',us,rfl,k1,k2⟩:=r2
 have hf':f'=g:=hn f' (by rw[←e1];exact k1)
 have TJ:us=#[]:=by simp only[aI]at k2;exact Array.toList_inj.1 k2
 subst hf' TJ
 have hout:Out z z.w z.E:=⟨rfl,rfl,rfl,Nat.le_refl _,fun _ _ _=>rfl,fun i p hp=>.inr ⟨p,hp,rfl⟩,fun i p hp=>⟨p,hp,.inl rfl⟩,e2,fun p hp=>hh.lt hp⟩
 unfold A.H6 at hm
 cases x<;>simp only at hm<;>first|(cases hm;done)|skip
 case au=>
  simp only[Option.some.injEq,Prod.mk.injEq]at hm
  obtain⟨rfl,rfl⟩:=hm
  simp only[ak]at r1;subst r1
  refine(hnone z.w).mono ?_
  rintro e w' ⟨rfl,hb⟩
  exact⟨_,z.E,rfl,hout.grow hb,hh.mono (wg hb) rfl (fun p hp=>hb.block _ (hh.lt hp)),by simp [ak,aI]⟩
 case os=>
  rename_i id gg fO off len
  simp only[ak]at r1
  obtain⟨hg,p,k3,k4,qa,cap,rfl,hcap,rx⟩:=r1
  split at hm
  ·rename_i g' sz' es hs
   split at hm
   ·rename_i hc
    obtain⟨⟨c1,c2,c3,c4,c5,c6⟩,c7⟩:=hc
    subst c1;subst c2;subst c3
    simp only[Option.some.injEq,Prod.mk.injEq]at hm
    obtain⟨rfl,rfl⟩:=hm
    have hl:=Classical.choose_spec c7
    generalize Classical.choose c7=l at hl ⊢
    obtain⟨j1,j2,j3,j4,⟨arr,bt,j5,j6⟩,j7,j8,j9⟩:=hh.blk id p _ k3 hs
    obtain⟨q1,q2,q3⟩:=rx j1.symm
    have xH:qa=⟨p.b,p.base+off*p.sz,none⟩:=q2.resolve_left (by omega)
    have CA:l.length=len:=by
     have:=congrArg List.length hl
     simp at this;omega
    have hmul:(off+len)*fO≤es.length*fO:=Nat.mul_le_mul_right _ c4
    rw[Nat.add_mul]at hmul
    have yY:z.w.heap[p.b]? =some (.cells arr bt (0,0)):=j5
    have hlt:p.b<z.w.heap.size:=(Array.getElem?_eq_some_iff.1 yY).1
    have an2:p.sz=fO:=q1
    have alg:HoldsK enc fO z.w p.b (p.base+off*fO) l.toArray:=by
     intro t ht
     simp only[size_flatK,List.size_toArray]at ht
     rw[get_flatK _ _ _ _ (by simpa using ht)]
     have qU:t / fO<l.length:=by rw[Nat.div_lt_iff_lt_mul hsz];exact ht
     have xG:es[off+t / fO]? =some (c l[t / fO]):=by
      have h1:((es.drop off).take len)[t / fO]? =(l.map c)[t / fO]? :=by rw[hl]
      rw[List.getElem?_take_of_lt (by omega),List.getElem?_drop,List.getElem?_map,List.getElem?_eq_getElem qU]at h1
      exact h1
     obtain⟨_,m2⟩:=bA.nth j8 xG
     obtain⟨vs,m3,m4,m5⟩:=m2.JF
     have m6:=amq _ _ _ m3
     subst m6
     have hmod:t % fO<(enc l[t / fO]).length:=by rw[←(Cn (ctx z z.w z.E cK) _).length,fR];exact Nat.mod_lt _ hsz
     have m7:=m5 (t % fO) _ (List.getElem?_eq_getElem hmod)
     have e:p.base+(off+t / fO)*fO+t % fO=p.base+off*fO+t:=by
      have:=Nat.div_add_mod t fO
      rw[Nat.add_mul,Nat.mul_comm (t / fO)];omega
     rw[e]at m7
     refine⟨?_,by simp [World.frozen?,yY]⟩
     rw[show z.w.cell? ⟨p.b,p.base+off*fO+t,none⟩=_ from m7]
     simp [qU,hmod]
    have DI:=amj p.b (p.base+off*fO) cap l.toArray z.w alg hlt (by simpa [CA]using c6)
    rw[xH,an2]
    simp only[List.size_toArray,CA]at DI
    refine DI.mono ?_
    rintro e w' ⟨rfl,nn,os,rfl⟩
    have hd':=hsize l.toArray
    simp only[List.size_toArray,CA]at hd'
    generalize pZ:pdq (fun x y=>decide (cf x y<0)) l.toArray 0 len (Lib.bitLen len) true true=d' at hd' ⊢
    have hsw:=aeE (enc:=enc) (k:=fO) (fun x=>by rw[←(Cn (ctx z z.w z.E cK) x).length,fR]) (w:=z.w) (b:=p.b) (off:=p.base+off*fO) (n:=nn) (d:=l.toArray) (d':=d') (os:=os) (by rw[hd'];simp [CA]) yY (by simp [CA];rw[j6];omega)
    have an7:St ⟨P,nm,fun _ _ _=>none,fun _ _ _=>none,[],[],0,[]⟩ z ⟨[],fun _=>none,σ⟩ {tmps:=#[],defers:=[]} z.w z.E cK:=
     ⟨rfl,rfl,fun i av hi=>by simp at hi,fun i cs hi=>by simp at hi,fun t p hp=>(by cases hp),fun i b hb=>(by cases hb),fun i j b hb=>(by cases hb),hh,rfl,hout,e1.symm⟩
    have hnl:(d'.toList.map c).length=len:=by rw[List.length_map,Array.length_toList,hd']
    obtain⟨_,hst⟩:=Ls an7 (i:=off) (ys:=d'.toList.map c) (news:=d'.toList.flatMap enc) k3 hs j5 (by rw[hnl];exact c4) (by
      generalize d'.toList=l'
      induction l' with
      |nil=>simp [aI]
      |cons x l' ih=>simp only[List.map_cons,List.flatten_cons,List.flatMap_cons];exact(Cn _ x).append ih)
     (fun x hx=>by obtain⟨y,_,hy⟩:=List.mem_flatMap.1 hx;exact hone y x hy) (fun y hy=>by obtain⟨x,_,rfl⟩:=List.mem_map.1 hy;exact fR x)
     (by
      have:∀l:List α,(l.flatMap enc).length=l.length*fO:=by
       intro l
       induction l with
       |nil=>simp
       |cons x l ih=>simp only[List.flatMap_cons,List.length_append,ih,←(Cn (ctx z z.w z.E cK) x).length,fR,List.length_cons,Nat.add_mul];omega
      rw[this,List.length_map])
    have wW:=hst.grow (w':=sortWorldK enc fO z.w p.b (p.base+off*fO) nn d' os) (by rw[zn];exact hsw)
    refine⟨_,z.E,rfl,wW.out,?_,by simp [ak,aI]⟩
    have hpd:tZ cf l=d'.toList:=by unfold tZ;rw[CA,pZ]
    rw[hnl]at wW
    rw[hpd]
    exact wW.heap
   ·cases hm
  ·cases hm
def we (x:bh):List Value:=[.int .i64 x.key.unit,.string x.key.param,.int .i64 x.value.level,.int .i64 x.value.gf,.int .i64 x.bQ]
theorem Qg {W:World} {o1 o2:Obj}:∃q os',(W.alloc o1).alloc o2=grow (W.drewN q) os':=⟨0,_,by rw[alloc_eq_grow,alloc_eq_grow,grow_grow];rfl⟩
theorem aha {W:World} {o1 o2:Obj} {q:Nat} {os:Array Obj}:∃q' os',grow (((W.alloc o1).alloc o2).drewN q) os=grow (W.drewN q') os':=⟨q,_,by rw[alloc_eq_grow,alloc_eq_grow,grow_grow];show grow (grow (W.drewN q) _) os=_;rw[grow_grow]⟩
theorem aee (a b:aB) (W:World):Calls Tryz.prog 203 #[.agg #[.int .i64 a.unit,.string a.param],.agg #[.int .i64 b.unit,.string b.param]] W fun e w'=>e=.returned (.int .i64 (qw a b))∧∃q os',w'=grow (W.drewN q) os':=by
 have DI:=fun(x y:ByteArray) W'=>Tryz.strings_Compare x y W'
 go_enter Tryz.func203,Tryz.ntmps203
 go_wp2_with (go_at_call 61;refine(DI _ _ _).mono ?_;rintro e w' ⟨rfl,rfl⟩)
 ·go_ret
  have h1:a.unit≠b.unit:=by omega
  exact⟨by rw[qw,if_pos h1,if_pos (by omega)];rfl,Qg⟩
 ·go_ret
  have h1:a.unit≠b.unit:=by simpa using ‹(a.unit !=b.unit)=true›
  exact⟨by rw[qw,if_pos h1,if_neg (by omega)];rfl,Qg⟩
 ·go_ret
  have h1:a.unit=b.unit:=by first|simpa using ‹(a.unit !=b.unit)=false›|simpa using ‹¬(a.unit !=b.unit)=true›|omega
  exact⟨by rw[qw,if_neg (by simpa using h1)];rfl,Qg⟩
theorem ahD (cc:RC) (x:bh):aI cc (cI x) (we x):=by
 obtain⟨⟨a,b⟩,⟨p,q⟩,r⟩:=x
 simp [cI,we,aI,ak]
theorem agE (cc:RC) (x:bh) (vs:List Value) (e:aI cc (cI x) vs):vs=we x:=by
 obtain⟨⟨a,b⟩,⟨p,q⟩,r⟩:=x
 simpa [cI,we,aI,ak]using e
theorem WU (x:bh) (v:Value) (h:v∈we x):dI v=true∧v.oneCell'=true:=by
 simp [we]at h
 rcases h with rfl|rfl|rfl|rfl|rfl<;>exact⟨rfl,rfl⟩
theorem aiP {α:Type} [Inhabited α] {cf:α→α→Int} (hS:SWO (fun x y=>decide (cf x y<0))) (d:Array α):(pdq (fun x y=>decide (cf x y<0)) d 0 d.size (Lib.bitLen d.size) true true).size=d.size:=
 (pdq_sorts (fun x y=>decide (cf x y<0)) hS d 0 d.size (Lib.bitLen d.size) true true (Nat.zero_le _) (Nat.le_refl _) (Or.inl rfl)).1.1
theorem ad7 (a b:bh) (W:World):Calls Tryz.prog 202 #[.agg (we a).toArray,.agg (we b).toArray] W fun e w'=>e=.returned (.int .i64 (qw a.key b.key))∧∃q os',w'=grow (W.drewN q) os':=by
 have DI:=fun W'=>aee a.key b.key W'
 unfold we
 generalize qw a.key b.key=r at DI ⊢
 go_enter Tryz.func202,Tryz.ntmps202
 go_wp2_with (go_at_call 203;refine(DI _).mono ?_;rintro e w' ⟨rfl,q,os',rfl⟩)
 go_ret
 exact⟨rfl,aha⟩
theorem abl:Sound Tryz.prog aF 201 GI:=by
 intro args σ r σ' h
 unfold GI A.cR at h
 split at h
 ·rename_i x f aC
  simp only at h
  split at h
  ·have eg:∀args w,(callFunc 202 args).run Tryz.prog w=.ok (.enter 202 args) w:=Tryz.call202
   refine @agA Tryz.prog aF 201 202 bh ⟨⟨⟨0,⟨#[]⟩⟩,⟨0,0⟩,0⟩⟩ 5 cI we (fun a b=>qw a.key b.key) (by decide) (fun x y e=>?_) (fun _=>rfl) (fun cc x=>?_) (fun cc x vs e=>?_) (fun x v hv=>?_) Tryz.call201 (fun w=>?_) (fun blk off cap d w hH hb hd=>?_) (fun d=>?_) _ _ _ _ h _ (fun f hf=>ZH (by kernel_rfl) rfl hf)
   ·exact VM x y e
   ·exact ahD cc x
   ·exact agE cc x vs e
   ·exact(WU x v hv).1
   ·exact(AnyF.slices_SortFunc_none (P:=Tryz.prog) {Tryz.sort201 with} none 0 _ w).mono fun e w' ⟨h1,h2⟩=>⟨h1,h2▸Below.refl _ _⟩
   ·exact AnyQ.slices_SortFunc_eq Tryz.sort201 5 Tryz.isAgg221 Tryz.sizeOf221 we (fun _=>rfl) (fun x v hv=>(WU x v hv).2) (fun a b=>qw a.key b.key) (FF fun e:bh=>e.key) 202 #[] blk off cap d w eg (fun _ _ _ _ x y=>ad7 x y _) hH hb hd
   ·exact aiP (FF fun e:bh=>e.key) d
  ·cases h
 ·cases h
end
section
set_option maxRecDepth 100000
theorem ags:Sound Tryz.prog aF 260 Pv:=q1 [] 35 (.s .n (.s (.s .n (.b (.l [2,7] [.exit 0,.ret] (.s .n (.s dN (.s (.b (.s .n (.s .n bz))) .n)))))) aT)) aD.nil Tryz.func260 Tryz.call260 (fun a0 σ=>by kernel_rfl) rfl rfl
theorem Pf:Sound Tryz.prog aF 240 E5:=q1 [] 20 (.s .n aT) (aD.cons ags aD.nil) Tryz.func240 Tryz.call240 (fun a0 σ=>by kernel_rfl) rfl rfl
theorem rB:Sound Tryz.prog aF 89 jC:=q3 [] 15 (.s .n aT) aD.nil Tryz.func89 Tryz.call89 (fun a0 a1 a2 σ=>by kernel_rfl) rfl rfl
theorem UB:Sound Tryz.prog aF 241 GN:=q1 [] 5 (.s .n aT) (aD.cons rB aD.nil) Tryz.func241 Tryz.call241 (fun a0 σ=>by kernel_rfl) rfl rfl
theorem acz:Sound Tryz.prog aF 242 NS:=q1 [5] 63 (.s .n (.s bz (.s .n (.s (.s .n (.b (.l [2,12] [.exit 0,.ret] (.s .n (.s dN (.s (.b (.s .n (.s (.b (.s .n (.j aT (.s .n (.j aT (.s .n (.j aT bz))))))) .n))) .n)))))) aT)))) (aD.cons UB (aD.cons Pf aD.nil)) Tryz.func242 Tryz.call242 (fun a0 σ=>by kernel_rfl) rfl rfl
theorem acu:Sound Tryz.prog aF 198 NN:=q1 [1,6] 115 (.s .n (.s (.b (.s .n (.j aT (.s .n (.j aT (.s .n (.j aT bz))))))) (.s .n (.s (.s .n (.b (.l [1,2,33] [.exit 1,.ret] (.s .n (.s dN (.s (.b (.s .n (.s (.b (.s .n (.j aT (.s .n (.j aT (.s .n (.j aT (.s .n (.j aT bz))))))))) (.s (.s .n bz) (.s .n (.s .n (.c [1] .n .n))))))) .n)))))) aT)))) (aD.cons Pf (aD.cons rB (aD.cons UB (aD.cons acz aD.nil)))) Tryz.func198 Tryz.call198 (fun a0 σ=>by kernel_rfl) rfl rfl
theorem acs:Sound Tryz.prog aF 153 NM:=q1 [5] 30 (.s .n (.s bz (.s .n (.s (.s .n (.b (.l [2,13] [.exit 0,.ret] (.s .n (.s dN (.s (.b (.s .n (.s (.s .n bz) (.s bz .n)))) .n)))))) aT)))) (aD.cons acu aD.nil) Tryz.func153 Tryz.call153 (fun a0 σ=>by kernel_rfl) rfl rfl
noncomputable def abE (dyn:Nat→List AV→Heap→Option (AV×Heap)):Fx:=⟨Tryz.prog,aF,A.tab (fun _ _=>none) [],dyn,[],[],19,[]⟩
theorem abD (dyn:Nat→List AV→Heap→Option (AV×Heap)) (hd:∀f,Sound Tryz.prog aF f (dyn (aF.getD f 0))):Sound Tryz.prog aF 156 (A.wrap true [(.s 3)] .k (A.cR (JX dyn))):=
 Sound.wrap (Sound.qL (X:=abE dyn) (fn:=Tryz.f156) (bN:=(.s .n (.s (.s .n (.b (.l [4,8] [.exit 0,.ret] (.s .n (.s dN (.s (.b (.s .n bz)) .n)))))) aT))) .F trivial (dJ.of rfl aD.nil (hd)) Tryz.func156 Tryz.call156 (fun a0 a1 σ=>by kernel_rfl)) _ _ _ rfl rfl
theorem abC (dyn:Nat→List AV→Heap→Option (AV×Heap)) (hd:∀f,Sound Tryz.prog aF f (dyn (aF.getD f 0))):Sound Tryz.prog aF 156 (JW dyn):=abD dyn hd
theorem Um:Sound Tryz.prog aF 157 GK:=q2 [2] 8 (.s .n aT) aD.nil Tryz.func157 Tryz.call157 (fun a0 a1 σ=>by kernel_rfl) rfl rfl
noncomputable def acZ:Fx:=⟨Tryz.prog,aF,A.tab (fun _ _=>none) [(156,JW (A.tab (fun _ _=>none) [(64,GK)]))],(A.tab (fun _ _=>none) [(64,GK)]),[4],[],17,[]⟩
theorem acX:Sound Tryz.prog aF 99 (A.wrap true [(.s 3)] (.t [(.a Dq),.k]) (A.cR (Kl))):=
 Sound.wrap (Sound.qL (X:=acZ) (fn:=Tryz.f99) (bN:=(.s .n (.s .n (.s bz aT)))) .F trivial (dJ.of rfl (aD.cons (abC _ (sO (jj.cons (oN Um (by kernel_rfl) rfl) jj.nil))) aD.nil) (sO (jj.cons (oN Um (by kernel_rfl) rfl) jj.nil))) Tryz.func99 Tryz.call99 (fun a0 a1 σ=>by kernel_rfl)) _ _ _ rfl rfl
theorem UC:Sound Tryz.prog aF 99 Kh:=acX
theorem acA:Sound Tryz.prog aF 154 EJ:=q3 [] 32 (.s .n (.s bz (.s (.s .n (.b (.l [6,7] [.exit 0,.ret] (.s (.s .n dN) (.s (.b bz) .n))))) aT))) aD.nil Tryz.func154 Tryz.call154 (fun a0 a1 a2 σ=>by kernel_rfl) rfl rfl
noncomputable def adN:Fx:=⟨Tryz.prog,aF,A.tab (fun _ _=>none) [],(fun _ _ _=>none),[4],[15],33,[]⟩
theorem adL:Sound Tryz.prog aF 155 (A.wrap false [] .k (A.lG (GX))):=
 Sound.wrap (Sound.MW (X:=adN) (fn:=Tryz.f155) (bN:=(.s .n (.s (.s .n (.c [4] .n .n)) (.s .n (.b (.l [4,6] [.exit 0] (.s (.s .n dN) (.s (.b .n) .n)))))))) .K trivial (dJ.of rfl aD.nil (fun _=>Sound.none)) Tryz.func155 Tryz.call155 (fun a0 a1 a2 σ=>by kernel_rfl)) _ _ _ rfl rfl
theorem adH:Sound Tryz.prog aF 155 Ko:=adL
theorem Uv:Sound Tryz.prog aF 98 J9:=q1 [1,6,7] 91 (.s .n (.s (.s .n bz) (.s bz (.s .n (.s (.s .n (.b (.l [1,2,23] [.exit 0,.ret] (.s .n (.s dN (.s (.b (.s .n (.s bz (.s bz (.s .n (.s bz (.s bz (.s bz .n)))))))) .n)))))) aT))))) (aD.cons acs (aD.cons rB (aD.cons UC (aD.cons acA (aD.cons adH aD.nil))))) Tryz.func98 Tryz.call98 (fun a0 σ=>by kernel_rfl) rfl rfl
theorem Bq:Sound Tryz.prog aF 41 rD:=q2 [] 7 (.s .n (.s bz aT)) aD.nil Tryz.func41 Tryz.call41 (fun a0 a1 σ=>by kernel_rfl) rfl rfl
theorem E0:Sound Tryz.prog aF 40 ya:=q1 [] 15 (.s .n (.s (.s .n (.b (.l [2,7] [.exit 0,.ret] (.s .n (.s dN (.s (.b (.s .n bz)) .n)))))) aT)) aD.nil Tryz.func40 Tryz.call40 (fun a0 σ=>by kernel_rfl) rfl rfl
theorem OC:Sound Tryz.prog aF 38 ET:=q1 [1,7,8,11] 50 (.s .n (.s (.s .n bz) (.s .n (.s (.s .n (.b (.l [1,5,20] [.exit 0] (.s .n (.s dN (.s (.b (.s .n (.s .n (.s .n (.b (.l [1,5,7,35] [.exit 2] (.s .n (.s dN (.s (.b aT) .n))))))))) .n)))))) aT)))) (aD.cons Uv (aD.cons UC aD.nil)) Tryz.func38 Tryz.call38 (fun a0 σ=>by kernel_rfl) rfl rfl
theorem afl:Sound Tryz.prog aF 147 O2:=q1 [1,7] 24 (.s .n (.s .n (.s .n (.s (.s .n (.b (.l [16] [.exit 0] (.s .n (.s dN (.s (.b aT) .n)))))) aT)))) (aD.cons OC aD.nil) Tryz.func147 Tryz.call147 (fun a0 σ=>by kernel_rfl) rfl rfl
theorem Vg:Sound Tryz.prog aF 194 Kz:=q1 [] 40 (.s .n (.s (.s .n (.b (.l [2,6] [.exit 0,.ret] (.s .n (.s dN (.s (.b (.s .n bz)) .n)))))) aT)) aD.nil Tryz.func194 Tryz.call194 (fun a0 σ=>by kernel_rfl) rfl rfl
theorem aeA:Sound Tryz.prog aF 148 OL:=q1 [] 9 (.s .n aT) (aD.cons Vg aD.nil) Tryz.func148 Tryz.call148 (fun a0 σ=>by kernel_rfl) rfl rfl
theorem UW:Sound Tryz.prog aF 149 Kq:=q1 [] 5 (.s .n aT) (aD.cons rB aD.nil) Tryz.func149 Tryz.call149 (fun a0 σ=>by kernel_rfl) rfl rfl
theorem ad5:Sound Tryz.prog aF 150 OD:=q2 [2,3] 21 (.s .n (.s bz aT)) (aD.cons UE aD.nil) Tryz.func150 Tryz.call150 (fun a0 a1 σ=>by kernel_rfl) rfl rfl
theorem Ut:Sound Tryz.prog aF 88 J8:=q2 [2,8,10] 97 (.s .n (.s (.s .n bz) (.s .n (.s (.s .n (.b (.l [4,26] [.exit 0,.ret] (.s .n (.s dN (.s (.b (.s .n (.s (.b (.s .n (.j aT (.s .n (.j aT (.s .n (.j aT bz))))))) (.s .n (.b (.l [4,8,63] [.exit 3,.ret] (.s .n (.s dN (.s (.b (.s .n (.b (.s .n (.j aT (.s .n (.j aT bz))))))) .n))))))))) .n)))))) aT)))) (aD.cons Uv (aD.cons Bq (aD.cons E0 (aD.cons afl (aD.cons rB (aD.cons aeA (aD.cons UW (aD.cons ad5 aD.nil)))))))) Tryz.func88 Tryz.call88 (fun a0 a1 σ=>by kernel_rfl) rfl rfl
theorem Ve:Sound Tryz.prog aF 195 Bn:=q1 [] 5 (.s .n aT) (aD.cons rB aD.nil) Tryz.func195 Tryz.call195 (fun a0 σ=>by kernel_rfl) rfl rfl
theorem Uw:Sound Tryz.prog aF 196 Ka:=q1 [1,5] 90 (.s .n (.s bz (.s .n (.s bz (.s bz (.s bz (.s (.s .n (.b (.l [2,28] [.exit 0,.ret] (.s .n (.s dN (.s (.b (.s .n bz)) .n)))))) (.s bz (.s (.s .n (.b (.l [2,6] [.exit 2,.ret] (.s (.s .n dN) (.s (.b bz) .n))))) aT))))))))) (aD.cons rB (aD.cons Bq aD.nil)) Tryz.func196 Tryz.call196 (fun a0 σ=>by kernel_rfl) rfl rfl
theorem U2:Sound Tryz.prog aF 203 Ku:=q2 [2,3] 20 (.s .n (.s (.s .n (.j (.s bz aT) .n)) aT)) (aD.cons UE aD.nil) Tryz.func203 Tryz.call203 (fun a0 a1 σ=>by kernel_rfl) rfl rfl
theorem ac2:Sound Tryz.prog aF 197 Oc:=q1 [4] 99 (.s .n (.s (.s .n (.b (.l [2,7] [.exit 0,.ret] (.s .n (.s dN (.s (.b (.s .n (.b (.s .n (.j aT (.s .n (.j aT (.s .n (.j aT (.s .n (.j aT (.s .n (.j aT (.s .n (.j aT bz))))))))))))))) .n)))))) aT)) (aD.cons rB (aD.cons Pf (aD.cons Ve (aD.cons U2 aD.nil)))) Tryz.func197 Tryz.call197 (fun a0 σ=>by kernel_rfl) rfl rfl
theorem Wd:Sound Tryz.prog aF 151 Hh:=q1 [5] 101 (.s .n (.s bz (.s .n (.s (.s .n (.b (.l [2,3,13] [.exit 0,.ret] (.s .n (.s dN (.s (.b (.s .n (.s (.b (.s .n (.j aT (.s .n (.j aT (.s .n (.j aT bz))))))) (.s (.s .n bz) (.s bz (.s (.s .n bz) .n)))))) .n)))))) aT)))) (aD.cons rB (aD.cons Vg (aD.cons Ve (aD.cons Uw (aD.cons ac2 (aD.cons Bq aD.nil)))))) Tryz.func151 Tryz.call151 (fun a0 σ=>by kernel_rfl) rfl rfl
theorem Vf:Sound Tryz.prog aF 152 CW:=q3 [4,5,9,11] 55 (.s .n (.s bz (.s bz (.s bz (.s (.s .n (.b (.l [4,5,6,7,31] [.exit 0,.ret] (.s .n (.s dN (.s (.b (.s .n (.s (.s .n dN) (.s (.s .n (.b (.l [4,6,7,43] [.exit 2,.ret] (.s .n (.s dN (.s (.b (.s .n bz)) .n)))))) .n)))) .n)))))) aT))))) (aD.cons UW aD.nil) Tryz.func152 Tryz.call152 (fun a0 a1 a2 σ=>by kernel_rfl) rfl rfl
theorem adk:Sound Tryz.prog aF 90 Oi:=q3 [3,12,14,16] 76 (.s .n (.s (.s .n bz) (.s .n (.s .n (.s (.s .n (.b (.l [37] [.exit 0] (.s .n (.s dN (.s (.b aT) .n)))))) (.s (.s .n (.b (.l [6,46] [.exit 2,.ret] (.s .n (.s dN (.s (.b (.s .n (.s .n (.b (.l [6,53] [.exit 4,.ret] (.s .n (.s dN (.s (.b (.s .n (.s bz (.s .n bz)))) .n)))))))) .n)))))) aT)))))) (aD.cons Ut (aD.cons Wd (aD.cons E0 (aD.cons OC (aD.cons Vf aD.nil))))) Tryz.func90 Tryz.call90 (fun a0 a1 a2 σ=>by kernel_rfl) rfl rfl
noncomputable def abQ (dyn:Nat→List AV→Heap→Option (AV×Heap)):Fx:=⟨Tryz.prog,aF,A.tab (fun _ _=>none) [],dyn,[],[],19,[]⟩
theorem abN (dyn:Nat→List AV→Heap→Option (AV×Heap)) (hd:∀f,Sound Tryz.prog aF f (dyn (aF.getD f 0))):Sound Tryz.prog aF 100 (A.wrap true [(.s 2)] .k (A.cR (J3 dyn))):=
 Sound.wrap (Sound.qL (X:=abQ dyn) (fn:=Tryz.f100) (bN:=(.s .n (.s (.s .n (.b (.l [4,8] [.exit 0,.ret] (.s .n (.s dN (.s (.b (.s .n bz)) .n)))))) aT))) .F trivial (dJ.of rfl aD.nil (hd)) Tryz.func100 Tryz.call100 (fun a0 a1 σ=>by kernel_rfl)) _ _ _ rfl rfl
theorem abK (dyn:Nat→List AV→Heap→Option (AV×Heap)) (hd:∀f,Sound Tryz.prog aF f (dyn (aF.getD f 0))):Sound Tryz.prog aF 100 (JZ dyn):=abN dyn hd
theorem UP:Sound Tryz.prog aF 101 GS:=q2 [2] 8 (.s .n aT) aD.nil Tryz.func101 Tryz.call101 (fun a0 a1 σ=>by kernel_rfl) rfl rfl
noncomputable def afu:Fx:=⟨Tryz.prog,aF,A.tab (fun _ _=>none) [(100,JZ (A.tab (fun _ _=>none) [(127,GS)]))],(A.tab (fun _ _=>none) [(127,GS)]),[2,4],[],19,[]⟩
theorem afr:Sound Tryz.prog aF 39 (A.wrap true [zW] (.t [(.a [.k,(.e 11 uk)]),.k]) (A.cR (KN))):=
 Sound.wrap (Sound.qL (X:=afu) (fn:=Tryz.f39) (bN:=(.s .n (.s .n (.s bz aT)))) .F trivial (dJ.of rfl (aD.cons (abK _ (sO (jj.cons (oN UP (by kernel_rfl) rfl) jj.nil))) aD.nil) (sO (jj.cons (oN UP (by kernel_rfl) rfl) jj.nil))) Tryz.func39 Tryz.call39 (fun a0 a1 σ=>by kernel_rfl)) _ _ _ rfl rfl
theorem VE:Sound Tryz.prog aF 39 Bp:=afr
theorem acV:Sound Tryz.prog aF 36 Kj:=q1 [1,5,8,9] 107 (.s .n (.s (.s .n bz) (.s (.s .n (.b (.l [1,2,29] [.exit 0,.ret] (.s .n (.s dN (.s (.b (.s .n (.s bz (.s bz (.s .n bz))))) .n)))))) (.s bz (.s (.s .n (.b (.l [1,2,70] [.exit 2,.ret] (.s .n (.s dN (.s (.b (.s .n (.s bz (.s bz (.s (.s .n bz) bz))))) .n)))))) aT))))) (aD.cons Ut (aD.cons Bq (aD.cons E0 (aD.cons rB (aD.cons adk (aD.cons VE aD.nil)))))) Tryz.func36 Tryz.call36 (fun a0 σ=>by kernel_rfl) rfl rfl
noncomputable def abP:Fx:=⟨Tryz.prog,aF,A.tab (fun _ _=>none) [],(fun _ _ _=>none),[],[],8,[]⟩
theorem abM:Sound Tryz.prog aF 91 (A.wrap true [(.s 3)] .k (A.cD (NC))):=
 Sound.wrap (Sound.uc (X:=abP) (fn:=Tryz.f91) (bN:=(.s .n (.s bz aT))) .K trivial (dJ.of rfl aD.nil (fun _=>Sound.none)) Tryz.func91 Tryz.call91 (fun a0 σ=>by kernel_rfl)) _ _ _ rfl rfl
theorem abJ:Sound Tryz.prog aF 91 NB:=yc abM Tryz.call91 aeK
noncomputable def acq:Fx:=⟨Tryz.prog,aF,A.tab (fun _ _=>none) [],(fun _ _ _=>none),[],[],8,[]⟩
theorem aco:Sound Tryz.prog aF 92 (A.wrap true [(.s 4)] .k (A.cD (NL))):=
 Sound.wrap (Sound.uc (X:=acq) (fn:=Tryz.f92) (bN:=(.s .n (.s bz aT))) .K trivial (dJ.of rfl aD.nil (fun _=>Sound.none)) Tryz.func92 Tryz.call92 (fun a0 σ=>by kernel_rfl)) _ _ _ rfl rfl
theorem acm:Sound Tryz.prog aF 92 NJ:=yc aco Tryz.call92 ajA
noncomputable def ach:Fx:=⟨Tryz.prog,aF,A.tab (fun _ _=>none) [],(fun _ _ _=>none),[],[],8,[]⟩
theorem ace:Sound Tryz.prog aF 93 (A.wrap true [(.s 7)] .k (A.cD (Uj))):=
 Sound.wrap (Sound.uc (X:=ach) (fn:=Tryz.f93) (bN:=(.s .n (.s bz aT))) .K trivial (dJ.of rfl aD.nil (fun _=>Sound.none)) Tryz.func93 Tryz.call93 (fun a0 σ=>by kernel_rfl)) _ _ _ rfl rfl
theorem ab8:Sound Tryz.prog aF 93 EI:=yc ace Tryz.call93 ah7
noncomputable def acj:Fx:=⟨Tryz.prog,aF,A.tab (fun _ _=>none) [],(fun _ _ _=>none),[],[],8,[]⟩
theorem acg:Sound Tryz.prog aF 94 (A.wrap true [(.s 3)] .k (A.cD (NI))):=
 Sound.wrap (Sound.uc (X:=acj) (fn:=Tryz.f94) (bN:=(.s .n (.s bz aT))) .K trivial (dJ.of rfl aD.nil (fun _=>Sound.none)) Tryz.func94 Tryz.call94 (fun a0 σ=>by kernel_rfl)) _ _ _ rfl rfl
theorem acd:Sound Tryz.prog aF 94 CI:=yc acg Tryz.call94 ah9
noncomputable def abX:Fx:=⟨Tryz.prog,aF,A.tab (fun _ _=>none) [],(fun _ _ _=>none),[],[],8,[]⟩
theorem abV:Sound Tryz.prog aF 95 (A.wrap true [(.s 3)] .k (A.cD (ND))):=
 Sound.wrap (Sound.uc (X:=abX) (fn:=Tryz.f95) (bN:=(.s .n (.s bz aT))) .K trivial (dJ.of rfl aD.nil (fun _=>Sound.none)) Tryz.func95 Tryz.call95 (fun a0 σ=>by kernel_rfl)) _ _ _ rfl rfl
theorem abS:Sound Tryz.prog aF 95 EF:=yc abV Tryz.call95 afG
noncomputable def acy:Fx:=⟨Tryz.prog,aF,A.tab (fun _ _=>none) [],(fun _ _ _=>none),[],[],8,[]⟩
theorem acw:Sound Tryz.prog aF 96 (A.wrap true [(.s 11)] .k (A.cD (Uk))):=
 Sound.wrap (Sound.uc (X:=acy) (fn:=Tryz.f96) (bN:=(.s .n (.s bz aT))) .K trivial (dJ.of rfl aD.nil (fun _=>Sound.none)) Tryz.func96 Tryz.call96 (fun a0 σ=>by kernel_rfl)) _ _ _ rfl rfl
theorem acv:Sound Tryz.prog aF 96 CK:=yc acw Tryz.call96 ak7
noncomputable def acp:Fx:=⟨Tryz.prog,aF,A.tab (fun _ _=>none) [],(fun _ _ _=>none),[],[],8,[]⟩
theorem acn:Sound Tryz.prog aF 97 (A.wrap true [(.s 8)] .k (A.cD (NK))):=
 Sound.wrap (Sound.uc (X:=acp) (fn:=Tryz.f97) (bN:=(.s .n (.s bz aT))) .K trivial (dJ.of rfl aD.nil (fun _=>Sound.none)) Tryz.func97 Tryz.call97 (fun a0 σ=>by kernel_rfl)) _ _ _ rfl rfl
theorem ack:Sound Tryz.prog aF 97 CJ:=yc acn Tryz.call97 ajz
end
end Go.Proofs.YtooknfkholjpbaaGreat
