/- Parts of the proof of PlayReplaysComeBack, in order. -/
import Derived.Orders
import Derived.Below
import Derived.WalkKit
import Derived.Laws.StructEq
import Derived.Laws.Append
import Derived.Laws.AppendOwn
import Derived.Test.YtooknfkholjpbaaGreatRows
import Derived.KernelRfl
import Derived.Lib.Bytealg
import Derived.Sort.Defs
import Derived.Lib.BitFns
import Derived.Test.YtooknfkholjpbaaGreatShelf
import Derived.Laws.Externs
import Derived.Lib.Overlaps
import Derived.IntWalk
import Derived.Sort.Statements
import Derived.Shelf.SlSortCmp.WholeK
import Derived.Shelf.SlSortCmp.NoneTotal
import Derived.Sort.AssemblyPlain
import Derived.Test.YtooknfkholjpbaaGreatKPlayReplaysComeBack2
namespace Go.Proofs.YtooknfkholjpbaaGreat
set_option linter.unusedVariables false
set_option linter.unusedSimpArgs false
set_option linter.unusedSectionVars false
section
set_option maxRecDepth 100000
noncomputable def N8 (a0:AV) (σ:Heap):Option (AV×Heap):=
 (jE [a0,ah,(AV.int .i64 65535)] σ).bind fun r1=>
 A.fin σ r1.1 r1.2
noncomputable def GS:List AV→Heap→Option (AV×Heap):=A.wrap true [] .k (A.cK N8)
noncomputable def NV (a0:AV) (σ:Heap):Option (AV×Heap):=
 (A.bJ a0).bind fun x1=>
 (A.gtr x1 (AV.int .i64 30)).bind fun x2=>
 A.cond x2 (
  A.fin σ (AV.int .i64 2) σ) (
  (A.bJ a0).bind fun x3=>
  (A.loop (fun v4 s5=>
    (A.lss (v4.getD 1 AV.undef) x3).bind fun x7=>
    A.cond x7 (
     (A.aT 3 a0 (v4.getD 1 AV.undef)).bind fun x8=>
     ((A.deref x8 s5).bind fun c9=>A.ay 0 3 c9).bind fun bG=>
     (A.cells 3 bG).bind fun gm=>
     (A.splice 0 gm [ah,ah,br]).bind fun ep=>
     (A.aj 0 ep).bind fun dG=>
     (GS [dG] s5).bind fun i6=>
     (A.not i6.1).bind fun dg=>
     (A.guard dg false (A.aj 1 ep) an).bind fun cG=>
     (A.guard dg false (A.quiet (GS [cG] i6.2) i6.2) an).bind fun cB=>
     (A.guard dg false (A.not cB) an).bind fun bM=>
     (A.pick dg cI bM).bind fun cC=>
     (A.guard cC false (A.aj 0 ep) an).bind fun cR=>
     (A.guard cC false (A.aj 1 ep) an).bind fun bO=>
     (A.guard cC false (A.gtr cR bO) an).bind fun dh=>
     (A.pick cC cI dh).bind fun eP=>
     A.cond eP (
      some (AX.ret,[aH,(v4.getD 1 AV.undef)],i6.2)) (
      (A.gtr (v4.getD 1 AV.undef) ah).bind fun x24=>
      (A.guard x24 true (A.aj 0 ep) an).bind fun x25=>
      (A.guard x24 true (some a0) an).bind fun fA=>
      (A.guard x24 true (some (v4.getD 1 AV.undef)) an).bind fun dL=>
      (A.guard x24 true (A.sub dL aH) an).bind fun x28=>
      (A.guard x24 true (A.aT 3 fA x28) an).bind fun x29=>
      (A.guard x24 true (A.aA 1 x29) an).bind fun cL=>
      (A.guard x24 true ((A.deref cL i6.2).bind fun vD=>A.aj 0 vD) an).bind fun x32=>
      (A.guard x24 true (A.leq x25 x32) an).bind fun eB=>
      (A.pick x24 eB aM).bind fun x34=>
      A.cond x34 (
       some (AX.ret,[(AV.int .i64 7),(v4.getD 1 AV.undef)],i6.2)) (
       (A.aj 2 ep).bind fun fJ=>
       (E6 [fJ] i6.2).bind fun Jz=>
       (A.not Jz.1).bind fun bQ=>
       A.cond bQ (
        some (AX.ret,[(AV.int .i64 5),(v4.getD 1 AV.undef)],Jz.2)) (
        (A.aj 2 ep).bind fun x38=>
        (A.look .z (AV.om σ.length) x38 aM Jz.2).bind fun eY=>
        A.cond eY (
         some (AX.ret,[(AV.int .i64 6),(v4.getD 1 AV.undef)],Jz.2)) (
         (A.aj 2 ep).bind fun dc=>
         (A.eA .z (AV.om σ.length) dc cI Jz.2).bind fun h41=>
         (A.add (v4.getD 1 AV.undef) aH).bind fun gA=>
         some (AX.normal,[(v4.getD 0 AV.undef),gA],h41)))))) (
     some (AX.exit 0,[(v4.getD 0 AV.undef),(v4.getD 1 AV.undef)],s5))) [ah,ah] (σ++[aJ.map []])).bind fun iP=>
  bif iP.1==AX.exit 0 then(
   A.fin σ ah iP.2.2)else
  bif iP.1==AX.ret then(
   A.fin σ (iP.2.1.getD 0 AV.undef) iP.2.2)else
  none)
noncomputable def NU:List AV→Heap→Option (AV×Heap):=A.wrap true [(.s 3)] .k (A.cK NV)
noncomputable def NR (a0:AV) (σ:Heap):Option (AV×Heap):=
 (A.cells 3 a0).bind fun c1=>
 (A.aj 0 c1).bind fun x2=>
 (E6 [x2] σ).bind fun r3=>
 (A.not r3.1).bind fun x4=>
 A.cond x4 (
  A.fin σ (AV.int .i64 5) r3.2) (
  (A.aj 1 c1).bind fun x5=>
  (jE [x5,aH,(AV.int .i64 512)] r3.2).bind fun r6=>
  (A.not r6.1).bind fun x7=>
  A.cond x7 (
   A.fin σ aH r6.2) (
   (A.aj 2 c1).bind fun x8=>
   (A.bJ x8).bind fun x9=>
   (A.eql .i x9 ah).bind fun bG=>
   A.cond bG (
    A.fin σ (AV.int .i64 8) r6.2) (
    (A.aj 2 c1).bind fun bW=>
    (A.bJ bW).bind fun ct=>
    (A.gtr ct (AV.int .i64 40)).bind fun dG=>
    A.cond dG (
     A.fin σ (AV.int .i64 2) r6.2) (
     (A.aj 2 c1).bind fun cE=>
     (A.bJ cE).bind fun dg=>
     (A.loop (fun aX kS=>
       (A.lss (aX.getD 2 AV.undef) dg).bind fun cC=>
       A.cond cC (
        (A.aT 7 cE (aX.getD 2 AV.undef)).bind fun cR=>
        ((A.deref cR kS).bind fun kC=>A.ay 0 7 kC).bind fun dh=>
        (A.cells 7 dh).bind fun eu=>
        (A.splice 0 eu [br,ah,ah,ah,ah,aM,AV.au]).bind fun gu=>
        (A.aj 0 gu).bind fun x25=>
        (E6 [x25] kS).bind fun kj=>
        (A.not kj.1).bind fun dL=>
        A.cond dL (
         some (AX.ret,[(aX.getD 0 AV.undef),(AV.int .i64 5),(aX.getD 2 AV.undef)],kj.2)) (
         (A.aj 0 gu).bind fun x28=>
         (A.look .z (AV.om r6.2.length) x28 aM kj.2).bind fun x29=>
         A.cond x29 (
          some (AX.ret,[(aX.getD 0 AV.undef),(AV.int .i64 6),(aX.getD 2 AV.undef)],kj.2)) (
          (A.aj 1 gu).bind fun cL=>
          (jE [cL,aH,(AV.int .i64 4)] kj.2).bind fun mM=>
          (A.not mM.1).bind fun x32=>
          A.cond x32 (
           some (AX.ret,[(aX.getD 0 AV.undef),(AV.int .i64 4),(aX.getD 2 AV.undef)],mM.2)) (
           (A.aj 2 gu).bind fun eB=>
           ((A.lb (aX.getD 0 AV.undef)).bind fun _=>some (1)).bind fun xH=>
           ((A.lb (aX.getD 0 AV.undef)).bind fun gZ=>A.aj xH gZ).bind fun gz=>
           (jE [eB,aH,gz] mM.2).bind fun mh=>
           (A.not mh.1).bind fun x38=>
           (A.guard x38 false (A.aj 3 gu) an).bind fun eY=>
           ((A.lb (aX.getD 0 AV.undef)).bind fun _=>some (1)).bind fun p40=>
                      (A.guard x38 false ((A.lb (aX.getD 0 AV.undef)).bind fun xq=>A.aj p40 xq) an).bind fun gA=>
           (A.guard x38 false (A.quiet (jE [eY,ah,gA] mh.2) mh.2) an).bind fun fB=>
           (A.guard x38 false (A.not fB) an).bind fun eC=>
           (A.pick x38 cI eC).bind fun eo=>
           (A.guard eo false (A.aj 4 gu) an).bind fun fC=>
           (A.guard eo false (A.quiet (GS [fC] mh.2) mh.2) an).bind fun ij=>
           (A.guard eo false (A.not ij) an).bind fun gq=>
           (A.pick eo cI gq).bind fun eD=>
           A.cond eD (
            some (AX.ret,[(aX.getD 0 AV.undef),aH,(aX.getD 2 AV.undef)],mh.2)) (
            (A.aj 2 gu).bind fun lU=>
            (A.aj 3 gu).bind fun gQ=>
            (A.eql .i lU gQ).bind fun dP=>
            (A.guard dP false (some (AV.om (r6.2++[aJ.map []]).length)) an).bind fun gR=>
            (A.guard dP false (A.aj 2 gu) an).bind fun gB=>
            (A.guard dP false (A.look .i gR gB aM mh.2) an).bind fun kL=>
            (A.pick dP cI kL).bind fun gd=>
            (A.guard gd false (A.aj 3 gu) an).bind fun jK=>
            (A.guard gd false (A.gtr jK ah) an).bind fun gC=>
            (A.guard gd false (some gC) an).bind fun eZ=>
            (A.guard eZ true (some (AV.om (r6.2++[aJ.map []]).length)) an).bind fun gV=>
            (A.guard eZ true (A.aj 3 gu) an).bind fun jo=>
            (A.guard eZ true (A.look .i gV jo aM mh.2) an).bind fun fc=>
            (A.guard gd false (A.pick eZ fc aM) an).bind fun fD=>
            (A.pick gd cI fD).bind fun lV=>
            A.cond lV (
             some (AX.ret,[(aX.getD 0 AV.undef),(AV.int .i64 12),(aX.getD 2 AV.undef)],mh.2)) (
             (A.aj 6 gu).bind fun jd=>
             (NU [jd] mh.2).bind fun GG=>
             (A.neq .i GG.1 ah).bind fun jR=>
             A.cond jR (
              some (AX.ret,[(aX.getD 0 AV.undef),GG.1,(aX.getD 2 AV.undef)],GG.2)) (
              (A.aj 0 gu).bind fun iq=>
              (A.aj 2 gu).bind fun fP=>
              (A.eA .z (AV.om r6.2.length) iq cI GG.2).bind fun h70=>
              (A.eA .i (AV.om (r6.2++[aJ.map []]).length) fP cI h70).bind fun M8=>
              (A.aj 3 gu).bind fun pY=>
              (A.gtr pY ah).bind fun iH=>
              (A.cond iH (
               (A.aj 3 gu).bind fun eE=>
               (A.eA .i (AV.om (r6.2++[aJ.map []]).length) eE cI M8).bind fun h76=>
               some ([(aX.getD 0 AV.undef)],h76)) (
               some ([(aX.getD 0 AV.undef)],M8))).bind fun r74=>
              (A.add (aX.getD 2 AV.undef) aH).bind fun xU=>
              some (AX.normal,[(r74.1.getD 0 AV.undef),(aX.getD 1 AV.undef),xU],r74.2)))))))) (
        some (AX.exit 1,[(aX.getD 0 AV.undef),(aX.getD 1 AV.undef),(aX.getD 2 AV.undef)],kS))) [(AV.lbx c1),ah,ah] ((r6.2++[aJ.map []])++[aJ.map []])).bind fun vP=>
     bif vP.1==AX.exit 1 then(
      A.fin σ ah vP.2.2)else
     bif vP.1==AX.ret then(
      A.fin σ (vP.2.1.getD 1 AV.undef) vP.2.2)else
     none))))
noncomputable def NP:List AV→Heap→Option (AV×Heap):=A.wrap true [(.a [.k,.k,(.s 7)])] .k (A.cK NR)
noncomputable def NQ (a0:AV) (σ:Heap):Option (AV×Heap):=
 (A.bJ a0).bind fun x1=>
 (A.gtr x1 (AV.int .i64 60)).bind fun x2=>
 A.cond x2 (
  A.fin σ (AV.int .i64 2) σ) (
  (A.bJ a0).bind fun x3=>
  (A.loop (fun v4 s5=>
    (A.lss (v4.getD 1 AV.undef) x3).bind fun x7=>
    A.cond x7 (
     (A.aT 3 a0 (v4.getD 1 AV.undef)).bind fun x8=>
     ((A.deref x8 s5).bind fun c9=>A.ay 0 3 c9).bind fun bG=>
     (A.cells 3 bG).bind fun gm=>
     (A.splice 0 gm [br,ah,AV.au]).bind fun ep=>
     (A.ay 0 3 ep).bind fun dG=>
     (NP [dG] s5).bind fun i6=>
     (A.neq .i i6.1 ah).bind fun dg=>
     A.cond dg (
      some (AX.ret,[i6.1,(v4.getD 1 AV.undef)],i6.2)) (
      (A.aj 0 ep).bind fun cG=>
      (A.look .z (AV.om σ.length) cG aM i6.2).bind fun cB=>
      A.cond cB (
       some (AX.ret,[(AV.int .i64 6),(v4.getD 1 AV.undef)],i6.2)) (
       (A.aj 0 ep).bind fun bM=>
       (A.eA .z (AV.om σ.length) bM cI i6.2).bind fun h19=>
       (A.add (v4.getD 1 AV.undef) aH).bind fun cR=>
       some (AX.normal,[(v4.getD 0 AV.undef),cR],h19)))) (
     some (AX.exit 0,[(v4.getD 0 AV.undef),(v4.getD 1 AV.undef)],s5))) [ah,ah] (σ++[aJ.map []])).bind fun uE=>
  bif uE.1==AX.exit 0 then(
   A.fin σ ah uE.2.2)else
  bif uE.1==AX.ret then(
   A.fin σ (uE.2.1.getD 0 AV.undef) uE.2.2)else
  none)
noncomputable def NO:List AV→Heap→Option (AV×Heap):=A.wrap true [(.s 3)] .k (A.cK NQ)
noncomputable def NW (a0 a1:AV) (σ:Heap):Option (AV×Heap):=
 (A.cells 3 a0).bind fun c1=>
 (A.aj 0 c1).bind fun x2=>
 ((A.deref a1 σ).bind fun c3=>A.aj 0 c3).bind fun x4=>
 (A.eql .z x2 x4).bind fun x5=>
 A.fin σ x5 σ
noncomputable def GO:List AV→Heap→Option (AV×Heap):=A.wrap true [(.a [.k,.k,(.s 7)])] .k (A.cQ NW)
noncomputable def Km (a0 a1:AV) (σ:Heap):Option (AV×Heap):=
 (((A.cell a1).bind fun v=>some [v]).bind fun cs=>some (AV.rp cs)).bind fun x1=>
 (JY (A.tab (fun _ _=>none) [(64,GO)]) [a0,(AV.fn 64 [x1])] σ).bind fun r2=>
 (A.lss r2.1 ah).bind fun x3=>
 A.cond x3 (
  (A.cells 3 (AV.agg [br,ah,AV.au])).bind fun c4=>
  (A.splice 0 c4 [br,ah,AV.au]).bind fun c5=>
  (A.ay 0 3 c5).bind fun x6=>
  A.fin σ (AV.aG [x6,aM]) r2.2) (
  (A.aT 3 a0 r2.1).bind fun x7=>
  ((A.deref x7 r2.2).bind fun c8=>A.ay 0 3 c8).bind fun x9=>
  (A.cells 3 x9).bind fun dZ=>
  (A.splice 0 dZ [br,ah,AV.au]).bind fun gm=>
  (A.ay 0 3 gm).bind fun ct=>
  A.fin σ (AV.aG [ct,cI]) r2.2)
noncomputable def Ki:List AV→Heap→Option (AV×Heap):=A.wrap true [(.s 3)] (.t [(.a Dr),.k]) (A.cQ Km)
noncomputable def GP (a0 a1 a2:AV) (σ:Heap):Option (AV×Heap):=
 (A.eql .p a0 AV.np).bind fun x1=>
 A.cond x1 (
  (A.add a1 a2).bind fun x2=>
  (A.sub x2 aH).bind fun x3=>
  (A.leq x3 (AV.int .i64 512)).bind fun x4=>
  A.fin σ x4 σ) (
  (A.loop (fun v5 s6=>
    (A.add a1 a2).bind fun x8=>
    (A.lss (v5.getD 1 AV.undef) x8).bind fun x9=>
    A.cond x9 (
     (A.gtr (v5.getD 1 AV.undef) (AV.int .i64 512)).bind fun bG=>
     (A.guard bG false (some a0) an).bind fun bW=>
     (A.guard bG false (some (v5.getD 1 AV.undef)) an).bind fun ct=>
     (A.guard bG false (A.aL bW) an).bind fun dG=>
     (A.guard bG false (A.yF 513 1 dG ct) an).bind fun cE=>
     (A.guard bG false ((A.deref cE s6).bind fun jG=>A.aj 0 jG) an).bind fun cG=>
     (A.pick bG cI cG).bind fun cB=>
     A.cond cB (
      some (AX.ret,[aM,(v5.getD 1 AV.undef)],s6)) (
      (A.add (v5.getD 1 AV.undef) aH).bind fun bM=>
      some (AX.normal,[(v5.getD 0 AV.undef),bM],s6))) (
     some (AX.exit 0,[(v5.getD 0 AV.undef),(v5.getD 1 AV.undef)],s6))) [aM,a1] σ).bind fun kI=>
  bif kI.1==AX.exit 0 then(
   A.fin σ cI kI.2.2)else
  bif kI.1==AX.ret then(
   A.fin σ (kI.2.1.getD 0 AV.undef) kI.2.2)else
  none)
noncomputable def EM:List AV→Heap→Option (AV×Heap):=A.wrap true [] .k (A.lp GP)
noncomputable def G5 (a0 a1 a2:AV) (σ:Heap):Option (AV×Heap):=
 (A.cells 4 a1).bind fun c1=>
 (A.aj 2 c1).bind fun x2=>
 (A.look .i a0 x2 AV.np σ).bind fun x3=>
 (A.eql .p x3 AV.np).bind fun x4=>
 (A.cond x4 (
  (A.aj 2 c1).bind fun x6=>
  (A.eA .i a0 x6 (AV.op σ.length 0) (σ++[aJ.box (List.replicate 513 aM)])).bind fun h7=>
  some ([(AV.lbx c1)],h7)) (
  some ([(AV.lbx c1)],σ))).bind fun r5=>
 ((A.lb (r5.1.getD 0 AV.undef)).bind fun _=>some (3)).bind fun p8=>
 ((A.lb (r5.1.getD 0 AV.undef)).bind fun c9=>A.aj p8 c9).bind fun bG=>
 (A.loop (fun v11 kK=>
   ((A.lb (v11.getD 0 AV.undef)).bind fun _=>some (3)).bind fun p14=>
   ((A.lb (v11.getD 0 AV.undef)).bind fun jG=>A.aj p14 jG).bind fun cG=>
   (A.add cG a2).bind fun cB=>
   (A.lss (v11.getD 1 AV.undef) cB).bind fun bM=>
   A.cond bM (
    ((A.lb (v11.getD 0 AV.undef)).bind fun _=>some (2)).bind fun p19=>
    ((A.lb (v11.getD 0 AV.undef)).bind fun gO=>A.aj p19 gO).bind fun bO=>
    (A.look .i a0 bO AV.np kK).bind fun dh=>
    (A.aL dh).bind fun eP=>
    (A.yF 513 1 eP (v11.getD 1 AV.undef)).bind fun x24=>
    ((A.cell cI).bind fun v=>some [v]).bind fun gP=>
    (A.storeAt x24 gP kK).bind fun fM=>
    (A.add (v11.getD 1 AV.undef) aH).bind fun dL=>
    some (AX.normal,[(v11.getD 0 AV.undef),dL],fM)) (
    some (AX.exit 0,[(v11.getD 0 AV.undef),(v11.getD 1 AV.undef)],kK))) [(r5.1.getD 0 AV.undef),bG] r5.2).bind fun sA=>
 bif sA.1==AX.exit 0 then(
  some ((AV.aG []),sA.2.2))else
 none
noncomputable def Kp:List AV→Heap→Option (AV×Heap):=A.wrap false [] .k (A.lp G5)
noncomputable def N3 (a0:AV) (σ:Heap):Option (AV×Heap):=
 (A.cells 2 a0).bind fun c1=>
 (A.aj 0 c1).bind fun x2=>
 (NO [x2] σ).bind fun r3=>
 (A.neq .i r3.1 ah).bind fun x4=>
 A.cond x4 (
  A.fin σ r3.1 r3.2) (
  (A.aj 1 c1).bind fun x5=>
  (A.bJ x5).bind fun x6=>
  (A.gtr x6 (AV.int .i64 400)).bind fun x7=>
  A.cond x7 (
   A.fin σ (AV.int .i64 2) r3.2) (
   (A.aj 1 c1).bind fun x8=>
   (A.bJ x8).bind fun x9=>
   (A.loop (fun v10 tD=>
     (A.lss (v10.getD 2 AV.undef) x9).bind fun dG=>
     A.cond dG (
      (A.aT 4 x8 (v10.getD 2 AV.undef)).bind fun cE=>
      ((A.deref cE tD).bind fun jG=>A.ay 0 4 jG).bind fun cG=>
      (A.cells 4 cG).bind fun mG=>
      (A.splice 0 mG [ah,br,ah,ah]).bind fun iV=>
      (A.aj 0 iV).bind fun cC=>
      (jE [cC,aH,(AV.int .i64 9999)] tD).bind fun A8=>
      (A.not A8.1).bind fun bO=>
      A.cond bO (
       some (AX.ret,[(v10.getD 0 AV.undef),aH,(v10.getD 2 AV.undef)],A8.2)) (
       (A.gtr (v10.getD 2 AV.undef) ah).bind fun dh=>
       (A.guard dh true (A.aj 0 iV) an).bind fun eP=>
       ((A.lb (v10.getD 0 AV.undef)).bind fun _ => some (1)).bind fun p24 =>
              (A.guard dh true ((A.lb (v10.getD 0 AV.undef)).bind fun gP=>A.aj p24 gP) an).bind fun fA=>
       (A.guard dh true (some (v10.getD 2 AV.undef)) an).bind fun dL=>
       (A.guard dh true (A.sub dL aH) an).bind fun x28=>
       (A.guard dh true (A.aT 4 fA x28) an).bind fun x29=>
       (A.guard dh true (A.aA 0 x29) an).bind fun cL=>
       (A.guard dh true ((A.deref cL A8.2).bind fun vD=>A.aj 0 vD) an).bind fun x32=>
       (A.guard dh true (A.leq eP x32) an).bind fun eB=>
       (A.pick dh eB aM).bind fun x34=>
       A.cond x34 (
        some (AX.ret,[(v10.getD 0 AV.undef),(AV.int .i64 7),(v10.getD 2 AV.undef)],A8.2)) (
        ((A.lb (v10.getD 0 AV.undef)).bind fun _=>some (0)).bind fun p35=>
        ((A.lb (v10.getD 0 AV.undef)).bind fun hG=>A.aj p35 hG).bind fun bQ=>
        (A.aj 1 iV).bind fun x38=>
        (Ki [bQ,x38] A8.2).bind fun Nq=>
        (A.ext 0 Nq.1).bind fun dc=>
        (A.ext 1 Nq.1).bind fun dV=>
        (A.cells 3 dc).bind fun lQ=>
        (A.splice 0 lQ [br,ah,AV.au]).bind fun uo=>
        (A.not dV).bind fun eC=>
        A.cond eC (
         some (AX.ret,[(v10.getD 0 AV.undef),(AV.int .i64 5),(v10.getD 2 AV.undef)],Nq.2)) (
         (A.aj 2 iV).bind fun eo=>
         (jE [eo,aH,(AV.int .i64 64)] Nq.2).bind fun nY=>
         (A.not nY.1).bind fun ij=>
         (A.guard ij false (A.aj 3 iV) an).bind fun gq=>
         (A.guard ij false (A.quiet (jE [gq,aH,(AV.int .i64 512)] nY.2) nY.2) an).bind fun eD=>
         (A.guard ij false (A.not eD) an).bind fun lU=>
         (A.pick ij cI lU).bind fun gQ=>
         (A.guard gQ false (A.aj 3 iV) an).bind fun dP=>
         (A.guard gQ false (A.aj 1 uo) an).bind fun gR=>
         (A.guard gQ false (A.add dP gR) an).bind fun gB=>
         (A.guard gQ false (A.sub gB aH) an).bind fun kL=>
         (A.guard gQ false (A.gtr kL (AV.int .i64 512)) an).bind fun gd=>
         (A.pick gQ cI gd).bind fun jK=>
         A.cond jK (
          some (AX.ret,[(v10.getD 0 AV.undef),aH,(v10.getD 2 AV.undef)],nY.2)) (
          (A.aj 2 iV).bind fun gC=>
          (A.look .i (AV.om r3.2.length) gC AV.np nY.2).bind fun eZ=>
          (A.aj 3 iV).bind fun gV=>
          (A.aj 1 uo).bind fun jo=>
          (EM [eZ,gV,jo] nY.2).bind fun T4=>
          (A.not T4.1).bind fun fD=>
          A.cond fD (
           some (AX.ret,[(v10.getD 0 AV.undef),(AV.int .i64 12),(v10.getD 2 AV.undef)],T4.2)) (
           (A.ay 0 4 iV).bind fun lV=>
           (A.aj 1 uo).bind fun jd=>
           (Kp [(AV.om r3.2.length),lV,jd] T4.2).bind fun GG=>
           (A.add (v10.getD 2 AV.undef) aH).bind fun jR=>
           some (AX.normal,[(v10.getD 0 AV.undef),(v10.getD 1 AV.undef),jR],GG.2))))))) (
      some (AX.exit 0,[(v10.getD 0 AV.undef),(v10.getD 1 AV.undef),(v10.getD 2 AV.undef)],tD))) [(AV.lbx c1),ah,ah] (r3.2++[aJ.map []])).bind fun A9=>
   bif A9.1==AX.exit 0 then(
    A.fin σ ah A9.2.2)else
   bif A9.1==AX.ret then(
    A.fin σ (A9.2.1.getD 1 AV.undef) A9.2.2)else
   none))
noncomputable def Kb:List AV→Heap→Option (AV×Heap):=A.wrap true [(.a [(.s 3),(.s 4)])] .k (A.cK N3)
noncomputable def G4 (a0:AV) (σ:Heap):Option (AV×Heap):=
 (A.cells 2 a0).bind fun c1=>
 (A.ay 0 2 c1).bind fun x2=>
 (Kb [x2] σ).bind fun r3=>
 (A.neq .i r3.1 ah).bind fun x4=>
 A.cond x4 (
  A.fin σ (AV.aG [AV.au,r3.1]) r3.2) (
  (A.aj 1 c1).bind fun x5=>
  (A.bJ x5).bind fun x6=>
  (A.loop (fun v7 s8=>
    (A.lss (v7.getD 2 AV.undef) x6).bind fun bG=>
    A.cond bG (
     (A.aT 4 x5 (v7.getD 2 AV.undef)).bind fun bW=>
     ((A.deref bW s8).bind fun ep=>A.ay 0 4 ep).bind fun dG=>
     (A.cells 4 dG).bind fun jP=>
     (A.splice 0 jP [ah,br,ah,ah]).bind fun jG=>
     ((A.lb (v7.getD 0 AV.undef)).bind fun _=>some (0)).bind fun p16=>
     ((A.lb (v7.getD 0 AV.undef)).bind fun mG=>A.aj p16 mG).bind fun bM=>
     (A.aj 1 jG).bind fun cC=>
     (Ki [bM,cC] s8).bind fun A8=>
     (A.ext 0 A8.1).bind fun bO=>
     (A.ext 1 A8.1).bind fun dh=>
     (A.cells 3 bO).bind fun eu=>
     (A.splice 0 eu [br,ah,AV.au]).bind fun gu=>
     (A.aj 2 gu).bind fun x25=>
     (A.bJ x25).bind fun fA=>
     (A.loop (fun vR T7=>
       (A.lss (vR.getD 3 AV.undef) fA).bind fun cL=>
       A.cond cL (
        (A.aT 7 x25 (vR.getD 3 AV.undef)).bind fun x31=>
        ((A.deref x31 T7).bind fun Tj=>A.ay 0 7 Tj).bind fun eB=>
        (A.cells 7 eB).bind fun rZ=>
        (A.splice 0 rZ [br,ah,ah,ah,ah,aM,AV.au]).bind fun gZ=>
        ((A.lb (vR.getD 2 AV.undef)).bind fun _=>some (0)).bind fun p36=>
        ((A.lb (vR.getD 2 AV.undef)).bind fun fI=>A.aj p36 fI).bind fun x38=>
        (A.aj 0 gZ).bind fun eY=>
        ((((A.cell x38).bind fun v=>some [v]).bind fun yU=>(A.splice 0 yU [ah,br]).bind fun xq=>((A.cell eY).bind fun v=>some [v]).bind fun lQ=>(A.splice 1 lQ xq).bind fun uo=>some uo).bind fun cs=>some (AV.agg cs)).bind fun eC=>
        (((A.cells 2 eC).bind fun D7=>(A.splice 0 D7 [ah,br]).bind fun Tl=>some Tl).bind fun cs=>some (AV.sl 2 (chunks 2 1 cs))).bind fun ij=>
        (A.append 2 (140737488355328 / 24) (vR.getD 1 AV.undef) ij T7).bind fun kJ=>
        (A.add (vR.getD 3 AV.undef) aH).bind fun eD=>
        some (AX.normal,[(vR.getD 0 AV.undef),kJ.1,(vR.getD 2 AV.undef),eD],kJ.2)) (
        some (AX.exit 2,[(vR.getD 0 AV.undef),(vR.getD 1 AV.undef),(vR.getD 2 AV.undef),(vR.getD 3 AV.undef)],T7))) [(v7.getD 0 AV.undef),(v7.getD 1 AV.undef),(AV.lbx jG),ah] A8.2).bind fun cZ=>
     bif cZ.1==AX.exit 2 then(
      (A.add (v7.getD 2 AV.undef) aH).bind fun gQ=>
      some (AX.normal,[(cZ.2.1.getD 0 AV.undef),(cZ.2.1.getD 1 AV.undef),gQ],cZ.2.2))else
     none) (
     some (AX.exit 0,[(v7.getD 0 AV.undef),(v7.getD 1 AV.undef),(v7.getD 2 AV.undef)],s8))) [(AV.lbx c1),AV.au,ah] r3.2).bind fun Ez=>
  bif Ez.1==AX.exit 0 then(
   A.fin σ (AV.aG [(Ez.2.1.getD 1 AV.undef),ah]) Ez.2.2)else
  none)
noncomputable def EV:List AV→Heap→Option (AV×Heap):=A.wrap true [(.a [(.s 3),(.s 4)])] (.t [(.s 2),.k]) (A.cK G4)
end
def G8:List AV→Heap→Option (AV×Heap):=A.cQ fun a b σ=>match a,b with
 |.int .u64 x,.int .u64 y=>if 0≤x∧x<18446744073709551616∧0≤y∧y<18446744073709551616 then some (.aG [.int .u64 ((x.toNat*y.toNat / 18446744073709551616:Nat):Int),.int .u64 ((x.toNat*y.toNat % 18446744073709551616:Nat):Int)],σ)else none
 |_,_=>none
def E0:List AV→Heap→Option (AV×Heap):=A.lp fun a b c σ=>match a,b,c with
 |.int .u64 x,.int .u64 y,.int .u64 c=>if 0≤x∧x<18446744073709551616∧0≤y∧y<18446744073709551616∧0≤c∧c≤1 then some (.aG [.int .u64 (((x.toNat+y.toNat+c.toNat) % 18446744073709551616:Nat):Int),.int .u64 (((x.toNat+y.toNat+c.toNat) / 18446744073709551616:Nat):Int)],σ)else none
 |_,_,_=>none
section
set_option maxRecDepth 100000
noncomputable def N4 (a0:AV) (σ:Heap):Option (AV×Heap):=
 (A.cells 2 a0).bind fun c1=>
 (A.aj 0 c1).bind fun x2=>
 (jE [x2,aH,(AV.int .i64 6)] σ).bind fun r3=>
 (A.not r3.1).bind fun x4=>
 A.cond x4 (
  A.fin σ (AV.int .i64 4) r3.2) (
  (A.aj 1 c1).bind fun x5=>
  (A.aj 0 c1).bind fun x6=>
  (A.neq .i x6 (AV.int .i64 6)).bind fun x7=>
  A.cond x7 (
   (A.bJ x5).bind fun x8=>
   (A.gtr x8 ah).bind fun x9=>
   (rC [x9,(AV.int .i64 3)] r3.2).bind fun kH=>
   A.fin σ kH.1 kH.2) (
   (A.bJ x5).bind fun bW=>
   (A.lss bW (AV.int .i64 2)).bind fun ct=>
   A.cond ct (
    A.fin σ (AV.int .i64 8) r3.2) (
    (A.bJ x5).bind fun dG=>
    (A.gtr dG (AV.int .i64 20)).bind fun cE=>
    A.cond cE (
     A.fin σ (AV.int .i64 2) r3.2) (
     (A.bJ x5).bind fun dg=>
     (A.loop (fun aX kS=>
       (A.lss (aX.getD 1 AV.undef) dg).bind fun cC=>
       A.cond cC (
        (A.aT 2 x5 (aX.getD 1 AV.undef)).bind fun cR=>
        ((A.deref cR kS).bind fun kC=>A.ay 0 2 kC).bind fun dh=>
        (A.cells 2 dh).bind fun eu=>
        (A.splice 0 eu [ah,ah]).bind fun gu=>
        (A.aj 0 gu).bind fun x25=>
        (jE [x25,ah,(AV.int .i64 1000)] kS).bind fun kj=>
        (A.not kj.1).bind fun dL=>
        (A.guard dL false (A.aj 1 gu) an).bind fun x28=>
        (A.guard dL false (A.quiet (jE [x28,ah,(AV.int .i64 1000)] kj.2) kj.2) an).bind fun x29=>
        (A.guard dL false (A.not x29) an).bind fun cL=>
        (A.pick dL cI cL).bind fun x31=>
        A.cond x31 (
         some (AX.ret,[aH,(aX.getD 1 AV.undef)],kj.2)) (
         (A.add (aX.getD 1 AV.undef) aH).bind fun x32=>
         some (AX.normal,[(aX.getD 0 AV.undef),x32],kj.2))) (
        some (AX.exit 0,[(aX.getD 0 AV.undef),(aX.getD 1 AV.undef)],kS))) [ah,ah] r3.2).bind fun qX=>
     bif qX.1==AX.exit 0 then(
      (A.aT 2 x5 ah).bind fun x34=>
      ((A.deref x34 qX.2.2).bind fun gZ=>A.ay 0 2 gZ).bind fun gz=>
      (A.neq (.s [0,0]) gz (AV.agg [ah,ah])).bind fun bQ=>
      (A.guard bQ false (some x5) an).bind fun x38=>
      (A.guard bQ false (some x5) an).bind fun eY=>
      (A.guard bQ false (A.bJ eY) an).bind fun dc=>
      (A.guard bQ false (A.sub dc aH) an).bind fun dV=>
      (A.guard bQ false (A.aT 2 x38 dV) an).bind fun gA=>
      (A.guard bQ false ((A.deref gA qX.2.2).bind fun uo=>A.ay 0 2 uo) an).bind fun eC=>
      (A.guard bQ false ((((A.cell (AV.int .i64 1000)).bind fun v=>some [v]).bind fun D7=>(A.splice 0 D7 [ah,ah]).bind fun Tl=>((A.cell (AV.int .i64 1000)).bind fun v=>some [v]).bind fun iW=>(A.splice 1 iW Tl).bind fun pM=>some pM).bind fun cs=>some (AV.agg cs)) an).bind fun eD=>
      (A.guard bQ false (A.neq (.s [0,0]) eC eD) an).bind fun lU=>
      (A.pick bQ cI lU).bind fun gQ=>
      A.cond gQ (
       A.fin σ (AV.int .i64 3) qX.2.2) (
       (A.loop (fun zi EA=>
         (A.bJ x5).bind fun kL=>
         (A.lss (zi.getD 1 AV.undef) kL).bind fun gd=>
         A.cond gd (
          (A.aT 2 x5 (zi.getD 1 AV.undef)).bind fun jK=>
          (A.aA 0 jK).bind fun gC=>
          ((A.deref gC EA).bind fun Tm=>A.aj 0 Tm).bind fun gV=>
          (A.sub (zi.getD 1 AV.undef) aH).bind fun jo=>
          (A.aT 2 x5 jo).bind fun fc=>
          (A.aA 0 fc).bind fun fD=>
          ((A.deref fD EA).bind fun pO=>A.aj 0 pO).bind fun jd=>
          (A.leq gV jd).bind fun gD=>
          (A.guard gD false (some x5) an).bind fun jR=>
          (A.guard gD false (some (zi.getD 1 AV.undef)) an).bind fun iq=>
          (A.guard gD false (A.aT 2 jR iq) an).bind fun fP=>
          (A.guard gD false (A.aA 1 fP) an).bind fun ff=>
          (A.guard gD false ((A.deref ff EA).bind fun lI=>A.aj 0 lI) an).bind fun pY=>
          (A.guard gD false (some x5) an).bind fun iH=>
          (A.guard gD false (some (zi.getD 1 AV.undef)) an).bind fun iu=>
          (A.guard gD false (A.sub iu aH) an).bind fun eE=>
          (A.guard gD false (A.aT 2 iH eE) an).bind fun je=>
          (A.guard gD false (A.aA 1 je) an).bind fun xU=>
          (A.guard gD false ((A.deref xU EA).bind fun nR=>A.aj 0 nR) an).bind fun jS=>
          (A.guard gD false (A.lss pY jS) an).bind fun fT=>
          (A.pick gD cI fT).bind fun pZ=>
          A.cond pZ (
           some (AX.ret,[(AV.int .i64 7),(zi.getD 1 AV.undef)],EA)) (
           (A.add (zi.getD 1 AV.undef) aH).bind fun p4=>
           some (AX.normal,[(zi.getD 0 AV.undef),p4],EA))) (
          some (AX.exit 2,[(zi.getD 0 AV.undef),(zi.getD 1 AV.undef)],EA))) [(qX.2.1.getD 0 AV.undef),aH] qX.2.2).bind fun JC=>
       bif JC.1==AX.exit 2 then(
        A.fin σ ah JC.2.2)else
       bif JC.1==AX.ret then(
        A.fin σ (JC.2.1.getD 0 AV.undef) JC.2.2)else
       none))else
     bif qX.1==AX.ret then(
      A.fin σ (qX.2.1.getD 0 AV.undef) qX.2.2)else
     none))))
noncomputable def Kc:List AV→Heap→Option (AV×Heap):=A.wrap true [(.a [.k,(.s 2)])] .k (A.cK N4)
noncomputable def Oo (a0:AV) (σ:Heap):Option (AV×Heap):=
 (jE [a0,ah,(AV.int .i64 65535)] σ).bind fun r1=>
 A.fin σ r1.1 r1.2
noncomputable def Ol:List AV→Heap→Option (AV×Heap):=A.wrap true [] .k (A.cK Oo)
noncomputable def Oy (a0:AV) (σ:Heap):Option (AV×Heap):=
 (A.bJ a0).bind fun x1=>
 (A.loop (fun v2 s3=>
   (A.lss (v2.getD 1 AV.undef) x1).bind fun x5=>
   A.cond x5 (
    (A.aT 1 a0 (v2.getD 1 AV.undef)).bind fun x6=>
    ((A.deref x6 s3).bind fun c7=>A.aj 0 c7).bind fun x8=>
    (Ol [x8] s3).bind fun r9=>
    (A.not r9.1).bind fun bG=>
    A.cond bG (
     some (AX.ret,[aH,(v2.getD 1 AV.undef)],r9.2)) (
     (A.add (v2.getD 1 AV.undef) aH).bind fun bW=>
     some (AX.normal,[(v2.getD 0 AV.undef),bW],r9.2))) (
    some (AX.exit 0,[(v2.getD 0 AV.undef),(v2.getD 1 AV.undef)],s3))) [ah,ah] σ).bind fun gG=>
 bif gG.1==AX.exit 0 then(
  A.fin σ ah gG.2.2)else
 bif gG.1==AX.ret then(
  A.fin σ (gG.2.1.getD 0 AV.undef) gG.2.2)else
 none
noncomputable def Kq:List AV→Heap→Option (AV×Heap):=A.wrap true [(.s 1)] .k (A.cK Oy)
noncomputable def Ox (a0:AV) (σ:Heap):Option (AV×Heap):=
 (jE [a0,ah,(AV.int .i64 36000000)] σ).bind fun r1=>
 A.fin σ r1.1 r1.2
noncomputable def CO:List AV→Heap→Option (AV×Heap):=A.wrap true [] .k (A.cK Ox)
noncomputable def N9 (a0:AV) (σ:Heap):Option (AV×Heap):=
 (A.cells 7 a0).bind fun c1=>
 (A.aj 0 c1).bind fun x2=>
 (A.aj 1 c1).bind fun x3=>
 ((((A.cell x2).bind fun v=>some [v]).bind fun c4=>(A.splice 0 c4 [ah,ah]).bind fun c5=>((A.cell x3).bind fun v=>some [v]).bind fun c6=>(A.splice 1 c6 c5).bind fun c7=>some c7).bind fun cs=>some (AV.sl 1 (chunks 1 2 cs))).bind fun x8=>
 (Kq [x8] σ).bind fun r9=>
 (A.neq .i r9.1 ah).bind fun bG=>
 A.cond bG (
  A.fin σ r9.1 r9.2) (
  (A.aj 2 c1).bind fun bW=>
  (CO [bW] r9.2).bind fun gG=>
  (A.not gG.1).bind fun dG=>
  (A.guard dG false (A.aj 3 c1) an).bind fun cE=>
  (A.guard dG false (A.quiet (CO [cE] gG.2) gG.2) an).bind fun dg=>
  (A.guard dG false (A.not dg) an).bind fun cG=>
  (A.pick dG cI cG).bind fun cB=>
  (A.guard cB false (A.aj 4 c1) an).bind fun bM=>
  (A.guard cB false (A.quiet (CO [bM] gG.2) gG.2) an).bind fun cC=>
  (A.guard cB false (A.not cC) an).bind fun cR=>
  (A.pick cB cI cR).bind fun bO=>
  (A.guard bO false (A.aj 2 c1) an).bind fun dh=>
  (A.guard bO false (A.aj 3 c1) an).bind fun eP=>
  (A.guard bO false (A.add dh eP) an).bind fun x24=>
  (A.guard bO false (A.aj 4 c1) an).bind fun x25=>
  (A.guard bO false (A.add x24 x25) an).bind fun fA=>
  (A.guard bO false (A.quiet (CO [fA] gG.2) gG.2) an).bind fun dL=>
  (A.guard bO false (A.not dL) an).bind fun x28=>
  (A.pick bO cI x28).bind fun x29=>
  A.cond x29 (
   A.fin σ aH gG.2) (
   (A.ay 5 2 c1).bind fun cL=>
   (Kc [cL] gG.2).bind fun mM=>
   A.fin σ mM.1 mM.2))
noncomputable def N7:List AV→Heap→Option (AV×Heap):=A.wrap true [Ds] .k (A.cK N9)
noncomputable def PC (a0:AV) (σ:Heap):Option (AV×Heap):=
 (A.conv .u64 a0).bind fun x1=>
 ((((A.cell (AV.int .u64 0)).bind fun v=>some [v]).bind fun c2=>(A.splice 0 c2 [(AV.int .u64 0),(AV.int .u64 0)]).bind fun c3=>((A.cell x1).bind fun v=>some [v]).bind fun c4=>(A.splice 1 c4 c3).bind fun c5=>some c5).bind fun cs=>some (AV.agg cs)).bind fun x6=>
 (A.cells 2 x6).bind fun c7=>
 (A.splice 0 c7 [(AV.int .u64 0),(AV.int .u64 0)]).bind fun c8=>
 (A.ay 0 2 c8).bind fun x9=>
 A.fin σ x9 σ
noncomputable def oc:List AV→Heap→Option (AV×Heap):=A.wrap true [] .k (A.cK PC)
noncomputable def Oa (a0 a1:AV) (σ:Heap):Option (AV×Heap):=
 (A.cells 2 a0).bind fun c1=>
 (A.cells 2 a1).bind fun c2=>
 (A.aj 0 c1).bind fun x3=>
 (A.aj 0 c2).bind fun x4=>
 (A.lss x3 x4).bind fun x5=>
 (A.guard x5 false (A.aj 0 c1) an).bind fun x6=>
 (A.guard x5 false (A.aj 0 c2) an).bind fun x7=>
 (A.guard x5 false (A.eql .i x6 x7) an).bind fun x8=>
 (A.guard x5 false (some x8) an).bind fun x9=>
 (A.guard x9 true (A.aj 1 c1) an).bind fun bG=>
 (A.guard x9 true (A.aj 1 c2) an).bind fun bW=>
 (A.guard x9 true (A.lss bG bW) an).bind fun ct=>
 (A.guard x5 false (A.pick x9 ct aM) an).bind fun dG=>
 (A.pick x5 cI dG).bind fun cE=>
 A.fin σ cE σ
noncomputable def EP:List AV→Heap→Option (AV×Heap):=A.wrap true [] .k (A.cQ Oa)
noncomputable def OH (a0 a1:AV) (σ:Heap):Option (AV×Heap):=
 ((((A.cell a0).bind fun v=>some [v]).bind fun c1=>(A.splice 0 c1 [ah,ah]).bind fun c2=>((A.cell a1).bind fun v=>some [v]).bind fun c3=>(A.splice 1 c3 c2).bind fun c4=>some c4).bind fun cs=>some (AV.sl 1 (chunks 1 2 cs))).bind fun x5=>
 (Kq [x5] σ).bind fun r6=>
 (A.neq .i r6.1 ah).bind fun x7=>
 A.cond x7 (
  A.fin σ (AV.aG [ah,r6.1]) r6.2) (
  (A.mul a0 a1).bind fun x8=>
  (OO [x8,(AV.int .i64 65535)] r6.2).bind fun r9=>
  A.fin σ (AV.aG [r9.1,ah]) r9.2)
noncomputable def CQ:List AV→Heap→Option (AV×Heap):=A.wrap true [] .k (A.cQ OH)
noncomputable def N5 (a0 a1:AV) (σ:Heap):Option (AV×Heap):=
 (A.cells 2 a0).bind fun c1=>
 (A.aj 1 c1).bind fun x2=>
 (A.conv .u64 a1).bind fun x3=>
 (G8 [x2,x3] σ).bind fun r4=>
 (A.ext 0 r4.1).bind fun x5=>
 (A.ext 1 r4.1).bind fun x6=>
 (A.aj 0 c1).bind fun x7=>
 (A.conv .u64 a1).bind fun x8=>
 (A.mul x7 x8).bind fun x9=>
 (A.add x9 x5).bind fun bG=>
 ((((A.cell bG).bind fun v=>some [v]).bind fun gm=>(A.splice 0 gm [(AV.int .u64 0),(AV.int .u64 0)]).bind fun ep=>((A.cell x6).bind fun v=>some [v]).bind fun gH=>(A.splice 1 gH ep).bind fun jP=>some jP).bind fun cs=>some (AV.agg cs)).bind fun dg=>
 (A.cells 2 dg).bind fun ku=>
 (A.splice 0 ku [(AV.int .u64 0),(AV.int .u64 0)]).bind fun mG=>
 (A.ay 0 2 mG).bind fun bM=>
 A.fin σ bM r4.2
noncomputable def p6:List AV→Heap→Option (AV×Heap):=A.wrap true [] .k (A.cQ N5)
noncomputable def KP (a0 a1 a2:AV) (σ:Heap):Option (AV×Heap):=
 (A.cells 2 a0).bind fun c1=>
 (oc [a2] σ).bind fun r2=>
 (p6 [r2.1,a2] r2.2).bind fun r3=>
 (A.cells 2 r3.1).bind fun c4=>
 (A.splice 0 c4 [(AV.int .u64 0),(AV.int .u64 0)]).bind fun c5=>
 (A.aj 0 c1).bind fun x6=>
 (A.eql .i x6 (AV.int .i64 2)).bind fun x7=>
 A.cond x7 (
  (A.quiet (oc [a1] r3.2) r3.2).bind fun x8=>
  (A.quiet (p6 [x8,a1] r3.2) r3.2).bind fun x9=>
  (A.ay 0 2 c5).bind fun bG=>
  (A.cells 2 x9).bind fun gm=>
  (A.splice 0 gm [(AV.int .u64 0),(AV.int .u64 0)]).bind fun ep=>
  (A.cells 2 bG).bind fun gH=>
  (A.splice 0 gH [(AV.int .u64 0),(AV.int .u64 0)]).bind fun jP=>
  (A.ay 0 2 ep).bind fun dg=>
  (A.ay 0 2 jP).bind fun cG=>
  A.fin σ (AV.aG [dg,cG]) r3.2) (
  (A.eql .i x6 (AV.int .i64 3)).bind fun cB=>
  A.cond cB (
   (A.quiet (oc [a1] r3.2) r3.2).bind fun bM=>
   (A.mul (AV.int .i64 2) a2).bind fun cC=>
   (A.sub cC a1).bind fun cR=>
   (A.quiet (p6 [bM,cR] r3.2) r3.2).bind fun bO=>
   (A.ay 0 2 c5).bind fun dh=>
   (A.cells 2 bO).bind fun eu=>
   (A.splice 0 eu [(AV.int .u64 0),(AV.int .u64 0)]).bind fun gu=>
   (A.cells 2 dh).bind fun gP=>
   (A.splice 0 gP [(AV.int .u64 0),(AV.int .u64 0)]).bind fun fM=>
   (A.ay 0 2 gu).bind fun dL=>
   (A.ay 0 2 fM).bind fun x28=>
   A.fin σ (AV.aG [dL,x28]) r3.2) (
   (A.eql .i x6 (AV.int .i64 4)).bind fun x29=>
   A.cond x29 (
    (A.quiet (oc [a1] r3.2) r3.2).bind fun cL=>
    (A.quiet (p6 [cL,a1] r3.2) r3.2).bind fun x31=>
    (A.mul (AV.int .i64 3) a2).bind fun x32=>
    (A.mul (AV.int .i64 2) a1).bind fun eB=>
    (A.sub x32 eB).bind fun x34=>
    (A.quiet (p6 [x31,x34] r3.2) r3.2).bind fun fJ=>
    (A.ay 0 2 c5).bind fun gz=>
    (A.quiet (p6 [gz,a2] r3.2) r3.2).bind fun bQ=>
    (A.cells 2 fJ).bind fun lu=>
    (A.splice 0 lu [(AV.int .u64 0),(AV.int .u64 0)]).bind fun l6=>
    (A.cells 2 bQ).bind fun yU=>
    (A.splice 0 yU [(AV.int .u64 0),(AV.int .u64 0)]).bind fun xq=>
    (A.ay 0 2 l6).bind fun gA=>
    (A.ay 0 2 xq).bind fun fB=>
    A.fin σ (AV.aG [gA,fB]) r3.2) (
    (A.eql .i x6 (AV.int .i64 5)).bind fun eC=>
    A.cond eC (
     (A.lss a1 a2).bind fun eo=>
     A.cond eo (
      (oc [ah] r3.2).bind fun nY=>
      (oc [aH] nY.2).bind fun nZ=>
      (A.cells 2 nY.1).bind fun pM=>
      (A.splice 0 pM [(AV.int .u64 0),(AV.int .u64 0)]).bind fun AI=>
      (A.cells 2 nZ.1).bind fun nO=>
      (A.splice 0 nO [(AV.int .u64 0),(AV.int .u64 0)]).bind fun xu=>
      (A.ay 0 2 AI).bind fun dP=>
      (A.ay 0 2 xu).bind fun gR=>
      A.fin σ (AV.aG [dP,gR]) nZ.2) (
      (oc [aH] r3.2).bind fun r54=>
      (oc [aH] r54.2).bind fun vN=>
      (A.cells 2 r54.1).bind fun pN=>
      (A.splice 0 pN [(AV.int .u64 0),(AV.int .u64 0)]).bind fun iX=>
      (A.cells 2 vN.1).bind fun iO=>
      (A.splice 0 iO [(AV.int .u64 0),(AV.int .u64 0)]).bind fun Tm=>
      (A.ay 0 2 iX).bind fun gV=>
      (A.ay 0 2 Tm).bind fun jo=>
      A.fin σ (AV.aG [gV,jo]) vN.2)) (
     (A.eql .i x6 (AV.int .i64 6)).bind fun fc=>
     A.cond fc (
      (A.aj 1 c1).bind fun fD=>
      (A.loop (fun v64 gp=>
        (A.add (v64.getD 2 AV.undef) (AV.int .i64 2)).bind fun jR=>
        (A.bJ fD).bind fun iq=>
        (A.lss jR iq).bind fun fP=>
        (A.guard fP true (some a1) an).bind fun ff=>
        (A.guard fP true (A.mul (AV.int .i64 1000) ff) an).bind fun n5=>
        (A.guard fP true (some fD) an).bind fun pY=>
        (A.guard fP true (some (v64.getD 2 AV.undef)) an).bind fun iH=>
        (A.guard fP true (A.add iH aH) an).bind fun iu=>
        (A.guard fP true (A.aT 2 pY iu) an).bind fun eE=>
        (A.guard fP true (A.aA 0 eE) an).bind fun je=>
        (A.guard fP true ((A.deref je gp).bind fun lR=>A.aj 0 lR) an).bind fun jC=>
        (A.guard fP true (some a2) an).bind fun jS=>
        (A.guard fP true (A.mul jC jS) an).bind fun fT=>
        (A.guard fP true (A.geq n5 fT) an).bind fun pZ=>
        (A.pick fP pZ aM).bind fun p4=>
        A.cond p4 (
         (A.add (v64.getD 2 AV.undef) aH).bind fun rj=>
         some (AX.normal,[(v64.getD 0 AV.undef),(v64.getD 1 AV.undef),rj],gp)) (
         some (AX.exit 1,[(v64.getD 0 AV.undef),(v64.getD 1 AV.undef),(v64.getD 2 AV.undef)],gp))) [(AV.lbx [(AV.int .u64 0),(AV.int .u64 0)]),(AV.lbx [(AV.int .u64 0),(AV.int .u64 0)]),ah] r3.2).bind fun CC=>
      bif CC.1==AX.exit 1 then(
       (A.aT 2 fD (CC.2.1.getD 2 AV.undef)).bind fun iI=>
       ((A.deref iI CC.2.2).bind fun xy=>A.ay 0 2 xy).bind fun mO=>
       (A.add (CC.2.1.getD 2 AV.undef) aH).bind fun iJ=>
       (A.aT 2 fD iJ).bind fun Be=>
       ((A.deref Be CC.2.2).bind fun nT=>A.ay 0 2 nT).bind fun x91=>
       (A.cells 2 mO).bind fun c92=>
       (A.splice 0 c92 [ah,ah]).bind fun Cq=>
       (A.cells 2 x91).bind fun sk=>
       (A.splice 0 sk [ah,ah]).bind fun jx=>
       (A.aj 0 jx).bind fun x96=>
       (A.aj 0 Cq).bind fun xV=>
       (A.sub x96 xV).bind fun x98=>
       (A.aj 1 Cq).bind fun x99=>
       (A.mul x99 x98).bind fun nH=>
       (A.mul nH a2).bind fun x101=>
       (A.aj 1 jx).bind fun x102=>
       (A.aj 1 Cq).bind fun vB=>
       (A.sub x102 vB).bind fun x104=>
       (A.mul (AV.int .i64 1000) a1).bind fun Ay=>
       (A.aj 0 Cq).bind fun nI=>
       (A.mul nI a2).bind fun nJ=>
       (A.sub Ay nJ).bind fun IM=>
       (A.mul x104 IM).bind fun nK=>
       (A.add x101 nK).bind fun Az=>
       (oc [Az] CC.2.2).bind fun abg=>
       (A.mul (AV.int .i64 1000) x98).bind fun x112=>
       (oc [x112] abg.2).bind fun sY=>
       (p6 [sY.1,a2] sY.2).bind fun abh=>
       (A.lb (CC.2.1.getD 0 AV.undef)).bind fun Ij=>
       (A.cells 2 abg.1).bind fun tP=>
       (A.splice 0 tP Ij).bind fun tQ=>
       (A.lb (CC.2.1.getD 1 AV.undef)).bind fun RO=>
       (A.cells 2 abh.1).bind fun amS=>
       (A.splice 0 amS RO).bind fun amT=>
       (A.ay 0 2 tQ).bind fun xe=>
       (A.ay 0 2 amT).bind fun IN=>
       A.fin σ (AV.aG [xe,IN]) abh.2)else
      none) (
      (oc [a1] r3.2).bind fun oC=>
      (oc [a2] oC.2).bind fun abi=>
      (A.cells 2 oC.1).bind fun wI=>
      (A.splice 0 wI [(AV.int .u64 0),(AV.int .u64 0)]).bind fun tT=>
      (A.cells 2 abi.1).bind fun qF=>
      (A.splice 0 qF [(AV.int .u64 0),(AV.int .u64 0)]).bind fun lP=>
      (A.ay 0 2 tT).bind fun ng=>
      (A.ay 0 2 lP).bind fun rX=>
      A.fin σ (AV.aG [ng,rX]) abi.2)))))
noncomputable def KI:List AV→Heap→Option (AV×Heap):=A.wrap true [(.a [.k,(.s 2)])] .k (A.lp KP)
noncomputable def Ob (a0 a1:AV) (σ:Heap):Option (AV×Heap):=
 (A.cells 2 a0).bind fun c1=>
 (A.cells 2 a1).bind fun c2=>
 (A.aj 1 c1).bind fun x3=>
 (A.aj 1 c2).bind fun x4=>
 (E0 [x3,x4,(AV.int .u64 0)] σ).bind fun r5=>
 (A.ext 0 r5.1).bind fun x6=>
 (A.ext 1 r5.1).bind fun x7=>
 (A.aj 0 c1).bind fun x8=>
 (A.aj 0 c2).bind fun x9=>
 (E0 [x8,x9,x7] r5.2).bind fun kH=>
 (A.ext 0 kH.1).bind fun bW=>
 (A.ext 1 kH.1).bind fun ct=>
 ((((A.cell bW).bind fun v=>some [v]).bind fun gH=>(A.splice 0 gH [(AV.int .u64 0),(AV.int .u64 0)]).bind fun jP=>((A.cell x6).bind fun v=>some [v]).bind fun jG=>(A.splice 1 jG jP).bind fun ku=>some ku).bind fun cs=>some (AV.agg cs)).bind fun cB=>
 (A.cells 2 cB).bind fun iV=>
 (A.splice 0 iV [(AV.int .u64 0),(AV.int .u64 0)]).bind fun gM=>
 (A.ay 0 2 gM).bind fun cR=>
 A.fin σ cR kH.2
noncomputable def Kj:List AV→Heap→Option (AV×Heap):=A.wrap true [] .k (A.cQ Ob)
noncomputable def Oz (a0 a1 a2 a3:AV) (σ:Heap):Option (AV×Heap):=
 (A.cells 2 a2).bind fun c1=>
 (A.cells 2 a3).bind fun c2=>
 (A.geq a1 a0).bind fun x3=>
 A.cond x3 (
  (A.sub a1 a0).bind fun x4=>
  (A.ay 0 2 c1).bind fun x5=>
  (A.mul (AV.int .i64 2) x4).bind fun x6=>
  (A.quiet (p6 [x5,x6] σ) σ).bind fun x7=>
  (A.ay 0 2 c2).bind fun x8=>
  (A.quiet (Kj [x7,x8] σ) σ).bind fun x9=>
  (A.cells 2 x9).bind fun dZ=>
  (A.splice 0 dZ [(AV.int .u64 0),(AV.int .u64 0)]).bind fun gm=>
  (A.loop (fun v12 sB=>
    (A.lss (v12.getD 2 AV.undef) (v12.getD 3 AV.undef)).bind fun dg=>
    A.cond dg (
     (A.add (v12.getD 2 AV.undef) (v12.getD 3 AV.undef)).bind fun cG=>
     (A.add cG aH).bind fun cB=>
     (A.quo cB (AV.int .i64 2)).bind fun bM=>
     ((A.lb (v12.getD 1 AV.undef)).bind fun gM=>A.ay 0 2 gM).bind fun cR=>
     ((A.lb (v12.getD 0 AV.undef)).bind fun kC=>A.ay 0 2 kC).bind fun dh=>
     (A.mul (AV.int .i64 2) bM).bind fun eP=>
     (A.quiet (p6 [dh,eP] sB) sB).bind fun x24=>
     (A.quiet (EP [cR,x24] sB) sB).bind fun x25=>
     (A.cond x25 (
      (A.sub bM aH).bind fun dL=>
      some ([(v12.getD 0 AV.undef),(v12.getD 1 AV.undef),(v12.getD 2 AV.undef),dL],sB)) (
      some ([(v12.getD 0 AV.undef),(v12.getD 1 AV.undef),bM,(v12.getD 3 AV.undef)],sB))).bind fun kj=>
     some (AX.normal,[(kj.1.getD 0 AV.undef),(kj.1.getD 1 AV.undef),(kj.1.getD 2 AV.undef),(kj.1.getD 3 AV.undef)],kj.2)) (
     some (AX.exit 0,[(v12.getD 0 AV.undef),(v12.getD 1 AV.undef),(v12.getD 2 AV.undef),(v12.getD 3 AV.undef)],sB))) [(AV.lbx c2),(AV.lbx gm),ah,x4] σ).bind fun sA=>
  bif sA.1==AX.exit 0 then(
   (A.add a0 (sA.2.1.getD 2 AV.undef)).bind fun x29=>
   A.fin σ x29 sA.2.2)else
  none) (
  (A.sub a0 a1).bind fun cL=>
  (A.ay 0 2 c1).bind fun x31=>
  (A.mul (AV.int .i64 2) cL).bind fun x32=>
  (p6 [x31,x32] σ).bind fun qX=>
  (A.cells 2 qX.1).bind fun rZ=>
  (A.splice 0 rZ [(AV.int .u64 0),(AV.int .u64 0)]).bind fun gZ=>
  (A.loop (fun jc sE=>
    (A.lss (jc.getD 2 AV.undef) (jc.getD 3 AV.undef)).bind fun eY=>
    A.cond eY (
     (A.add (jc.getD 2 AV.undef) (jc.getD 3 AV.undef)).bind fun dc=>
     (A.quo dc (AV.int .i64 2)).bind fun dV=>
     ((A.lb (jc.getD 0 AV.undef)).bind fun lQ=>A.ay 0 2 lQ).bind fun fB=>
     (A.mul (AV.int .i64 2) dV).bind fun eC=>
     (A.add eC aH).bind fun eo=>
     (A.quiet (p6 [fB,eo] sE) sE).bind fun fC=>
     ((A.lb (jc.getD 1 AV.undef)).bind fun iW=>A.ay 0 2 iW).bind fun gq=>
     (A.quiet (EP [fC,gq] sE) sE).bind fun eD=>
     (A.cond eD (
      (A.add dV aH).bind fun gQ=>
      some ([(jc.getD 0 AV.undef),(jc.getD 1 AV.undef),gQ,(jc.getD 3 AV.undef)],sE)) (
      some ([(jc.getD 0 AV.undef),(jc.getD 1 AV.undef),(jc.getD 2 AV.undef),dV],sE))).bind fun cZ=>
     some (AX.normal,[(cZ.1.getD 0 AV.undef),(cZ.1.getD 1 AV.undef),(cZ.1.getD 2 AV.undef),(cZ.1.getD 3 AV.undef)],cZ.2)) (
     some (AX.exit 2,[(jc.getD 0 AV.undef),(jc.getD 1 AV.undef),(jc.getD 2 AV.undef),(jc.getD 3 AV.undef)],sE))) [(AV.lbx c2),(AV.lbx gZ),ah,cL] qX.2).bind fun Ez=>
  bif Ez.1==AX.exit 2 then(
   (A.sub a0 (Ez.2.1.getD 2 AV.undef)).bind fun gR=>
   A.fin σ gR Ez.2.2)else
  none)
noncomputable def Ov:List AV→Heap→Option (AV×Heap):=A.wrap true [] .k (A.vC Oz)
noncomputable def Wa (a0 a1:AV) (σ:Heap):Option (AV×Heap):=
 (A.cells 7 a0).bind fun c1=>
 (A.aj 2 c1).bind fun x2=>
 (A.aj 3 c1).bind fun x3=>
 (A.add x2 x3).bind fun x4=>
 (A.aj 4 c1).bind fun x5=>
 (A.add x4 x5).bind fun x6=>
 (A.geq a1 x6).bind fun x7=>
 A.cond x7 (
  (A.aj 1 c1).bind fun x8=>
  A.fin σ x8 σ) (
  (A.leq a1 x4).bind fun x9=>
  A.cond x9 (
   (A.aj 0 c1).bind fun bG=>
   A.fin σ bG σ) (
   (A.ay 5 2 c1).bind fun bW=>
   (A.sub a1 x4).bind fun ct=>
   (A.aj 4 c1).bind fun dG=>
   (KI [bW,ct,dG] σ).bind fun i6=>
   (A.ext 0 i6.1).bind fun dg=>
   (A.ext 1 i6.1).bind fun cG=>
   (A.cells 2 dg).bind fun mG=>
   (A.splice 0 mG [(AV.int .u64 0),(AV.int .u64 0)]).bind fun iV=>
   (A.cells 2 cG).bind fun gM=>
   (A.splice 0 gM [(AV.int .u64 0),(AV.int .u64 0)]).bind fun gO=>
   (A.aj 0 c1).bind fun bO=>
   (A.aj 1 c1).bind fun dh=>
   (A.ay 0 2 iV).bind fun eP=>
   (A.ay 0 2 gO).bind fun x24=>
   (Ov [bO,dh,eP,x24] i6.2).bind fun jA=>
   A.fin σ jA.1 jA.2))
noncomputable def Pu:List AV→Heap→Option (AV×Heap):=A.wrap true [Ds] .k (A.cQ Wa)
noncomputable def V9 (a0 a1:AV) (σ:Heap):Option (AV×Heap):=
 (A.cells 7 a0).bind fun c1=>
 (A.ay 0 7 c1).bind fun x2=>
 (N7 [x2] σ).bind fun r3=>
 (CO [a1] r3.2).bind fun r4=>
 (A.not r4.1).bind fun x5=>
 (rC [x5,aH] r4.2).bind fun r6=>
 ((((A.cell r3.1).bind fun v=>some [v]).bind fun c7=>(A.splice 0 c7 [ah,ah]).bind fun c8=>((A.cell r6.1).bind fun v=>some [v]).bind fun c9=>(A.splice 1 c9 c8).bind fun dZ=>some dZ).bind fun cs=>some (AV.sl 1 (chunks 1 2 cs))).bind fun bW=>
 (ya [bW] r6.2).bind fun gG=>
 (A.neq .i gG.1 ah).bind fun dG=>
 A.cond dG (
  A.fin σ (AV.aG [ah,gG.1]) gG.2) (
  (A.ay 0 7 c1).bind fun cE=>
  (Pu [cE,a1] gG.2).bind fun th=>
  A.fin σ (AV.aG [th.1,ah]) th.2)
noncomputable def Pt:List AV→Heap→Option (AV×Heap):=A.wrap true [Ds] .k (A.cQ V9)
end
section
set_option maxRecDepth 100000
noncomputable def Pc (a0:AV) (σ:Heap):Option (AV×Heap):=
 (A.cells 2 a0).bind fun c1=>
 (A.ay 0 2 c1).bind fun x2=>
 (EV [x2] σ).bind fun r3=>
 (A.ext 0 r3.1).bind fun x4=>
 (A.ext 1 r3.1).bind fun x5=>
 (A.bJ x4).bind fun x6=>
 (A.loop (fun v7 s8=>
   (A.lss (v7.getD 0 AV.undef) x6).bind fun bG=>
   A.cond bG (
    (A.aT 2 x4 (v7.getD 0 AV.undef)).bind fun bW=>
    ((A.deref bW s8).bind fun ep=>A.ay 0 2 ep).bind fun dG=>
    (A.cells 2 dG).bind fun jP=>
    (A.splice 0 jP [ah,br]).bind fun jG=>
    (A.ay 0 2 jG).bind fun cG=>
    (A.eA (.s [0,2]) (AV.om r3.2.length) cG cI s8).bind fun h17=>
    (A.add (v7.getD 0 AV.undef) aH).bind fun bM=>
    some (AX.normal,[bM],h17)) (
    some (AX.exit 0,[(v7.getD 0 AV.undef)],s8))) [ah] (r3.2++[aJ.map []])).bind fun kI=>
 bif kI.1==AX.exit 0 then(
  A.fin σ (AV.om r3.2.length) kI.2.2)else
 none
noncomputable def O3:List AV→Heap→Option (AV×Heap):=A.wrap true [(.a [(.s 3),(.s 4)])] .k (A.cK Pc)
noncomputable def OT (a0:AV) (σ:Heap):Option (AV×Heap):=
 (A.eql .z a0 br).bind fun x1=>
 (A.guard x1 false (some a0) an).bind fun x2=>
 (A.guard x1 false (A.quiet (KC [x2] σ) σ) an).bind fun x3=>
 (A.pick x1 cI x3).bind fun x4=>
 A.fin σ x4 σ
noncomputable def OM:List AV→Heap→Option (AV×Heap):=A.wrap true [] .k (A.cK OT)
noncomputable def OA (a0:AV) (σ:Heap):Option (AV×Heap):=
 (jE [a0,ah,(AV.int .i64 65535)] σ).bind fun r1=>
 A.fin σ r1.1 r1.2
noncomputable def Kr:List AV→Heap→Option (AV×Heap):=A.wrap true [] .k (A.cK OA)
noncomputable def OI (a0 a1:AV) (σ:Heap):Option (AV×Heap):=
 (A.cells 2 a0).bind fun c1=>
 (A.cells 2 a1).bind fun c2=>
 (A.aj 0 c1).bind fun x3=>
 (A.aj 0 c2).bind fun x4=>
 (A.neq .i x3 x4).bind fun x5=>
 A.cond x5 (
  (A.aj 0 c1).bind fun x6=>
  (A.aj 0 c2).bind fun x7=>
  (A.lss x6 x7).bind fun x8=>
  A.fin σ x8 σ) (
  (A.aj 1 c1).bind fun x9=>
  (A.aj 1 c2).bind fun bG=>
  (Kl [x9,bG] σ).bind fun dF=>
  (A.lss dF.1 ah).bind fun ct=>
  A.fin σ ct dF.2)
noncomputable def OE:List AV→Heap→Option (AV×Heap):=A.wrap true [] .k (A.cQ OI)
noncomputable def NX (a0 a1:AV) (σ:Heap):Option (AV×Heap):=
 (A.cells 2 a0).bind fun c1=>
 (A.ay 0 2 c1).bind fun x2=>
 (Kb [x2] σ).bind fun r3=>
 (A.bJ a1).bind fun x4=>
 (A.gtr x4 (AV.int .i64 200)).bind fun x5=>
 (rC [x5,(AV.int .i64 2)] r3.2).bind fun r6=>
 ((((A.cell r3.1).bind fun v=>some [v]).bind fun c7=>(A.splice 0 c7 [ah,ah]).bind fun c8=>((A.cell r6.1).bind fun v=>some [v]).bind fun c9=>(A.splice 1 c9 c8).bind fun dZ=>some dZ).bind fun cs=>some (AV.sl 1 (chunks 1 2 cs))).bind fun bW=>
 (ya [bW] r6.2).bind fun gG=>
 (A.neq .i gG.1 ah).bind fun dG=>
 A.cond dG (
  A.fin σ gG.1 gG.2) (
  (A.ay 0 2 c1).bind fun cE=>
  (O3 [cE] gG.2).bind fun th=>
  (A.bJ a1).bind fun cG=>
  (A.loop (fun v17 vQ=>
    (A.lss (v17.getD 1 AV.undef) cG).bind fun cR=>
    A.cond cR (
     (A.aT 3 a1 (v17.getD 1 AV.undef)).bind fun bO=>
     ((A.deref bO vQ).bind fun fZ=>A.ay 0 3 fZ).bind fun eP=>
     (A.cells 3 eP).bind fun gu=>
     (A.splice 0 gu [ah,br,AV.au]).bind fun gP=>
     (A.aj 0 gP).bind fun fA=>
     (jE [fA,aH,(AV.int .i64 999)] vQ).bind fun sy=>
     (A.not sy.1).bind fun x28=>
     A.cond x28 (
      some (AX.ret,[aH,(v17.getD 1 AV.undef)],sy.2)) (
      (A.gtr (v17.getD 1 AV.undef) ah).bind fun x29=>
      (A.guard x29 true (A.aj 0 gP) an).bind fun cL=>
      (A.guard x29 true (some a1) an).bind fun x31=>
      (A.guard x29 true (some (v17.getD 1 AV.undef)) an).bind fun x32=>
      (A.guard x29 true (A.sub x32 aH) an).bind fun eB=>
      (A.guard x29 true (A.aT 3 x31 eB) an).bind fun x34=>
      (A.guard x29 true (A.aA 0 x34) an).bind fun fJ=>
      (A.guard x29 true ((A.deref fJ sy.2).bind fun hG=>A.aj 0 hG) an).bind fun bQ=>
      (A.guard x29 true (A.leq cL bQ) an).bind fun x38=>
      (A.pick x29 x38 aM).bind fun eY=>
      A.cond eY (
       some (AX.ret,[(AV.int .i64 7),(v17.getD 1 AV.undef)],sy.2)) (
       (A.aj 1 gP).bind fun dc=>
       (OM [dc] sy.2).bind fun Ey=>
       (A.not Ey.1).bind fun gA=>
       A.cond gA (
        some (AX.ret,[(AV.int .i64 3),(v17.getD 1 AV.undef)],Ey.2)) (
        (A.aj 2 gP).bind fun fB=>
        (A.bJ fB).bind fun eC=>
        (A.gtr eC (AV.int .i64 2000)).bind fun eo=>
        A.cond eo (
         some (AX.ret,[(AV.int .i64 2),(v17.getD 1 AV.undef)],Ey.2)) (
         (A.aj 2 gP).bind fun fC=>
         (A.bJ fC).bind fun ij=>
         (A.loop (fun oH JF=>
           (A.lss (oH.getD 2 AV.undef) ij).bind fun gQ=>
           A.cond gQ (
            (A.aT 3 fC (oH.getD 2 AV.undef)).bind fun dP=>
            ((A.deref dP JF).bind fun nP=>A.ay 0 3 nP).bind fun gB=>
            (A.cells 3 gB).bind fun iB=>
            (A.splice 0 iB [ah,br,ah]).bind fun pN=>
            (A.ay 0 2 pN).bind fun jK=>
            (A.look (.s [0,2]) th.1 jK aM JF).bind fun gC=>
            (A.not gC).bind fun eZ=>
            A.cond eZ (
             some (AX.ret,[(AV.int .i64 8),(oH.getD 1 AV.undef),(oH.getD 2 AV.undef)],JF)) (
             (A.aj 2 pN).bind fun gV=>
             (Kr [gV] JF).bind fun tC=>
             (A.not tC.1).bind fun fc=>
             A.cond fc (
              some (AX.ret,[aH,(oH.getD 1 AV.undef),(oH.getD 2 AV.undef)],tC.2)) (
              (A.gtr (oH.getD 2 AV.undef) ah).bind fun fD=>
              ((A.lb (oH.getD 1 AV.undef)).bind fun _=>some (2)).bind fun p64=>
                            (A.guard fD true ((A.lb (oH.getD 1 AV.undef)).bind fun xw=>A.aj p64 xw) an).bind fun gD=>
              (A.guard fD true (some (oH.getD 2 AV.undef)) an).bind fun jR=>
              (A.guard fD true (A.sub jR aH) an).bind fun iq=>
              (A.guard fD true (A.aT 3 gD iq) an).bind fun fP=>
              (A.guard fD true (A.aA 0 fP) an).bind fun ff=>
              (A.guard fD true ((A.deref ff tC.2).bind fun lI=>A.ay 0 2 lI) an).bind fun pY=>
              (A.guard fD true (A.ay 0 2 pN) an).bind fun iH=>
              (A.guard fD true (A.quiet (OE [pY,iH] tC.2) tC.2) an).bind fun iu=>
              (A.guard fD true (A.not iu) an).bind fun eE=>
              (A.pick fD eE aM).bind fun je=>
              A.cond je (
               some (AX.ret,[(AV.int .i64 7),(oH.getD 1 AV.undef),(oH.getD 2 AV.undef)],tC.2)) (
               (A.add (oH.getD 2 AV.undef) aH).bind fun xU=>
               some (AX.normal,[(oH.getD 0 AV.undef),(oH.getD 1 AV.undef),xU],tC.2))))) (
            some (AX.exit 3,[(oH.getD 0 AV.undef),(oH.getD 1 AV.undef),(oH.getD 2 AV.undef)],JF))) [(v17.getD 0 AV.undef),(AV.lbx gP),ah] Ey.2).bind fun vP=>
         bif vP.1==AX.exit 3 then(
          (A.add (v17.getD 1 AV.undef) aH).bind fun jS=>
          some (AX.normal,[(vP.2.1.getD 0 AV.undef),jS],vP.2.2))else
         bif vP.1==AX.ret then(
          some (AX.ret,[(vP.2.1.getD 0 AV.undef),(v17.getD 1 AV.undef)],vP.2.2))else
         none))))) (
     some (AX.exit 0,[(v17.getD 0 AV.undef),(v17.getD 1 AV.undef)],vQ))) [ah,ah] th.2).bind fun JB=>
  bif JB.1==AX.exit 0 then(
   A.fin σ ah JB.2.2)else
  bif JB.1==AX.ret then(
   A.fin σ (JB.2.1.getD 0 AV.undef) JB.2.2)else
  none)
noncomputable def J9:List AV→Heap→Option (AV×Heap):=A.wrap true [(.a [(.s 3),(.s 4)]),(.s 3)] .k (A.cQ NX)
noncomputable def OS (a0 a1 a2:AV) (σ:Heap):Option (AV×Heap):=
 (A.cells 2 a1).bind fun c1=>
 (A.cells 2 a2).bind fun c2=>
 (A.aj 0 c2).bind fun x3=>
 (A.neq .i x3 ah).bind fun x4=>
 (A.guard x4 true (A.aj 1 c2) an).bind fun x5=>
 (A.guard x4 true (A.neq .i x5 ah) an).bind fun x6=>
 (A.pick x4 x6 aM).bind fun x7=>
 A.cond x7 (
  A.fin σ (AV.aG [ah,(AV.int .i64 3)]) σ) (
  (A.aj 0 c2).bind fun x8=>
  (Kr [x8] σ).bind fun r9=>
  (A.not r9.1).bind fun bG=>
  A.cond bG (
   A.fin σ (AV.aG [ah,aH]) r9.2) (
   (A.aj 1 c2).bind fun bW=>
   (A.eql .i bW ah).bind fun ct=>
   A.cond ct (
    (A.aj 0 c2).bind fun dG=>
    A.fin σ (AV.aG [dG,ah]) r9.2) (
    (A.bJ a0).bind fun cE=>
    (A.loop (fun bP gJ=>
      (A.lss (bP.getD 4 AV.undef) cE).bind fun bM=>
      A.cond bM (
       (A.aT 3 a0 (bP.getD 4 AV.undef)).bind fun cC=>
       ((A.deref cC gJ).bind fun gO=>A.ay 0 3 gO).bind fun bO=>
       (A.cells 3 bO).bind fun fZ=>
       (A.splice 0 fZ [ah,br,AV.au]).bind fun eu=>
       (A.aj 0 eu).bind fun x24=>
       ((A.lb (bP.getD 1 AV.undef)).bind fun _=>some (1)).bind fun p25=>
       ((A.lb (bP.getD 1 AV.undef)).bind fun fM=>A.aj p25 fM).bind fun dL=>
       (A.neq .i x24 dL).bind fun x28=>
       A.cond x28 (
        (A.add (bP.getD 4 AV.undef) aH).bind fun x29=>
        some (AX.normal,[(bP.getD 0 AV.undef),(bP.getD 1 AV.undef),(bP.getD 2 AV.undef),(bP.getD 3 AV.undef),x29],gJ)) (
        (A.aj 2 eu).bind fun cL=>
        (A.bJ cL).bind fun x31=>
        (A.loop (fun v32 Nw=>
          (A.lss (v32.getD 3 AV.undef) x31).bind fun fJ=>
          A.cond fJ (
           (A.aT 3 cL (v32.getD 3 AV.undef)).bind fun gz=>
           ((A.deref gz Nw).bind fun fI=>A.ay 0 3 fI).bind fun x38=>
           (A.cells 3 x38).bind fun l6=>
           (A.splice 0 l6 [ah,br,ah]).bind fun yU=>
           (A.ay 0 2 yU).bind fun dV=>
           ((A.lb (v32.getD 0 AV.undef)).bind fun lQ=>A.ay 0 2 lQ).bind fun fB=>
           (A.eql (.s [0,2]) dV fB).bind fun eC=>
           A.cond eC (
            (A.aj 2 yU).bind fun eo=>
            some (AX.ret,[(v32.getD 0 AV.undef),eo,ah,(v32.getD 3 AV.undef)],Nw)) (
            (A.add (v32.getD 3 AV.undef) aH).bind fun fC=>
            some (AX.normal,[(v32.getD 0 AV.undef),(v32.getD 1 AV.undef),(v32.getD 2 AV.undef),fC],Nw))) (
           some (AX.exit 2,[(v32.getD 0 AV.undef),(v32.getD 1 AV.undef),(v32.getD 2 AV.undef),(v32.getD 3 AV.undef)],Nw))) [(bP.getD 0 AV.undef),(bP.getD 2 AV.undef),(bP.getD 3 AV.undef),ah] gJ).bind fun nZ=>
        bif nZ.1==AX.exit 2 then(
         some (AX.exit 0,[(nZ.2.1.getD 0 AV.undef),AV.undef,(nZ.2.1.getD 1 AV.undef),(nZ.2.1.getD 2 AV.undef),(bP.getD 4 AV.undef)],nZ.2.2))else
        bif nZ.1==AX.ret then(
         some (AX.ret,[(nZ.2.1.getD 0 AV.undef),AV.undef,(nZ.2.1.getD 1 AV.undef),(nZ.2.1.getD 2 AV.undef),(bP.getD 4 AV.undef)],nZ.2.2))else
        none)) (
       some (AX.exit 0,[(bP.getD 0 AV.undef),(bP.getD 1 AV.undef),(bP.getD 2 AV.undef),(bP.getD 3 AV.undef),(bP.getD 4 AV.undef)],gJ))) [(AV.lbx c1),(AV.lbx c2),ah,ah,ah] r9.2).bind fun kJ=>
    bif kJ.1==AX.exit 0 then(
     A.fin σ (AV.aG [ah,(AV.int .i64 8)]) kJ.2.2)else
    bif kJ.1==AX.ret then(
     A.fin σ (AV.aG [(kJ.2.1.getD 2 AV.undef),(kJ.2.1.getD 3 AV.undef)]) kJ.2.2)else
    none)))
noncomputable def CU:List AV→Heap→Option (AV×Heap):=A.wrap true [(.s 3)] .k (A.lp OS)
end
section
set_option maxRecDepth 100000
noncomputable def OR (a0:AV) (σ:Heap):Option (AV×Heap):=
 (jE [a0,ah,(AV.int .i64 36000000)] σ).bind fun r1=>
 A.fin σ r1.1 r1.2
noncomputable def Bk:List AV→Heap→Option (AV×Heap):=A.wrap true [] .k (A.cK OR)
noncomputable def OG (a0 a1:AV) (σ:Heap):Option (AV×Heap):=
 (A.cells 2 a0).bind fun c1=>
 (A.cells 2 a1).bind fun c2=>
 (A.aj 0 c1).bind fun x3=>
 (A.aj 0 c2).bind fun x4=>
 (A.neq .i x3 x4).bind fun x5=>
 A.cond x5 (
  (A.aj 0 c1).bind fun x6=>
  (A.aj 0 c2).bind fun x7=>
  (A.lss x6 x7).bind fun x8=>
  A.cond x8 (
   A.fin σ (AV.int .i64 (-1)) σ) (
   A.fin σ aH σ)) (
  (A.aj 1 c1).bind fun x9=>
  (A.aj 1 c2).bind fun bG=>
  (Kl [x9,bG] σ).bind fun dF=>
  A.fin σ dF.1 dF.2)
noncomputable def Kv:List AV→Heap→Option (AV×Heap):=A.wrap true [] .k (A.cQ OG)
noncomputable def Oe (a0:AV) (σ:Heap):Option (AV×Heap):=
 (A.bJ a0).bind fun x1=>
 (A.loop (fun v2 s3=>
   (A.lss (v2.getD 1 AV.undef) x1).bind fun x5=>
   A.cond x5 (
    (A.aT 8 a0 (v2.getD 1 AV.undef)).bind fun x6=>
    ((A.deref x6 s3).bind fun c7=>A.ay 0 8 c7).bind fun x8=>
    (A.cells 8 x8).bind fun c9=>
    (A.splice 0 c9 [ah,br,ah,ah,aM,aM,ah,ah]).bind fun dZ=>
    (A.aj 0 dZ).bind fun bW=>
    (jE [bW,aH,(AV.int .i64 9999)] s3).bind fun gG=>
    (A.not gG.1).bind fun dG=>
    A.cond dG (
     some (AX.ret,[aH,(v2.getD 1 AV.undef)],gG.2)) (
     (A.aj 1 dZ).bind fun cE=>
     (E6 [cE] gG.2).bind fun th=>
     (A.not th.1).bind fun cG=>
     A.cond cG (
      some (AX.ret,[(AV.int .i64 5),(v2.getD 1 AV.undef)],th.2)) (
      (A.aj 4 dZ).bind fun cB=>
      (A.guard cB true (A.ay 2 2 dZ) an).bind fun bM=>
      (A.guard cB true (some (AV.agg [ah,ah])) an).bind fun cC=>
      (A.guard cB true (A.neq (.s [0,0]) bM cC) an).bind fun cR=>
      (A.pick cB cR aM).bind fun bO=>
      (A.guard bO false (A.aj 2 dZ) an).bind fun dh=>
      (A.guard bO false (A.neq .i dh ah) an).bind fun eP=>
      (A.guard bO false (some eP) an).bind fun x24=>
      (A.guard x24 true (A.aj 3 dZ) an).bind fun x25=>
      (A.guard x24 true (A.neq .i x25 ah) an).bind fun fA=>
      (A.guard bO false (A.pick x24 fA aM) an).bind fun dL=>
      (A.pick bO cI dL).bind fun x28=>
      A.cond x28 (
       some (AX.ret,[(AV.int .i64 3),(v2.getD 1 AV.undef)],th.2)) (
       (A.aj 2 dZ).bind fun x29=>
       (jE [x29,ah,(AV.int .i64 65535)] th.2).bind fun vM=>
       (A.not vM.1).bind fun x31=>
       (A.guard x31 false (A.aj 3 dZ) an).bind fun x32=>
       (A.guard x31 false (A.quiet (jE [x32,ah,(AV.int .i64 999)] vM.2) vM.2) an).bind fun eB=>
       (A.guard x31 false (A.not eB) an).bind fun x34=>
       (A.pick x31 cI x34).bind fun fJ=>
       A.cond fJ (
        some (AX.ret,[aH,(v2.getD 1 AV.undef)],vM.2)) (
        (A.aj 5 dZ).bind fun gz=>
        (A.not gz).bind fun bQ=>
        (A.guard bQ true (A.aj 6 dZ) an).bind fun x38=>
        (A.guard bQ true (A.neq .i x38 ah) an).bind fun eY=>
        (A.guard bQ true (some eY) an).bind fun dc=>
        (A.guard dc false (A.aj 7 dZ) an).bind fun dV=>
        (A.guard dc false (A.neq .i dV ah) an).bind fun gA=>
        (A.guard bQ true (A.pick dc cI gA) an).bind fun fB=>
        (A.pick bQ fB aM).bind fun eC=>
        A.cond eC (
         some (AX.ret,[(AV.int .i64 3),(v2.getD 1 AV.undef)],vM.2)) (
         (A.aj 6 dZ).bind fun eo=>
         (Bk [eo] vM.2).bind fun nY=>
         (A.not nY.1).bind fun ij=>
         (A.guard ij false (A.aj 7 dZ) an).bind fun gq=>
         (A.guard ij false (A.quiet (Bk [gq] nY.2) nY.2) an).bind fun eD=>
         (A.guard ij false (A.not eD) an).bind fun lU=>
         (A.pick ij cI lU).bind fun gQ=>
         A.cond gQ (
          some (AX.ret,[aH,(v2.getD 1 AV.undef)],nY.2)) (
          (A.gtr (v2.getD 1 AV.undef) ah).bind fun dP=>
          (A.guard dP true (some a0) an).bind fun gR=>
          (A.guard dP true (some (v2.getD 1 AV.undef)) an).bind fun gB=>
          (A.guard dP true (A.sub gB aH) an).bind fun kL=>
          (A.guard dP true (A.aT 8 gR kL) an).bind fun gd=>
          (A.guard dP true (A.aA 0 gd) an).bind fun jK=>
          (A.guard dP true ((A.deref jK nY.2).bind fun iO=>A.ay 0 2 iO) an).bind fun eZ=>
          (A.guard dP true (A.ay 0 2 dZ) an).bind fun gV=>
          (A.guard dP true (A.quiet (Kv [eZ,gV] nY.2) nY.2) an).bind fun jo=>
          (A.guard dP true (A.geq jo ah) an).bind fun fc=>
          (A.pick dP fc aM).bind fun fD=>
          A.cond fD (
           some (AX.ret,[(AV.int .i64 7),(v2.getD 1 AV.undef)],nY.2)) (
           (A.add (v2.getD 1 AV.undef) aH).bind fun lV=>
           some (AX.normal,[(v2.getD 0 AV.undef),lV],nY.2))))))))) (
    some (AX.exit 0,[(v2.getD 0 AV.undef),(v2.getD 1 AV.undef)],s3))) [ah,ah] σ).bind fun vO=>
 bif vO.1==AX.exit 0 then(
  A.fin σ ah vO.2.2)else
 bif vO.1==AX.ret then(
  A.fin σ (vO.2.1.getD 0 AV.undef) vO.2.2)else
 none
noncomputable def Od:List AV→Heap→Option (AV×Heap):=A.wrap true [(.s 8)] .k (A.cK Oe)
noncomputable def PB (a0:AV) (σ:Heap):Option (AV×Heap):=
 (A.bJ a0).bind fun x1=>
 (A.gtr x1 (AV.int .i64 300)).bind fun x2=>
 A.cond x2 (
  A.fin σ (AV.int .i64 2) σ) (
  (A.bJ a0).bind fun x3=>
  (A.loop (fun v4 s5=>
    (A.lss (v4.getD 2 AV.undef) x3).bind fun x7=>
    A.cond x7 (
     (A.aT 11 a0 (v4.getD 2 AV.undef)).bind fun x8=>
     ((A.deref x8 s5).bind fun c9=>A.ay 0 11 c9).bind fun bG=>
     (A.cells 11 bG).bind fun gm=>
     (A.splice 0 gm [ah,br,ah,ah,ah,ah,ah,AV.au,aM,ah,AV.au]).bind fun ep=>
     (A.aj 0 ep).bind fun dG=>
     (jE [dG,aH,(AV.int .i64 9999999)] s5).bind fun i6=>
     (A.not i6.1).bind fun dg=>
     A.cond dg (
      some (AX.ret,[aH,(v4.getD 1 AV.undef),(v4.getD 2 AV.undef)],i6.2)) (
      (A.gtr (v4.getD 2 AV.undef) ah).bind fun cG=>
      (A.guard cG true (A.aj 0 ep) an).bind fun cB=>
      (A.guard cG true (some a0) an).bind fun bM=>
      (A.guard cG true (some (v4.getD 2 AV.undef)) an).bind fun cC=>
      (A.guard cG true (A.sub cC aH) an).bind fun cR=>
      (A.guard cG true (A.aT 11 bM cR) an).bind fun bO=>
      (A.guard cG true (A.aA 0 bO) an).bind fun dh=>
      (A.guard cG true ((A.deref dh i6.2).bind fun eu=>A.aj 0 eu) an).bind fun x24=>
      (A.guard cG true (A.leq cB x24) an).bind fun x25=>
      (A.pick cG x25 aM).bind fun fA=>
      A.cond fA (
       some (AX.ret,[(AV.int .i64 7),(v4.getD 1 AV.undef),(v4.getD 2 AV.undef)],i6.2)) (
       (A.aj 1 ep).bind fun dL=>
       (A.neq .z dL br).bind fun x28=>
       (A.guard x28 true (A.aj 1 ep) an).bind fun x29=>
       (A.guard x28 true (A.quiet (KC [x29] i6.2) i6.2) an).bind fun cL=>
       (A.guard x28 true (A.not cL) an).bind fun x31=>
       (A.pick x28 x31 aM).bind fun x32=>
       A.cond x32 (
        some (AX.ret,[(AV.int .i64 3),(v4.getD 1 AV.undef),(v4.getD 2 AV.undef)],i6.2)) (
        (A.aj 2 ep).bind fun eB=>
        (Bk [eB] i6.2).bind fun nw=>
        (A.not nw.1).bind fun fJ=>
        (A.guard fJ false (A.aj 3 ep) an).bind fun gz=>
        (A.guard fJ false (A.quiet (Bk [gz] nw.2) nw.2) an).bind fun bQ=>
        (A.guard fJ false (A.not bQ) an).bind fun x38=>
        (A.pick fJ cI x38).bind fun eY=>
        (A.guard eY false (A.aj 4 ep) an).bind fun dc=>
        (A.guard eY false (A.quiet (Bk [dc] nw.2) nw.2) an).bind fun dV=>
        (A.guard eY false (A.not dV) an).bind fun gA=>
        (A.pick eY cI gA).bind fun fB=>
        (A.guard fB false (A.aj 5 ep) an).bind fun eC=>
        (A.guard fB false (A.quiet (Bk [eC] nw.2) nw.2) an).bind fun eo=>
        (A.guard fB false (A.not eo) an).bind fun fC=>
        (A.pick fB cI fC).bind fun ij=>
        (A.guard ij false (A.aj 9 ep) an).bind fun gq=>
        (A.guard ij false (A.quiet (jE [gq,(AV.int .i64 (-1)),(AV.int .i64 36000000)] nw.2) nw.2) an).bind fun eD=>
        (A.guard ij false (A.not eD) an).bind fun lU=>
        (A.pick ij cI lU).bind fun gQ=>
        A.cond gQ (
         some (AX.ret,[aH,(v4.getD 1 AV.undef),(v4.getD 2 AV.undef)],nw.2)) (
         (A.ay 6 2 ep).bind fun dP=>
         (Kc [dP] nw.2).bind fun ck=>
         (A.neq .i ck.1 ah).bind fun gB=>
         A.cond gB (
          some (AX.ret,[ck.1,(v4.getD 1 AV.undef),(v4.getD 2 AV.undef)],ck.2)) (
          (A.aj 10 ep).bind fun kL=>
          (A.bJ kL).bind fun gd=>
          (A.gtr gd (AV.int .i64 2000)).bind fun jK=>
          A.cond jK (
           some (AX.ret,[(AV.int .i64 2),(v4.getD 1 AV.undef),(v4.getD 2 AV.undef)],ck.2)) (
           (A.aj 10 ep).bind fun gC=>
           (Od [gC] ck.2).bind fun Ns=>
           (A.neq .i Ns.1 ah).bind fun gV=>
           A.cond gV (
            some (AX.ret,[Ns.1,(v4.getD 1 AV.undef),(v4.getD 2 AV.undef)],Ns.2)) (
            (A.aj 10 ep).bind fun jo=>
            (A.bJ jo).bind fun fc=>
            (A.add (v4.getD 1 AV.undef) fc).bind fun fD=>
            (A.add (v4.getD 2 AV.undef) aH).bind fun lV=>
            some (AX.normal,[(v4.getD 0 AV.undef),fD,lV],Ns.2))))))))) (
     some (AX.exit 0,[(v4.getD 0 AV.undef),(v4.getD 1 AV.undef),(v4.getD 2 AV.undef)],s5))) [ah,ah,ah] σ).bind fun vO=>
  bif vO.1==AX.exit 0 then(
   (A.gtr (vO.2.1.getD 1 AV.undef) (AV.int .i64 10000)).bind fun gD=>
   (rC [gD,(AV.int .i64 2)] vO.2.2).bind fun eX=>
   A.fin σ eX.1 eX.2)else
  bif vO.1==AX.ret then(
   A.fin σ (vO.2.1.getD 0 AV.undef) vO.2.2)else
  none)
noncomputable def Hq:List AV→Heap→Option (AV×Heap):=A.wrap true [(.e 11 uh)] .k (A.cK PB)
noncomputable def Om (a0 a1 a2:AV) (σ:Heap):Option (AV×Heap):=
 (A.cells 2 a0).bind fun c1=>
 (A.ay 0 2 c1).bind fun x2=>
 (J9 [x2,a1] σ).bind fun r3=>
 (Hq [a2] r3.2).bind fun r4=>
 ((((A.cell r3.1).bind fun v=>some [v]).bind fun c5=>(A.splice 0 c5 [ah,ah]).bind fun c6=>((A.cell r4.1).bind fun v=>some [v]).bind fun c7=>(A.splice 1 c7 c6).bind fun c8=>some c8).bind fun cs=>some (AV.sl 1 (chunks 1 2 cs))).bind fun x9=>
 (ya [x9] r4.2).bind fun kH=>
 (A.neq .i kH.1 ah).bind fun bW=>
 A.cond bW (
  A.fin σ kH.1 kH.2) (
  (A.ay 0 2 c1).bind fun ct=>
  (EV [ct] kH.2).bind fun qW=>
  (A.ext 0 qW.1).bind fun cE=>
  (A.ext 1 qW.1).bind fun dg=>
  (A.bJ cE).bind fun cG=>
  (A.loop (fun v17 vQ=>
    (A.lss (v17.getD 0 AV.undef) cG).bind fun cR=>
    A.cond cR (
     (A.aT 2 cE (v17.getD 0 AV.undef)).bind fun bO=>
     ((A.deref bO vQ).bind fun fZ=>A.ay 0 2 fZ).bind fun eP=>
     (A.cells 2 eP).bind fun gu=>
     (A.splice 0 gu [ah,br]).bind fun gP=>
     (A.ay 0 2 gP).bind fun fA=>
     (A.eA (.s [0,2]) (AV.om qW.2.length) fA cI vQ).bind fun h27=>
     (A.add (v17.getD 0 AV.undef) aH).bind fun x28=>
     some (AX.normal,[x28],h27)) (
     some (AX.exit 0,[(v17.getD 0 AV.undef)],vQ))) [ah] (qW.2++[aJ.map []])).bind fun gn=>
  bif gn.1==AX.exit 0 then(
   (A.bJ a2).bind fun cL=>
   (A.loop (fun v31 sD=>
     (A.lss (v31.getD 1 AV.undef) cL).bind fun x34=>
     A.cond x34 (
      (A.aT 11 a2 (v31.getD 1 AV.undef)).bind fun fJ=>
      ((A.deref fJ sD).bind fun hG=>A.ay 0 11 hG).bind fun bQ=>
      (A.cells 11 bQ).bind fun lu=>
      (A.splice 0 lu [ah,br,ah,ah,ah,ah,ah,AV.au,aM,ah,AV.au]).bind fun l6=>
      (A.aj 10 l6).bind fun dc=>
      (A.bJ dc).bind fun dV=>
      (A.loop (fun CD JE=>
        (A.lss (CD.getD 1 AV.undef) dV).bind fun eo=>
        A.cond eo (
         (A.aT 8 dc (CD.getD 1 AV.undef)).bind fun fC=>
         ((A.deref fC JE).bind fun iW=>A.ay 0 8 iW).bind fun gq=>
         (A.cells 8 gq).bind fun AI=>
         (A.splice 0 AI [ah,br,ah,ah,aM,aM,ah,ah]).bind fun nO=>
         (A.ay 0 2 nO).bind fun gQ=>
         (A.look (.s [0,2]) (AV.om qW.2.length) gQ aM JE).bind fun dP=>
         (A.not dP).bind fun gR=>
         A.cond gR (
          some (AX.ret,[(AV.int .i64 8),(CD.getD 1 AV.undef)],JE)) (
          (A.ay 0 2 nO).bind fun gB=>
          (A.ay 2 2 nO).bind fun kL=>
          (CU [a1,gB,kL] JE).bind fun Nr=>
          (A.ext 0 Nr.1).bind fun jK=>
          (A.ext 1 Nr.1).bind fun gC=>
          (A.neq .i gC ah).bind fun eZ=>
          A.cond eZ (
           some (AX.ret,[gC,(CD.getD 1 AV.undef)],Nr.2)) (
           (A.add (CD.getD 1 AV.undef) aH).bind fun gV=>
           some (AX.normal,[(CD.getD 0 AV.undef),gV],Nr.2)))) (
         some (AX.exit 4,[(CD.getD 0 AV.undef),(CD.getD 1 AV.undef)],JE))) [(v31.getD 0 AV.undef),ah] sD).bind fun tC=>
      bif tC.1==AX.exit 4 then(
       (A.add (v31.getD 1 AV.undef) aH).bind fun fc=>
       some (AX.normal,[(tC.2.1.getD 0 AV.undef),fc],tC.2.2))else
      bif tC.1==AX.ret then(
       some (AX.ret,[(tC.2.1.getD 0 AV.undef),(v31.getD 1 AV.undef)],tC.2.2))else
      none) (
      some (AX.exit 2,[(v31.getD 0 AV.undef),(v31.getD 1 AV.undef)],sD))) [ah,ah] gn.2.2).bind fun CA=>
   bif CA.1==AX.exit 2 then(
    A.fin σ ah CA.2.2)else
   bif CA.1==AX.ret then(
    A.fin σ (CA.2.1.getD 0 AV.undef) CA.2.2)else
   none)else
  none)
noncomputable def Oj:List AV→Heap→Option (AV×Heap):=A.wrap true [(.a [(.e 3 Dr),(.s 4)]),(.e 3 [.k,.k,(.s 3)]),(.e 11 uh)] .k (A.lp Om)
noncomputable def Pb (a0:AV) (σ:Heap):Option (AV×Heap):=
 (A.bJ a0).bind fun x1=>
 (A.loop (fun v2 s3=>
   (A.lss (v2.getD 0 AV.undef) x1).bind fun x5=>
   A.cond x5 (
    (A.aT 11 a0 (v2.getD 0 AV.undef)).bind fun x6=>
    ((A.deref x6 s3).bind fun c7=>A.ay 0 11 c7).bind fun x8=>
    (A.cells 11 x8).bind fun c9=>
    (A.splice 0 c9 [ah,br,ah,ah,ah,ah,ah,AV.au,aM,ah,AV.au]).bind fun dZ=>
    (A.aj 10 dZ).bind fun bW=>
    (A.bJ bW).bind fun ct=>
    (A.loop (fun kT xR=>
      (A.lss (kT.getD 1 AV.undef) ct).bind fun cG=>
      A.cond cG (
       (A.aT 8 bW (kT.getD 1 AV.undef)).bind fun cB=>
       ((A.deref cB xR).bind fun iV=>A.ay 0 8 iV).bind fun cC=>
       (A.cells 8 cC).bind fun gO=>
       (A.splice 0 gO [ah,br,ah,ah,aM,aM,ah,ah]).bind fun kC=>
       (A.aj 4 kC).bind fun dh=>
       (A.cond dh (
        (A.ay 0 2 kC).bind fun x24=>
        (A.DM (.s [0,2]) (AV.om σ.length) x24 xR).bind fun h25=>
        some ([(kT.getD 0 AV.undef)],h25)) (
        (A.ay 0 2 kC).bind fun fA=>
        (A.ay 0 2 kC).bind fun dL=>
        (A.ay 2 2 kC).bind fun x28=>
        ((A.lb (kT.getD 0 AV.undef)).bind fun _=>some (0)).bind fun p29=>
        ((A.lb (kT.getD 0 AV.undef)).bind fun um=>A.aj p29 um).bind fun x31=>
        (((A.cells 2 dL).bind fun Tj=>(A.splice 0 Tj [ah,br,ah,ah,ah]).bind fun D6=>(A.cells 2 x28).bind fun rZ=>(A.splice 2 rZ D6).bind fun gZ=>((A.cell x31).bind fun v=>some [v]).bind fun hG=>(A.splice 4 hG gZ).bind fun fI=>some fI).bind fun cs=>some (AV.agg cs)).bind fun x38=>
        (A.eA (.s [0,2]) (AV.om σ.length) fA x38 xR).bind fun qQ=>
        some ([(kT.getD 0 AV.undef)],qQ))).bind fun nv=>
       (A.add (kT.getD 1 AV.undef) aH).bind fun dc=>
       some (AX.normal,[(nv.1.getD 0 AV.undef),dc],nv.2)) (
       some (AX.exit 2,[(kT.getD 0 AV.undef),(kT.getD 1 AV.undef)],xR))) [(AV.lbx dZ),ah] s3).bind fun Ey=>
    bif Ey.1==AX.exit 2 then(
     (A.add (v2.getD 0 AV.undef) aH).bind fun gA=>
     some (AX.normal,[gA],Ey.2.2))else
    none) (
    some (AX.exit 0,[(v2.getD 0 AV.undef)],s3))) [ah] (σ++[aJ.map []])).bind fun iP=>
 bif iP.1==AX.exit 0 then(
  A.fin σ (AV.om σ.length) iP.2.2)else
 none
noncomputable def Hg:List AV→Heap→Option (AV×Heap):=A.wrap true [(.e 11 uh)] .k (A.cK Pb)
noncomputable def On (a0 a1:AV) (σ:Heap):Option (AV×Heap):=
 (A.cells 11 a0).bind fun c1=>
 (A.aj 0 c1).bind fun x2=>
 (A.sub x2 a1).bind fun x3=>
 A.fin σ x3 σ
noncomputable def CN:List AV→Heap→Option (AV×Heap):=A.wrap true [(.a uh)] .k (A.cQ On)
noncomputable def KO (a0 a1:AV) (σ:Heap):Option (AV×Heap):=
 (EF (A.tab (fun _ _=>none) [(177,CN)]) [a0,a1,(AV.fn 177 [])] σ).bind fun r1=>
 (A.ext 0 r1.1).bind fun x2=>
 (A.ext 1 r1.1).bind fun x3=>
 A.fin σ (AV.aG [x2,x3]) r1.2
noncomputable def E5:List AV→Heap→Option (AV×Heap):=A.wrap true [(.e 11 uh)] .k (A.cQ KO)
noncomputable def adn (a0 a1:AV) (σ:Heap):Option (AV×Heap):=
 (A.cells 5 a0).bind fun c1=>
 (A.cells 5 a1).bind fun c2=>
 (A.ay 0 2 c1).bind fun x3=>
 (A.ay 0 2 c2).bind fun x4=>
 (Kv [x3,x4] σ).bind fun r5=>
 A.fin σ r5.1 r5.2
noncomputable def UL:List AV→Heap→Option (AV×Heap):=A.wrap true [] .k (A.cQ adn)
noncomputable def KN (a0 a1:AV) (σ:Heap):Option (AV×Heap):=
 (Hq [a0] σ).bind fun r1=>
 (A.neq .i r1.1 ah).bind fun x2=>
 A.cond x2 (
  (A.fin σ (AV.aG [AV.au,r1.1]) r1.2).map fun p=>(A.nn (.t [(.s 5),.k]) p.1,p.2)) (
  (E5 [a0,a1] r1.2).bind fun r3=>
  (A.ext 0 r3.1).bind fun x4=>
  (A.ext 1 r3.1).bind fun x5=>
  (A.not x5).bind fun x6=>
  A.cond x6 (
   (A.fin σ (AV.aG [AV.au,(AV.int .i64 8)]) r3.2).map fun p=>(A.nn (.t [(.s 5),.k]) p.1,p.2)) (
   (A.add x4 aH).bind fun x7=>
   (A.Dk 11 a0 none (some x7) r3.2).bind fun x8=>
   (Hg [x8] r3.2).bind fun r9=>
   (A.BJ r9.1).bind fun anK=>
   A.zS (fun v11 kK Nn=>
     A.sP (AV.op r9.2.length 0) kK fun cE Ba=>
     (A.ext 0 cE).bind fun cG=>
     A.cond cG (
      (A.uW (AV.op r9.2.length 0) Ba).bind fun cB=>
      (A.ext 1 cB).bind fun bM=>
      (A.cells 5 bM).bind fun gM=>
      (A.splice 0 gM [ah,br,ah,ah,ah]).bind fun gO=>
      (A.ay 0 5 gO).bind fun bO=>
      (((A.cells 5 bO).bind fun fZ=>(A.splice 0 fZ [ah,br,ah,ah,ah]).bind fun eu=>some eu).bind fun cs=>some (AV.sl 5 (chunks 5 1 cs))).bind fun x24=>
      (A.append 5 (140737488355328 / 48) (v11.getD 0 AV.undef) x24 Ba).bind fun jA=>
      Nn (AX.normal,[jA.1],jA.2)) (
      Nn (AX.exit 0,[(v11.getD 0 AV.undef)],Ba))) [AV.au] (r9.2++[aJ.it [] anK]) fun kj=>
   bif kj.1==AX.exit 0 then(
    (GM [(kj.2.1.getD 0 AV.undef),(AV.fn 297 [])] kj.2.2).bind fun sy=>
    (A.fin σ (AV.aG [(kj.2.1.getD 0 AV.undef),ah]) sy.2).map fun p=>(A.nn (.t [(.s 5),.k]) p.1,p.2))else
   none))
noncomputable def KH:List AV→Heap→Option (AV×Heap):=A.wrap true [(.e 11 uh)] (.t [(.s 5),.k]) (A.cQ KN)
end
section
set_option maxRecDepth 100000
noncomputable def Oq (a0 a1:AV) (σ:Heap):Option (AV×Heap):=
 (A.cells 2 a0).bind fun c1=>
 (A.aj 0 c1).bind fun x2=>
 ((A.deref a1 σ).bind fun c3=>A.aj 0 c3).bind fun x4=>
 (A.eql .i x2 x4).bind fun x5=>
 A.fin σ x5 σ
noncomputable def GY:List AV→Heap→Option (AV×Heap):=A.wrap true [(.a [.k,(.s 11)])] .k (A.cQ Oq)
noncomputable def KQ (a0 a1:AV) (σ:Heap):Option (AV×Heap):=
 (A.cells 5 a0).bind fun c1=>
 (((A.cell a1).bind fun v=>some [v]).bind fun cs=>some (AV.rp cs)).bind fun x2=>
 (A.aj 3 c1).bind fun x3=>
 (J4 (A.tab (fun _ _=>none) [(127,GY)]) [x3,(AV.fn 127 [x2])] σ).bind fun r4=>
 (A.lss r4.1 ah).bind fun x5=>
 A.cond x5 (
  (A.cells 2 (AV.agg [ah,AV.au])).bind fun c6=>
  (A.splice 0 c6 [ah,AV.au]).bind fun c7=>
  (A.ay 0 2 c7).bind fun x8=>
  A.fin σ (AV.aG [x8,aM]) r4.2) (
  (A.aj 3 c1).bind fun x9=>
  (A.aT 2 x9 r4.1).bind fun bG=>
  ((A.deref bG r4.2).bind fun gm=>A.ay 0 2 gm).bind fun ct=>
  (A.cells 2 ct).bind fun gH=>
  (A.splice 0 gH [ah,AV.au]).bind fun jP=>
  (A.ay 0 2 jP).bind fun dg=>
  A.fin σ (AV.aG [dg,cI]) r4.2)
noncomputable def Bm:List AV→Heap→Option (AV×Heap):=A.wrap true [yL] (.t [(.a [.k,(.e 11 uh)]),.k]) (A.cQ KQ)
noncomputable def Oc (a0:AV) (σ:Heap):Option (AV×Heap):=
 (A.cells 5 a0).bind fun c1=>
 (A.ay 0 2 c1).bind fun x2=>
 (A.aj 2 c1).bind fun x3=>
 (A.quiet (J9 [x2,x3] σ) σ).bind fun x4=>
 (A.aj 3 c1).bind fun x5=>
 (A.bJ x5).bind fun x6=>
 (A.gtr x6 (AV.int .i64 30)).bind fun x7=>
 (A.quiet (rC [x7,(AV.int .i64 2)] σ) σ).bind fun x8=>
 ((((A.cell x4).bind fun v=>some [v]).bind fun c9=>(A.splice 0 c9 [ah,ah]).bind fun dZ=>((A.cell x8).bind fun v=>some [v]).bind fun gm=>(A.splice 1 gm dZ).bind fun ep=>some ep).bind fun cs=>some (AV.sl 1 (chunks 1 2 cs))).bind fun dG=>
 (A.quiet (ya [dG] σ) σ).bind fun cE=>
 (A.neq .i cE ah).bind fun dg=>
 A.cond dg (
  A.fin σ cE σ) (
  (A.aj 3 c1).bind fun cG=>
  (A.bJ cG).bind fun cB=>
  (A.loop (fun mj T6=>
    (A.lss (mj.getD 2 AV.undef) cB).bind fun bO=>
    A.cond bO (
     (A.aT 2 cG (mj.getD 2 AV.undef)).bind fun dh=>
     ((A.deref dh T6).bind fun eu=>A.ay 0 2 eu).bind fun x24=>
     (A.cells 2 x24).bind fun gP=>
     (A.splice 0 gP [ah,AV.au]).bind fun fM=>
     (A.aj 0 fM).bind fun dL=>
     (jE [dL,aH,(AV.int .i64 999)] T6).bind fun sA=>
     (A.not sA.1).bind fun x29=>
     A.cond x29 (
      some (AX.ret,[(mj.getD 0 AV.undef),aH,(mj.getD 2 AV.undef)],sA.2)) (
      (A.gtr (mj.getD 2 AV.undef) ah).bind fun cL=>
      (A.guard cL true (A.aj 0 fM) an).bind fun x31=>
      ((A.lb (mj.getD 0 AV.undef)).bind fun _=>some (3)).bind fun p32=>
            (A.guard cL true ((A.lb (mj.getD 0 AV.undef)).bind fun D6=>A.aj p32 D6) an).bind fun x34=>
      (A.guard cL true (some (mj.getD 2 AV.undef)) an).bind fun fJ=>
      (A.guard cL true (A.sub fJ aH) an).bind fun gz=>
      (A.guard cL true (A.aT 2 x34 gz) an).bind fun bQ=>
      (A.guard cL true (A.aA 0 bQ) an).bind fun x38=>
      (A.guard cL true ((A.deref x38 sA.2).bind fun l6=>A.aj 0 l6) an).bind fun dc=>
      (A.guard cL true (A.leq x31 dc) an).bind fun dV=>
      (A.pick cL dV aM).bind fun gA=>
      A.cond gA (
       some (AX.ret,[(mj.getD 0 AV.undef),(AV.int .i64 7),(mj.getD 2 AV.undef)],sA.2)) (
       ((A.lb (mj.getD 0 AV.undef)).bind fun _=>some (0)).bind fun p43=>
       ((A.lb (mj.getD 0 AV.undef)).bind fun Tk=>A.ay p43 2 Tk).bind fun eo=>
       ((A.lb (mj.getD 0 AV.undef)).bind fun _=>some (2)).bind fun Ju=>
       ((A.lb (mj.getD 0 AV.undef)).bind fun iW=>A.aj Ju iW).bind fun gq=>
       (A.aj 1 fM).bind fun eD=>
       (Oj [eo,gq,eD] sA.2).bind fun cZ=>
       (A.neq .i cZ.1 ah).bind fun gQ=>
       A.cond gQ (
        some (AX.ret,[(mj.getD 0 AV.undef),cZ.1,(mj.getD 2 AV.undef)],cZ.2)) (
        (A.add (mj.getD 2 AV.undef) aH).bind fun dP=>
        some (AX.normal,[(mj.getD 0 AV.undef),(mj.getD 1 AV.undef),dP],cZ.2))))) (
     some (AX.exit 0,[(mj.getD 0 AV.undef),(mj.getD 1 AV.undef),(mj.getD 2 AV.undef)],T6))) [(AV.lbx c1),ah,ah] σ).bind fun ck=>
  bif ck.1==AX.exit 0 then(
   ((A.lb (ck.2.1.getD 0 AV.undef)).bind fun _=>some (4)).bind fun p54=>
   ((A.lb (ck.2.1.getD 0 AV.undef)).bind fun iB=>A.aj p54 iB).bind fun gd=>
   (A.bJ gd).bind fun jK=>
   (A.gtr jK (AV.int .i64 40)).bind fun gC=>
   A.cond gC (
    A.fin σ (AV.int .i64 2) ck.2.2) (
    ((A.lb (ck.2.1.getD 0 AV.undef)).bind fun _=>some (4)).bind fun p59=>
    ((A.lb (ck.2.1.getD 0 AV.undef)).bind fun AJ=>A.aj p59 AJ).bind fun jo=>
    (A.bJ jo).bind fun fc=>
    (A.loop (fun mN T8=>
      (A.lss (mN.getD 2 AV.undef) fc).bind fun gD=>
      A.cond gD (
       (A.aT 3 jo (mN.getD 2 AV.undef)).bind fun jR=>
       ((A.deref jR T8).bind fun IT=>A.ay 0 3 IT).bind fun fP=>
       (A.cells 3 fP).bind fun To=>
       (A.splice 0 To [ah,ah,ah]).bind fun lI=>
       (A.aj 0 lI).bind fun pY=>
       (jE [pY,aH,(AV.int .i64 40)] T8).bind fun JA=>
       (A.not JA.1).bind fun iu=>
       A.cond iu (
        some (AX.ret,[(mN.getD 0 AV.undef),aH,(mN.getD 2 AV.undef)],JA.2)) (
        (A.gtr (mN.getD 2 AV.undef) ah).bind fun eE=>
        (A.guard eE true (A.aj 0 lI) an).bind fun je=>
        ((A.lb (mN.getD 0 AV.undef)).bind fun _=>some (4)).bind fun sx=>
                (A.guard eE true ((A.lb (mN.getD 0 AV.undef)).bind fun nR=>A.aj sx nR) an).bind fun jS=>
        (A.guard eE true (some (mN.getD 2 AV.undef)) an).bind fun fT=>
        (A.guard eE true (A.sub fT aH) an).bind fun pZ=>
        (A.guard eE true (A.aT 3 jS pZ) an).bind fun p4=>
        (A.guard eE true (A.aA 0 p4) an).bind fun rj=>
        (A.guard eE true ((A.deref rj JA.2).bind fun iY=>A.aj 0 iY) an).bind fun iI=>
        (A.guard eE true (A.leq je iI) an).bind fun jD=>
        (A.pick eE jD aM).bind fun mO=>
        A.cond mO (
         some (AX.ret,[(mN.getD 0 AV.undef),(AV.int .i64 7),(mN.getD 2 AV.undef)],JA.2)) (
         ((A.lb (mN.getD 0 AV.undef)).bind fun AM=>A.ay 0 5 AM).bind fun Be=>
         (A.aj 1 lI).bind fun x90=>
         (Bm [Be,x90] JA.2).bind fun zc=>
         (A.ext 0 zc.1).bind fun n9=>
         (A.ext 1 zc.1).bind fun x93=>
         (A.cells 2 n9).bind fun sk=>
         (A.splice 0 sk [ah,AV.au]).bind fun jx=>
         (A.not x93).bind fun x96=>
         A.cond x96 (
          some (AX.ret,[(mN.getD 0 AV.undef),(AV.int .i64 8),(mN.getD 2 AV.undef)],zc.2)) (
          (A.aj 2 lI).bind fun xV=>
          (jE [xV,ah,(AV.int .i64 100)] zc.2).bind fun ze=>
          (A.not ze.1).bind fun x99=>
          A.cond x99 (
           some (AX.ret,[(mN.getD 0 AV.undef),aH,(mN.getD 2 AV.undef)],ze.2)) (
           (A.add (mN.getD 2 AV.undef) aH).bind fun nH=>
           some (AX.normal,[(mN.getD 0 AV.undef),(mN.getD 1 AV.undef),nH],ze.2)))))) (
       some (AX.exit 2,[(mN.getD 0 AV.undef),(mN.getD 1 AV.undef),(mN.getD 2 AV.undef)],T8))) [(ck.2.1.getD 0 AV.undef),(ck.2.1.getD 1 AV.undef),ah] ck.2.2).bind fun vw=>
    bif vw.1==AX.exit 2 then(
     A.fin σ ah vw.2.2)else
    bif vw.1==AX.ret then(
     A.fin σ (vw.2.1.getD 1 AV.undef) vw.2.2)else
    none))else
  bif ck.1==AX.ret then(
   A.fin σ (ck.2.1.getD 1 AV.undef) ck.2.2)else
  none)
noncomputable def Kk:List AV→Heap→Option (AV×Heap):=A.wrap true [yL] .k (A.cK Oc)
noncomputable def N6 (a0:AV) (σ:Heap):Option (AV×Heap):=
 (A.cells 5 a0).bind fun c1=>
 (A.aj 1 c1).bind fun x2=>
 (jE [x2,aH,(AV.int .i64 9)] σ).bind fun r3=>
 (A.not r3.1).bind fun x4=>
 A.cond x4 (
  A.fin σ (AV.int .i64 4) r3.2) (
  (A.aj 1 c1).bind fun x5=>
  (A.eql .i x5 (AV.int .i64 8)).bind fun x6=>
  (A.guard x6 false (A.aj 1 c1) an).bind fun x7=>
  (A.guard x6 false (A.eql .i x7 (AV.int .i64 9)) an).bind fun x8=>
  (A.pick x6 cI x8).bind fun x9=>
  (A.guard x9 false (A.aj 1 c1) an).bind fun bG=>
  (A.guard x9 false (A.eql .i bG (AV.int .i64 6)) an).bind fun bW=>
  (A.pick x9 cI bW).bind fun ct=>
  (A.guard ct false (A.aj 1 c1) an).bind fun dG=>
  (A.guard ct false (A.eql .i dG (AV.int .i64 7)) an).bind fun cE=>
  (A.pick ct cI cE).bind fun dg=>
  (A.guard x9 true (A.aj 2 c1) an).bind fun cG=>
  (A.guard x9 true (A.neq .i cG ah) an).bind fun cB=>
  (A.pick x9 cB aM).bind fun bM=>
  (A.guard bM false (A.aj 1 c1) an).bind fun cC=>
  (A.guard bM false (A.neq .i cC (AV.int .i64 3)) an).bind fun cR=>
  (A.guard bM false (some cR) an).bind fun bO=>
  (A.guard bO true (A.aj 3 c1) an).bind fun dh=>
  (A.guard bO true (A.neq .i dh ah) an).bind fun eP=>
  (A.guard bM false (A.pick bO eP aM) an).bind fun x24=>
  (A.pick bM cI x24).bind fun x25=>
  (A.guard x25 false (some dg) an).bind fun fA=>
  (A.guard x25 false (A.not fA) an).bind fun dL=>
  (A.guard x25 false (some dL) an).bind fun x28=>
  (A.guard x28 true (A.aj 4 c1) an).bind fun x29=>
  (A.guard x28 true (A.neq .i x29 ah) an).bind fun cL=>
  (A.guard x25 false (A.pick x28 cL aM) an).bind fun x31=>
  (A.pick x25 cI x31).bind fun x32=>
  A.cond x32 (
   A.fin σ (AV.int .i64 3) r3.2) (
   A.fin σ ah r3.2))
noncomputable def Ke:List AV→Heap→Option (AV×Heap):=A.wrap true [] .k (A.cK N6)
noncomputable def NS (a0 a1:AV) (σ:Heap):Option (AV×Heap):=
 (A.cells 3 a0).bind fun c1=>
 (A.aj 0 c1).bind fun x2=>
 (A.aA 2 a1).bind fun x3=>
 ((A.deref x3 σ).bind fun c4=>A.aj 0 c4).bind fun x5=>
 (A.eql .i x2 x5).bind fun x6=>
 A.fin σ x6 σ
noncomputable def GN:List AV→Heap→Option (AV×Heap):=A.wrap true [] .k (A.cQ NS)
noncomputable def Kg (a0 a1:AV) (σ:Heap):Option (AV×Heap):=
 (A.cells 5 a0).bind fun c1=>
 ((A.cells 5 a1).bind fun cs=>some (AV.rp cs)).bind fun x2=>
 (A.aA 1 x2).bind fun x3=>
 ((A.deref x3 σ).bind fun c4=>A.aj 0 c4).bind fun x5=>
 (A.eql .i x5 (AV.int .i64 8)).bind fun x6=>
 (A.guard x6 false (A.aA 1 x2) an).bind fun x7=>
 (A.guard x6 false ((A.deref x7 σ).bind fun c8=>A.aj 0 c8) an).bind fun x9=>
 (A.guard x6 false (A.eql .i x9 (AV.int .i64 9)) an).bind fun bG=>
 (A.pick x6 cI bG).bind fun bW=>
 (A.not bW).bind fun ct=>
 (A.guard ct true (A.aj 4 c1) an).bind fun dG=>
 (A.guard ct true (some (AV.fn 152 [x2])) an).bind fun cE=>
 (A.guard ct true (A.quiet (JU (A.tab (fun _ _=>none) [(152,GN)]) [dG,cE] σ) σ) an).bind fun dg=>
 (A.guard ct true (A.not dg) an).bind fun cG=>
 (A.pick ct cG aM).bind fun cB=>
 A.cond cB (
  A.fin σ (AV.int .i64 8) σ) (
  (A.aA 1 x2).bind fun bM=>
  ((A.deref bM σ).bind fun gM=>A.aj 0 gM).bind fun cR=>
  (A.eql .i cR (AV.int .i64 6)).bind fun bO=>
  (A.cond bO (
   some ([(AV.int .i64 36000000)],σ)) (
   (A.eql .i cR (AV.int .i64 9)).bind fun eP=>
   (A.cond eP (
    some ([aH],σ)) (
    some ([(AV.int .i64 65535)],σ))).bind fun tv=>
   some ([(tv.1.getD 0 AV.undef)],tv.2))).bind fun Ex=>
  (A.aA 4 x2).bind fun x25=>
  ((A.deref x25 Ex.2).bind fun fM=>A.aj 0 fM).bind fun dL=>
  (jE [dL,ah,(Ex.1.getD 0 AV.undef)] Ex.2).bind fun sA=>
  (A.not sA.1).bind fun x29=>
  (rC [x29,aH] sA.2).bind fun vM=>
  A.fin σ vM.1 vM.2)
noncomputable def Kf:List AV→Heap→Option (AV×Heap):=A.wrap true [yL] .k (A.cQ Kg)
noncomputable def U2 (a0:AV) (σ:Heap):Option (AV×Heap):=
 (jE [a0,ah,(AV.int .i64 36000000)] σ).bind fun r1=>
 A.fin σ r1.1 r1.2
noncomputable def G6:List AV→Heap→Option (AV×Heap):=A.wrap true [] .k (A.cK U2)
noncomputable def UG (a0:AV) (σ:Heap):Option (AV×Heap):=
 (A.aL a0).bind fun x1=>
 (A.aA 11 x1).bind fun x2=>
 ((A.deref x2 σ).bind fun c3=>A.aj 0 c3).bind fun x4=>
 (A.bJ x4).bind fun x5=>
 (A.eql .i x5 ah).bind fun x6=>
 A.cond x6 (
  A.fin σ ah σ) (
  (A.aL a0).bind fun x7=>
  (A.aA 11 x7).bind fun x8=>
  ((A.deref x8 σ).bind fun c9=>A.aj 0 c9).bind fun bG=>
  (A.aL a0).bind fun bW=>
  (A.aA 11 bW).bind fun ct=>
  ((A.deref ct σ).bind fun gH=>A.aj 0 gH).bind fun cE=>
  (A.bJ cE).bind fun dg=>
  (A.sub dg aH).bind fun cG=>
  (A.aT 5 bG cG).bind fun cB=>
  (A.aA 0 cB).bind fun bM=>
  ((A.deref bM σ).bind fun gM=>A.aj 0 gM).bind fun cR=>
  A.fin σ cR σ)
noncomputable def xW:List AV→Heap→Option (AV×Heap):=A.wrap true [(.p DW)] .k (A.cK UG)
noncomputable def UI (a0:AV) (σ:Heap):Option (AV×Heap):=
 (A.aL a0).bind fun x1=>
 (A.aA 8 x1).bind fun x2=>
 ((A.deref x2 σ).bind fun c3=>A.aj 0 c3).bind fun x4=>
 (A.lss x4 ah).bind fun x5=>
 (A.guard x5 false (some a0) an).bind fun x6=>
 (A.guard x5 false (A.aL x6) an).bind fun x7=>
 (A.guard x5 false (A.aA 0 x7) an).bind fun x8=>
 (A.guard x5 false (A.aA 2 x8) an).bind fun x9=>
 (A.guard x5 false ((A.deref x9 σ).bind fun dZ=>A.aj 0 dZ) an).bind fun bW=>
 (A.pick x5 cI bW).bind fun ct=>
 A.cond ct (
  A.fin σ (AV.int .i64 (-1)) σ) (
  (A.aL a0).bind fun dG=>
  (A.aA 0 dG).bind fun cE=>
  (A.aA 1 cE).bind fun dg=>
  ((A.deref dg σ).bind fun ku=>A.aj 0 ku).bind fun cB=>
  (A.aL a0).bind fun bM=>
  (A.aA 8 bM).bind fun cC=>
  ((A.deref cC σ).bind fun gO=>A.aj 0 gO).bind fun bO=>
  (A.add cB bO).bind fun dh=>
  (A.aL a0).bind fun eP=>
  (A.aA 0 eP).bind fun x24=>
  (A.aA 0 x24).bind fun x25=>
  ((A.deref x25 σ).bind fun fM=>A.aj 0 fM).bind fun dL=>
  (A.sub dh dL).bind fun x28=>
  A.fin σ x28 σ)
noncomputable def Bj:List AV→Heap→Option (AV×Heap):=A.wrap true [(.p [.k,.k,.k,.k,.k,(.s 11),.k,.k,.k,.k])] .k (A.cK UI)
noncomputable def UN (a0 a1:AV) (σ:Heap):Option (AV×Heap):=
 (A.cells 3 a0).bind fun c1=>
 (A.aj 2 c1).bind fun x2=>
 A.cond x2 (
  (A.aj 0 c1).bind fun x3=>
  A.fin σ x3 σ) (
  (A.aj 0 c1).bind fun x4=>
  (A.add x4 a1).bind fun x5=>
  (A.aj 1 c1).bind fun x6=>
  (A.sub x5 x6).bind fun x7=>
  A.fin σ x7 σ)
noncomputable def vT:List AV→Heap→Option (AV×Heap):=A.wrap true [] .k (A.cQ UN)
noncomputable def UT (a0:AV) (σ:Heap):Option (AV×Heap):=
 (A.cells 9 a0).bind fun c1=>
 (A.aj 2 c1).bind fun x2=>
 (A.aj 3 c1).bind fun x3=>
 (A.add x2 x3).bind fun x4=>
 (A.aj 4 c1).bind fun x5=>
 (A.add x4 x5).bind fun x6=>
 A.fin σ x6 σ
noncomputable def Ow:List AV→Heap→Option (AV×Heap):=A.wrap true [(.a [.k,.k,.k,.k,.k,.k,(.s 2),.k,.k])] .k (A.cK UT)
noncomputable def NZ (a0 a1 a2:AV) (σ:Heap):Option (AV×Heap):=
 (A.cells 2 a1).bind fun c1=>
 (A.aL a0).bind fun x2=>
 (A.aA 9 x2).bind fun x3=>
 ((A.deref x3 σ).bind fun c4=>A.aj 0 c4).bind fun x5=>
 (A.ay 0 2 c1).bind fun x6=>
 (A.Dh (.s [0,2]) x5 x6 (AV.agg [ah,ah,ah,ah,ah,ah,AV.au,ah,aM]) σ).bind fun x7=>
 (A.ext 0 x7).bind fun x8=>
 (A.ext 1 x7).bind fun x9=>
 (A.cells 9 x8).bind fun dZ=>
 (A.splice 0 dZ [ah,ah,ah,ah,ah,ah,AV.au,ah,aM]).bind fun gm=>
 (A.ay 0 9 gm).bind fun ct=>
 (A.guard x9 true (A.aj 8 gm) an).bind fun dG=>
 (A.guard x9 true (some dG) an).bind fun cE=>
 (A.guard cE true (some a2) an).bind fun dg=>
 (A.guard cE true (A.ay 0 9 gm) an).bind fun cG=>
 (A.guard cE true (A.quiet (Ow [cG] σ) σ) an).bind fun cB=>
 (A.guard cE true (A.geq dg cB) an).bind fun bM=>
 (A.guard x9 true (A.pick cE bM aM) an).bind fun cC=>
 (A.guard x9 true (A.not cC) an).bind fun cR=>
 (A.pick x9 cR aM).bind fun bO=>
 (A.cells 9 ct).bind fun fZ=>
 (A.splice 0 fZ [ah,ah,ah,ah,ah,ah,AV.au,ah,aM]).bind fun eu=>
 (A.ay 0 9 eu).bind fun x24=>
 A.fin σ (AV.aG [x24,bO]) σ
noncomputable def p5:List AV→Heap→Option (AV×Heap):=A.wrap false [] (.t [(.a [.k,.k,.k,.k,.k,.k,(.s 2),.k,.k]),.k]) (A.lp NZ)
noncomputable def UJ (a0 a1:AV) (σ:Heap):Option (AV×Heap):=
 (A.cells 9 a0).bind fun c1=>
 (A.ay 0 7 c1).bind fun x2=>
 (A.min a1 (AV.int .i64 36000000)).bind fun x3=>
 (Pt [x2,x3] σ).bind fun r4=>
 (A.ext 0 r4.1).bind fun x5=>
 (A.ext 1 r4.1).bind fun x6=>
 A.fin σ x5 r4.2
noncomputable def uK:List AV→Heap→Option (AV×Heap):=A.wrap true [(.a [.k,.k,.k,.k,.k,.k,(.s 2),.k,.k])] .k (A.cQ UJ)
noncomputable def Uv (a0 a1 a2 a3:AV) (σ:Heap):Option (AV×Heap):=
 (A.cells 2 a2).bind fun c1=>
 (A.aL a0).bind fun x2=>
 (A.aA 10 x2).bind fun x3=>
 ((A.deref x3 σ).bind fun c4=>A.aj 0 c4).bind fun x5=>
 (A.ay 0 2 c1).bind fun x6=>
 (A.look (.s [0,2]) x5 x6 (AV.agg [br,ah,ah,ah,ah,aM,AV.au]) σ).bind fun x7=>
 (A.cells 7 x7).bind fun c8=>
 (A.splice 0 c8 [br,ah,ah,ah,ah,aM,AV.au]).bind fun c9=>
 (A.aj 4 c9).bind fun bG=>
 (A.aL a1).bind fun bW=>
 (A.aA 0 bW).bind fun ct=>
 ((A.deref ct σ).bind fun gH=>A.aj 0 gH).bind fun cE=>
 (A.bJ cE).bind fun dg=>
 (A.loop (fun aX kS=>
   (A.lss (aX.getD 6 AV.undef) dg).bind fun cC=>
   A.cond cC (
    (A.aL a1).bind fun cR=>
    (A.aA 0 cR).bind fun bO=>
    ((A.deref bO kS).bind fun fZ=>A.aj 0 fZ).bind fun eP=>
    (A.aT 10 eP (aX.getD 6 AV.undef)).bind fun x24=>
    (A.aL x24).bind fun x25=>
    (A.aA 0 x25).bind fun fA=>
    ((A.deref fA kS).bind fun lq=>A.ay 0 3 lq).bind fun x28=>
    (vT [x28,a3] kS).bind fun gn=>
    ((A.lb (aX.getD 0 AV.undef)).bind fun um=>A.ay 0 2 um).bind fun x31=>
    (p5 [x24,x31,gn.1] gn.2).bind fun r32=>
    (A.ext 0 r32.1).bind fun eB=>
    (A.ext 1 r32.1).bind fun x34=>
    (A.cells 9 eB).bind fun gZ=>
    (A.splice 0 gZ [ah,ah,ah,ah,ah,ah,AV.au,ah,aM]).bind fun hG=>
    (A.not x34).bind fun bQ=>
    (A.guard bQ false (some x24) an).bind fun x38=>
    (A.guard bQ false (A.aL x38) an).bind fun eY=>
    (A.guard bQ false (A.aA 4 eY) an).bind fun dc=>
    (A.guard bQ false ((A.deref dc r32.2).bind fun xq=>A.aj 0 xq) an).bind fun gA=>
    (A.guard bQ false (some (aX.getD 4 AV.undef)) an).bind fun fB=>
    (A.guard bQ false (A.lss gA fB) an).bind fun eC=>
    (A.pick bQ cI eC).bind fun eo=>
    A.cond eo (
     (A.add (aX.getD 6 AV.undef) aH).bind fun fC=>
     some (AX.normal,[(aX.getD 0 AV.undef),(aX.getD 1 AV.undef),(aX.getD 2 AV.undef),(aX.getD 3 AV.undef),(aX.getD 4 AV.undef),(aX.getD 5 AV.undef),fC],r32.2)) (
     (A.ay 0 9 hG).bind fun ij=>
     (uK [ij,gn.1] r32.2).bind fun kJ=>
     ((A.lb (aX.getD 1 AV.undef)).bind fun _=>some (1)).bind fun Jv=>
     ((A.lb (aX.getD 1 AV.undef)).bind fun nO=>A.aj Jv nO).bind fun gQ=>
     (A.eql .i gQ aH).bind fun dP=>
     (A.cond dP (
      (A.aL x24).bind fun gB=>
      (A.aA 7 gB).bind fun kL=>
      ((A.deref kL kJ.2).bind fun pN=>A.aj 0 pN).bind fun jK=>
      (CQ [kJ.1,jK] kJ.2).bind fun xJ=>
      (A.ext 0 xJ.1).bind fun eZ=>
      (A.ext 1 xJ.1).bind fun gV=>
      some ([(aX.getD 0 AV.undef),(aX.getD 1 AV.undef),(AV.lbx hG),eZ],xJ.2)) (
      some ([(aX.getD 0 AV.undef),(aX.getD 1 AV.undef),(AV.lbx hG),kJ.1],kJ.2))).bind fun ck=>
     (A.aL x24).bind fun jo=>
     (A.aA 4 jo).bind fun fc=>
     ((A.deref fc ck.2).bind fun uq=>A.aj 0 uq).bind fun lV=>
     (A.gtr lV (aX.getD 4 AV.undef)).bind fun jd=>
     ((A.lb (ck.1.getD 1 AV.undef)).bind fun _=>some (1)).bind fun Jw=>
          (A.guard jd false ((A.lb (ck.1.getD 1 AV.undef)).bind fun xx=>A.aj Jw xx) an).bind fun iq=>
     (A.guard jd false (A.eql .i iq aH) an).bind fun fP=>
     (A.guard jd false (some fP) an).bind fun ff=>
     (A.guard ff true (some (ck.1.getD 3 AV.undef)) an).bind fun n5=>
     (A.guard ff true (some (aX.getD 2 AV.undef)) an).bind fun pY=>
     (A.guard ff true (A.gtr n5 pY) an).bind fun iH=>
     (A.guard jd false (A.pick ff iH aM) an).bind fun iu=>
     (A.pick jd cI iu).bind fun eE=>
     ((A.lb (ck.1.getD 1 AV.undef)).bind fun _=>some (1)).bind fun Er=>
          (A.guard eE false ((A.lb (ck.1.getD 1 AV.undef)).bind fun lR=>A.aj Er lR) an).bind fun jC=>
     (A.guard eE false (A.neq .i jC aH) an).bind fun jS=>
     (A.guard eE false (some jS) an).bind fun fT=>
     ((A.lb (ck.1.getD 2 AV.undef)).bind fun _=>some (7)).bind fun Jx=>
          (A.guard fT true ((A.lb (ck.1.getD 2 AV.undef)).bind fun lz=>A.aj Jx lz) an).bind fun rj=>
     (A.guard fT true (some (aX.getD 5 AV.undef)) an).bind fun Bd=>
     (A.guard fT true (A.gtr rj Bd) an).bind fun iI=>
     (A.guard eE false (A.pick fT iI aM) an).bind fun jD=>
     (A.pick eE cI jD).bind fun mO=>
     (A.cond mO (
      (A.aL x24).bind fun Be=>
      (A.aA 3 Be).bind fun x90=>
      ((A.deref x90 ck.2).bind fun IV=>A.aj 0 IV).bind fun n9=>
      (A.aL x24).bind fun x93=>
      (A.aA 4 x93).bind fun rq=>
      ((A.deref rq ck.2).bind fun jx=>A.aj 0 jx).bind fun x96=>
      ((A.lb (ck.1.getD 2 AV.undef)).bind fun _=>some (7)).bind fun Jy=>
      ((A.lb (ck.1.getD 2 AV.undef)).bind fun pR=>A.aj Jy pR).bind fun x99=>
      some ([(ck.1.getD 0 AV.undef),(ck.1.getD 1 AV.undef),(ck.1.getD 3 AV.undef),n9,x96,x99],ck.2)) (
      some ([(ck.1.getD 0 AV.undef),(ck.1.getD 1 AV.undef),(aX.getD 2 AV.undef),(aX.getD 3 AV.undef),(aX.getD 4 AV.undef),(aX.getD 5 AV.undef)],ck.2))).bind fun lT=>
     (A.add (aX.getD 6 AV.undef) aH).bind fun nH=>
     some (AX.normal,[(lT.1.getD 0 AV.undef),(lT.1.getD 1 AV.undef),(lT.1.getD 2 AV.undef),(lT.1.getD 3 AV.undef),(lT.1.getD 4 AV.undef),(lT.1.getD 5 AV.undef),nH],lT.2))) (
    some (AX.exit 0,[(aX.getD 0 AV.undef),(aX.getD 1 AV.undef),(aX.getD 2 AV.undef),(aX.getD 3 AV.undef),(aX.getD 4 AV.undef),(aX.getD 5 AV.undef),(aX.getD 6 AV.undef)],kS))) [(AV.lbx c1),(AV.lbx c9),bG,ah,(AV.int .i64 (-1)),ah,ah] σ).bind fun vw=>
 bif vw.1==AX.exit 0 then(
  A.fin σ (AV.aG [(vw.2.1.getD 2 AV.undef),(vw.2.1.getD 3 AV.undef)]) vw.2.2)else
 none
noncomputable def Bh:List AV→Heap→Option (AV×Heap):=A.wrap true [(.p DW),(.p [(.s 10),.k,.k,.k])] .k (A.vC Uv)
noncomputable def Uo (a0 a1:AV) (σ:Heap):Option (AV×Heap):=
 (A.cells 8 a0).bind fun c1=>
 (A.ay 0 2 c1).bind fun x2=>
 ((A.deref a1 σ).bind fun c3=>A.ay 0 2 c3).bind fun x4=>
 (A.eql (.s [0,2]) x2 x4).bind fun x5=>
 A.fin σ x5 σ
noncomputable def EN:List AV→Heap→Option (AV×Heap):=A.wrap true [] .k (A.cQ Uo)
noncomputable def Wb (a0:AV) (σ:Heap):Option (AV×Heap):=
 (A.cells 7 a0).bind fun c1=>
 (A.aj 2 c1).bind fun x2=>
 (A.min x2 (AV.int .i64 36000000)).bind fun x3=>
 ((A.cell x3).bind fun v=>some [v]).bind fun c4=>
 (A.splice 2 c4 c1).bind fun c5=>
 (A.aj 3 c5).bind fun x6=>
 (A.aj 2 c5).bind fun x7=>
 (A.sub (AV.int .i64 36000000) x7).bind fun x8=>
 (A.min x6 x8).bind fun x9=>
 ((A.cell x9).bind fun v=>some [v]).bind fun dZ=>
 (A.splice 3 dZ c5).bind fun gm=>
 (A.aj 4 gm).bind fun ct=>
 (A.aj 2 gm).bind fun dG=>
 (A.sub (AV.int .i64 36000000) dG).bind fun cE=>
 (A.aj 3 gm).bind fun dg=>
 (A.sub cE dg).bind fun cG=>
 (A.min ct cG).bind fun cB=>
 ((A.cell cB).bind fun v=>some [v]).bind fun iV=>
 (A.splice 4 iV gm).bind fun gM=>
 (A.ay 0 7 gM).bind fun cR=>
 (A.cells 7 cR).bind fun kC=>
 (A.splice 0 kC [ah,ah,ah,ah,ah,ah,AV.au]).bind fun fZ=>
 (A.ay 0 7 fZ).bind fun eP=>
 A.fin σ eP σ
noncomputable def uN:List AV→Heap→Option (AV×Heap):=A.wrap true [Ds] Ds (A.cK Wb)
noncomputable def Of (a0 a1 a2 a3 a4 a5:AV) (σ:Heap):Option (AV×Heap):=
 (A.cells 11 a1).bind fun c1=>
 ((A.cells 2 a2).bind fun cs=>some (AV.rp cs)).bind fun x2=>
 (A.aj 2 c1).bind fun x3=>
 (A.aj 5 c1).bind fun x4=>
 (A.ay 6 2 c1).bind fun x5=>
 ((((A.cell a3).bind fun v=>some [v]).bind fun c6=>(A.splice 0 c6 [ah,ah,ah,ah,ah,ah,AV.au]).bind fun c7=>((A.cell a4).bind fun v=>some [v]).bind fun c8=>(A.splice 1 c8 c7).bind fun c9=>((A.cell a5).bind fun v=>some [v]).bind fun dZ=>(A.splice 2 dZ c9).bind fun gm=>((A.cell x3).bind fun v=>some [v]).bind fun ep=>(A.splice 3 ep gm).bind fun gH=>((A.cell x4).bind fun v=>some [v]).bind fun jP=>(A.splice 4 jP gH).bind fun jG=>(A.cells 2 x5).bind fun ku=>(A.splice 5 ku jG).bind fun mG=>some mG).bind fun cs=>some (AV.agg cs)).bind fun bM=>
 (A.cells 7 bM).bind fun gM=>
 (A.splice 0 gM [ah,ah,ah,ah,ah,ah,AV.au]).bind fun gO=>
 (A.aL a0).bind fun bO=>
 (A.aA 10 bO).bind fun dh=>
 ((A.deref dh σ).bind fun eu=>A.aj 0 eu).bind fun x24=>
 ((A.deref x2 σ).bind fun gP=>A.ay 0 2 gP).bind fun fA=>
 (A.look (.s [0,2]) x24 fA (AV.agg [br,ah,ah,ah,ah,aM,AV.au]) σ).bind fun dL=>
 (A.cells 7 dL).bind fun mH=>
 (A.splice 0 mH [br,ah,ah,ah,ah,aM,AV.au]).bind fun qN=>
 (A.aj 1 qN).bind fun cL=>
 (A.eql .i cL aH).bind fun x31=>
 (A.cond x31 (
  (A.aj 3 c1).bind fun eB=>
  ((A.cell eB).bind fun v=>some [v]).bind fun rZ=>
  (A.splice 4 rZ gO).bind fun gZ=>
  (A.lss a4 a3).bind fun gz=>
  (A.cond gz (
   (A.aj 4 c1).bind fun x38=>
   ((A.cell x38).bind fun v=>some [v]).bind fun l6=>
   (A.splice 4 l6 gZ).bind fun yU=>
   some ([(AV.lbx c1),(AV.lbx [ah,ah,ah,ah,ah,ah,AV.au]),(AV.lbx yU),(AV.lbx qN)],σ)) (
   some ([(AV.lbx c1),(AV.lbx [ah,ah,ah,ah,ah,ah,AV.au]),(AV.lbx gZ),(AV.lbx qN)],σ))).bind fun mh=>
  some ([(mh.1.getD 0 AV.undef),(mh.1.getD 1 AV.undef),(mh.1.getD 2 AV.undef),(mh.1.getD 3 AV.undef)],mh.2)) (
  some ([(AV.lbx c1),(AV.lbx [ah,ah,ah,ah,ah,ah,AV.au]),(AV.lbx gO),(AV.lbx qN)],σ))).bind fun r32=>
 ((A.lb (r32.1.getD 0 AV.undef)).bind fun _=>some (10)).bind fun p41=>
 ((A.lb (r32.1.getD 0 AV.undef)).bind fun lQ=>A.aj p41 lQ).bind fun fB=>
 (GJ (A.tab (fun _ _=>none) [(349,EN)]) [fB,(AV.fn 349 [x2])] r32.2).bind fun dY=>
 (A.geq dY.1 ah).bind fun eo=>
 ((A.lb (r32.1.getD 0 AV.undef)).bind fun _=>some (10)).bind fun Ju=>
  (A.guard eo true ((A.lb (r32.1.getD 0 AV.undef)).bind fun iW=>A.aj Ju iW) an).bind fun gq=>
 (A.guard eo true (some dY.1) an).bind fun eD=>
 (A.guard eo true (A.aT 8 gq eD) an).bind fun lU=>
 (A.guard eo true (A.aA 5 lU) an).bind fun gQ=>
 (A.guard eo true ((A.deref gQ dY.2).bind fun IS=>A.aj 0 IS) an).bind fun gR=>
 (A.pick eo gR aM).bind fun gB=>
 (A.cond gB (
  ((A.lb (r32.1.getD 0 AV.undef)).bind fun _=>some (10)).bind fun p56=>
  ((A.lb (r32.1.getD 0 AV.undef)).bind fun iX=>A.aj p56 iX).bind fun gC=>
  (A.aT 8 gC dY.1).bind fun eZ=>
  (A.aA 6 eZ).bind fun gV=>
  ((A.deref gV dY.2).bind fun nQ=>A.aj 0 nQ).bind fun fc=>
  ((A.lb (r32.1.getD 0 AV.undef)).bind fun _=>some (10)).bind fun p63=>
  ((A.lb (r32.1.getD 0 AV.undef)).bind fun pO=>A.aj p63 pO).bind fun jd=>
  (A.aT 8 jd dY.1).bind fun gD=>
  (A.aA 7 gD).bind fun jR=>
  ((A.deref jR dY.2).bind fun IT=>A.aj 0 IT).bind fun fP=>
  ((A.lb (r32.1.getD 2 AV.undef)).bind fun _=>some (3)).bind fun p70=>
  (A.lb (r32.1.getD 2 AV.undef)).bind fun IU=>
  ((A.cell fc).bind fun v=>some [v]).bind fun lI=>
  (A.splice p70 lI IU).bind fun jH=>
  ((A.cell fP).bind fun v=>some [v]).bind fun Tp=>
  (A.splice 4 Tp jH).bind fun pQ=>
  some ([(r32.1.getD 1 AV.undef),(AV.lbx pQ),(r32.1.getD 3 AV.undef)],dY.2)) (
  some ([(r32.1.getD 1 AV.undef),(r32.1.getD 2 AV.undef),(r32.1.getD 3 AV.undef)],dY.2))).bind fun vN=>
 ((A.lb (vN.1.getD 2 AV.undef)).bind fun _=>some (5)).bind fun Er=>
 ((A.lb (vN.1.getD 2 AV.undef)).bind fun lR=>A.aj Er lR).bind fun jC=>
 (A.cond jC (
  ((A.lb (vN.1.getD 1 AV.undef)).bind fun _=>some (4)).bind fun p80=>
  (A.lb (vN.1.getD 1 AV.undef)).bind fun kD=>
  ((A.cell ah).bind fun v=>some [v]).bind fun mI=>
  (A.splice p80 mI kD).bind fun lz=>
  some ([(vN.1.getD 0 AV.undef),(AV.lbx lz)],vN.2)) (
  some ([(vN.1.getD 0 AV.undef),(vN.1.getD 1 AV.undef)],vN.2))).bind fun kn=>
 ((A.lb (kn.1.getD 1 AV.undef)).bind fun iY=>A.ay 0 7 iY).bind fun iI=>
 (uN [iI] kn.2).bind fun xO=>
 (A.lb (kn.1.getD 0 AV.undef)).bind fun nS=>
 (A.cells 7 xO.1).bind fun sj=>
 (A.splice 0 sj nS).bind fun AM=>
 (A.ay 0 7 AM).bind fun x90=>
 A.fin σ x90 xO.2
noncomputable def Bi:List AV→Heap→Option (AV×Heap):=A.wrap false [] Ds (A.DZ Of)
noncomputable def Og (a0 a1 a2 a3 a4:AV) (σ:Heap):Option (AV×Heap):=
 (A.aL a1).bind fun x1=>
 (A.aA 0 x1).bind fun x2=>
 ((A.deref x2 σ).bind fun c3=>A.aj 0 c3).bind fun x4=>
 (A.aT 10 x4 a2).bind fun x5=>
 (A.aL x5).bind fun x6=>
 (A.aA 5 x6).bind fun x7=>
 ((A.deref x7 σ).bind fun c8=>A.aj 0 c8).bind fun x9=>
 (A.aT 11 x9 a3).bind fun bG=>
 ((A.deref bG σ).bind fun gm=>A.ay 0 11 gm).bind fun ct=>
 (A.cells 11 ct).bind fun gH=>
 (A.splice 0 gH [ah,br,ah,ah,ah,ah,ah,AV.au,aM,ah,AV.au]).bind fun jP=>
 (A.aL x5).bind fun dg=>
 (A.aA 0 dg).bind fun cG=>
 ((A.deref cG σ).bind fun mG=>A.ay 0 3 mG).bind fun bM=>
 (vT [bM,a4] σ).bind fun kI=>
 (A.aL x5).bind fun cR=>
 (A.aA 5 cR).bind fun bO=>
 ((A.deref bO kI.2).bind fun fZ=>A.aj 0 fZ).bind fun eP=>
 (A.aj 0 jP).bind fun x24=>
 (A.quiet (KH [eP,x24] kI.2) kI.2).bind fun x25=>
 (A.ext 0 x25).bind fun fA=>
 (A.ext 1 x25).bind fun dL=>
 (A.bJ fA).bind fun x28=>
 (A.loop (fun jm xS=>
   (A.lss (jm.getD 1 AV.undef) x28).bind fun x32=>
   A.cond x32 (
    (A.aT 5 fA (jm.getD 1 AV.undef)).bind fun eB=>
    ((A.deref eB xS).bind fun rZ=>A.ay 0 5 rZ).bind fun fJ=>
    (A.cells 5 fJ).bind fun hG=>
    (A.splice 0 hG [ah,br,ah,ah,ah]).bind fun fI=>
    (A.ay 0 2 fI).bind fun x38=>
    (A.eA (.s [0,2]) (AV.om (kI.2++[aJ.map []]).length) x38 cI xS).bind fun qQ=>
    (A.aL a0).bind fun dc=>
    (A.aA 4 dc).bind fun dV=>
    (A.aA 2 dV).bind fun gA=>
    ((A.deref gA qQ).bind fun uo=>A.aj 0 uo).bind fun eC=>
    (A.ay 0 2 fI).bind fun eo=>
    (A.ay 2 2 fI).bind fun fC=>
    (A.quiet (CU [eC,eo,fC] qQ) qQ).bind fun ij=>
    (A.ext 0 ij).bind fun gq=>
    (A.ext 1 ij).bind fun eD=>
    (A.ay 0 2 fI).bind fun lU=>
    (p5 [x5,lU,kI.1] qQ).bind fun kR=>
    (A.ext 0 kR.1).bind fun dP=>
    (A.ext 1 kR.1).bind fun gR=>
    (A.cells 9 dP).bind fun vE=>
    (A.splice 0 vE [ah,ah,ah,ah,ah,ah,AV.au,ah,aM]).bind fun iB=>
    (A.guard gR true (A.aj 8 iB) an).bind fun gd=>
    (A.guard gR true (A.not gd) an).bind fun jK=>
    (A.pick gR jK aM).bind fun gC=>
    (A.guard gC true (A.aj 1 iB) an).bind fun eZ=>
    (A.guard gC true (some gq) an).bind fun gV=>
    (A.guard gC true (A.eql .i eZ gV) an).bind fun jo=>
    (A.pick gC jo aM).bind fun fc=>
    A.cond fc (
     (A.ay 0 2 fI).bind fun fD=>
     (A.ay 0 9 iB).bind fun lV=>
     (A.eA (.s [0,2]) (AV.om kI.2.length) fD lV kR.2).bind fun I2=>
     (A.add (jm.getD 1 AV.undef) aH).bind fun gD=>
     some (AX.normal,[(jm.getD 0 AV.undef),gD],I2)) (
     (A.cond gR (
      (A.ay 0 9 iB).bind fun iq=>
      (uK [iq,kI.1] kR.2).bind fun CB=>
      some ([(jm.getD 0 AV.undef),(AV.lbx fI),CB.1],CB.2)) (
      (A.aL a0).bind fun ff=>
      (A.aA 10 ff).bind fun n5=>
      ((A.deref n5 kR.2).bind fun jH=>A.aj 0 jH).bind fun iH=>
      (A.ay 0 2 fI).bind fun iu=>
      (A.look (.s [0,2]) iH iu (AV.agg [br,ah,ah,ah,ah,aM,AV.au]) kR.2).bind fun eE=>
      ((A.cells 7 eE).bind fun D8=>A.aj 1 D8).bind fun xU=>
      (A.neq .i xU aH).bind fun jC=>
      (A.cond jC (
       (A.ay 0 2 fI).bind fun fT=>
       (Bh [a0,a1,fT,a4] kR.2).bind fun xL=>
       (A.ext 0 xL.1).bind fun p4=>
       (A.ext 1 xL.1).bind fun rj=>
       some ([(jm.getD 0 AV.undef),(AV.lbx fI),p4],xL.2)) (
       some ([(jm.getD 0 AV.undef),(AV.lbx fI),ah],kR.2))).bind fun kn=>
      some ([(kn.1.getD 0 AV.undef),(kn.1.getD 1 AV.undef),(kn.1.getD 2 AV.undef)],kn.2))).bind fun eX=>
     ((A.lb (eX.1.getD 1 AV.undef)).bind fun _=>some (0)).bind fun Es=>
     ((A.lb (eX.1.getD 1 AV.undef)).bind fun AL=>A.ay Es 2 AL).bind fun jD=>
     ((A.lb (eX.1.getD 0 AV.undef)).bind fun sj=>A.ay 0 11 sj).bind fun iJ=>
     ((A.lb (eX.1.getD 1 AV.undef)).bind fun _=>some (0)).bind fun Eu=>
     ((A.lb (eX.1.getD 1 AV.undef)).bind fun nT=>A.ay Eu 2 nT).bind fun x91=>
     (A.quiet (Bi [a0,iJ,x91,(eX.1.getD 2 AV.undef),gq,kI.1] eX.2) eX.2).bind fun n9=>
     (A.aL a1).bind fun x93=>
     (A.aA 1 x93).bind fun rq=>
     ((A.deref rq eX.2).bind fun jx=>A.aj 0 jx).bind fun x96=>
     (((A.cells 7 n9).bind fun xz=>(A.splice 0 xz [ah,ah,ah,ah,ah,ah,AV.au,ah,aM]).bind fun pR=>((A.cell x96).bind fun v=>some [v]).bind fun xA=>(A.splice 7 xA pR).bind fun wG=>((A.cell aM).bind fun v=>some [v]).bind fun oZ=>(A.splice 8 oZ wG).bind fun zX=>some zX).bind fun cs=>some (AV.agg cs)).bind fun vB=>
     (A.eA (.s [0,2]) (AV.om kI.2.length) jD vB eX.2).bind fun DI=>
     (A.add (jm.getD 1 AV.undef) aH).bind fun Ay=>
     some (AX.normal,[(eX.1.getD 0 AV.undef),Ay],DI))) (
    some (AX.exit 0,[(jm.getD 0 AV.undef),(jm.getD 1 AV.undef)],xS))) [(AV.lbx jP),ah] ((kI.2++[aJ.map []])++[aJ.map []])).bind fun Gf=>
 bif Gf.1==AX.exit 0 then(
  (A.aL x5).bind fun nJ=>
  (A.aA 9 nJ).bind fun IM=>
  ((A.deref IM Gf.2.2).bind fun amR=>A.aj 0 amR).bind fun Az=>
  (A.BJ Az).bind fun al9=>
  A.zS (fun yS aoC Sz=>
    A.sP (AV.op Gf.2.2.length 0) aoC fun x115 SI=>
    (A.ext 0 x115).bind fun pK=>
    A.cond pK (
     (A.uW (AV.op Gf.2.2.length 0) SI).bind fun w8=>
     (A.ext 0 w8).bind fun AA=>
     (A.cells 2 AA).bind fun RO=>
     (A.splice 0 RO [ah,br]).bind fun pe=>
     (A.ay 0 2 pe).bind fun IN=>
     (p5 [x5,IN,kI.1] SI).bind fun oC=>
     (A.ext 0 oC.1).bind fun uc=>
     (A.ext 1 oC.1).bind fun j0=>
     (A.cells 9 uc).bind fun tT=>
     (A.splice 0 tT [ah,ah,ah,ah,ah,ah,AV.au,ah,aM]).bind fun qF=>
     (A.not j0).bind fun M1=>
     (A.guard M1 false (some (AV.om (kI.2++[aJ.map []]).length)) an).bind fun ng=>
     (A.guard M1 false (A.ay 0 2 pe) an).bind fun rX=>
     (A.guard M1 false (A.look (.s [0,2]) ng rX aM oC.2) an).bind fun ud=>
     (A.pick M1 cI ud).bind fun mB=>
     (A.guard mB false (some a0) an).bind fun nL=>
     (A.guard mB false (A.aL nL) an).bind fun SO=>
     (A.guard mB false (A.aA 10 SO) an).bind fun ue=>
     (A.guard mB false ((A.deref ue oC.2).bind fun amV=>A.aj 0 amV) an).bind fun uf=>
     (A.guard mB false (A.ay 0 2 pe) an).bind fun mC=>
     (A.guard mB false (A.look (.s [0,2]) uf mC (AV.agg [br,ah,ah,ah,ah,aM,AV.au]) oC.2) an).bind fun AD=>
     (A.guard mB false ((A.cells 7 AD).bind fun wK=>A.aj 1 wK) an).bind fun ug=>
     (A.guard mB false (A.neq .i ug aH) an).bind fun xk=>
     (A.pick mB cI xk).bind fun mD=>
     A.cond mD (
      Sz (AX.normal,[(yS.getD 0 AV.undef)],oC.2)) (
      (A.aj 8 qF).bind fun SP=>
      (A.not SP).bind fun SQ=>
      (A.cond SQ (
       (A.ay 0 9 qF).bind fun SR=>
       (A.quiet (uK [SR,kI.1] oC.2) oC.2).bind fun aoF=>
       ((A.lb (yS.getD 0 AV.undef)).bind fun _=>some (2)).bind fun aoj=>
       ((A.lb (yS.getD 0 AV.undef)).bind fun Ik=>A.aj aoj Ik).bind fun x151=>
       ((A.lb (yS.getD 0 AV.undef)).bind fun _=>some (4)).bind fun aok=>
       ((A.lb (yS.getD 0 AV.undef)).bind fun tU=>A.aj aok tU).bind fun SS=>
       ((A.lb (yS.getD 0 AV.undef)).bind fun _=>some (6)).bind fun aol=>
       ((A.lb (yS.getD 0 AV.undef)).bind fun amX=>A.ay aol 2 amX).bind fun x157=>
       ((((A.cell aoF).bind fun v=>some [v]).bind fun sS=>(A.splice 0 sS [ah,ah,ah,ah,ah,ah,AV.au]).bind fun wN=>((A.cell kI.1).bind fun v=>some [v]).bind fun wO=>(A.splice 2 wO wN).bind fun Il=>((A.cell x151).bind fun v=>some [v]).bind fun RS=>(A.splice 3 RS Il).bind fun Im=>((A.cell SS).bind fun v=>some [v]).bind fun RT=>(A.splice 4 RT Im).bind fun Io=>(A.cells 2 x157).bind fun DD=>(A.splice 5 DD Io).bind fun Ak=>some Ak).bind fun cs=>some (AV.agg cs)).bind fun x168=>
       (A.cells 7 x168).bind fun amZ=>
       (A.splice 0 amZ [ah,ah,ah,ah,ah,ah,AV.au]).bind fun am0=>
       (A.ay 0 7 am0).bind fun aoL=>
       (A.quiet (uN [aoL] oC.2) oC.2).bind fun SV=>
       (A.aL a1).bind fun aoM=>
       (A.aA 1 aoM).bind fun SX=>
       ((A.deref SX oC.2).bind fun Ip=>A.aj 0 Ip).bind fun SY=>
       (((A.cells 7 SV).bind fun am2=>(A.splice 0 am2 [ah,ah,ah,ah,ah,ah,AV.au,ah,aM]).bind fun RU=>((A.cell SY).bind fun v=>some [v]).bind fun am3=>(A.splice 7 am3 RU).bind fun am4=>((A.cell cI).bind fun v=>some [v]).bind fun am5=>(A.splice 8 am5 am4).bind fun am6=>some am6).bind fun cs=>some (AV.agg cs)).bind fun SZ=>
       (A.cells 9 SZ).bind fun RV=>
       (A.splice 0 RV qF).bind fun am7=>
       some ([(yS.getD 0 AV.undef),(AV.lbx pe),(AV.lbx am7)],oC.2)) (
       some ([(yS.getD 0 AV.undef),(AV.lbx pe),(AV.lbx qF)],oC.2))).bind fun MV=>
      ((A.lb (MV.1.getD 1 AV.undef)).bind fun am8=>A.ay 0 2 am8).bind fun aoV=>
      ((A.lb (MV.1.getD 2 AV.undef)).bind fun ana=>A.ay 0 9 ana).bind fun aoX=>
      (A.eA (.s [0,2]) (AV.om kI.2.length) aoV aoX MV.2).bind fun R7=>
      Sz (AX.normal,[(MV.1.getD 0 AV.undef)],R7))) (
     Sz (AX.exit 2,[(yS.getD 0 AV.undef)],SI))) [(Gf.2.1.getD 0 AV.undef)] (Gf.2.2++[aJ.it [] al9]) fun Gh=>
  bif Gh.1==AX.exit 2 then(
   ((((A.cell kI.1).bind fun v=>some [v]).bind fun DE=>(A.splice 0 DE [ah,ah,aM]).bind fun DF=>((A.cell a4).bind fun v=>some [v]).bind fun DG=>(A.splice 1 DG DF).bind fun Iq=>((A.cell aM).bind fun v=>some [v]).bind fun Ir=>(A.splice 2 Ir Iq).bind fun Is=>some Is).bind fun cs=>some (AV.agg cs)).bind fun ao1=>
   (A.aL x5).bind fun ao2=>
   (A.aA 0 ao2).bind fun S2=>
   (A.cells 3 ao1).bind fun anh=>
   (A.storeAt S2 anh Gh.2.2).bind fun RW=>
   (A.aL x5).bind fun S3=>
   (A.aA 6 S3).bind fun S4=>
   ((A.cell a3).bind fun v=>some [v]).bind fun ani=>
   (A.storeAt S4 ani RW).bind fun anj=>
   (A.aL x5).bind fun ao6=>
   (A.aA 9 ao6).bind fun ao7=>
   ((A.cell (AV.om kI.2.length)).bind fun v=>some [v]).bind fun anl=>
   (A.storeAt ao7 anl anj).bind fun anm=>
   (A.aL x5).bind fun S5=>
   (A.aA 8 S5).bind fun ao9=>
   ((A.cell (AV.int .i64 (-1))).bind fun v=>some [v]).bind fun anp=>
   (A.storeAt ao9 anp anm).bind fun RY=>
   ((A.lb (Gh.2.1.getD 0 AV.undef)).bind fun _=>some (9)).bind fun aom=>
   ((A.lb (Gh.2.1.getD 0 AV.undef)).bind fun anq=>A.aj aom anq).bind fun S6=>
   (A.geq S6 ah).bind fun AH=>
   (A.guard AH true (some a3) an).bind fun S7=>
   (A.guard AH true (A.add S7 aH) an).bind fun S8=>
   (A.guard AH true (some x5) an).bind fun S9=>
   (A.guard AH true (A.aL S9) an).bind fun Ta=>
   (A.guard AH true (A.aA 5 Ta) an).bind fun apd=>
   (A.guard AH true ((A.deref apd RY).bind fun RZ=>A.aj 0 RZ) an).bind fun Tb=>
   (A.guard AH true (A.bJ Tb) an).bind fun Tc=>
   (A.guard AH true (A.lss S8 Tc) an).bind fun Td=>
   (A.pick AH Td aM).bind fun apf=>
   (A.cond apf (
    ((A.lb (Gh.2.1.getD 0 AV.undef)).bind fun _=>some (9)).bind fun aon=>
    ((A.lb (Gh.2.1.getD 0 AV.undef)).bind fun anv=>A.aj aon anv).bind fun aph=>
    (A.add kI.1 aph).bind fun Te=>
    (A.aL x5).bind fun api=>
    (A.aA 8 api).bind fun Tf=>
    ((A.cell Te).bind fun v=>some [v]).bind fun R1=>
    (A.storeAt Tf R1 RY).bind fun anw=>
    some (([]:List AV),anw)) (
    some (([]:List AV),RY))).bind fun aot=>
   A.An σ (AV.aG []) aot.2)else
  none)else
 none
noncomputable def sH:List AV→Heap→Option (AV×Heap):=A.wrap false [] .k (A.DY Og)
noncomputable def Kn (a0 a1:AV) (σ:Heap):Option (AV×Heap):=
 (A.aL a0).bind fun x1=>
 (A.aA 0 x1).bind fun x2=>
 ((A.deref x2 σ).bind fun c3=>A.ay 0 4 c3).bind fun x4=>
 (A.cells 4 x4).bind fun c5=>
 (A.storeAt (AV.op σ.length 0) c5 (σ++[aJ.box [AV.au,ah,ah,aM]])).bind fun c6=>
 (A.aA 0 (AV.op σ.length 0)).bind fun x7=>
 ((A.deref x7 c6).bind fun c8=>A.aj 0 c8).bind fun x9=>
 (EI [x9] c6).bind fun kH=>
 (A.aA 0 (AV.op σ.length 0)).bind fun bW=>
 ((A.cell kH.1).bind fun v=>some [v]).bind fun ep=>
 (A.storeAt bW ep kH.2).bind fun gH=>
 (A.loop (fun T9 Ba=>
   (A.aA 0 (AV.op σ.length 0)).bind fun cB=>
   ((A.deref cB Ba).bind fun iV=>A.aj 0 iV).bind fun cC=>
   (A.bJ cC).bind fun cR=>
   (A.loop (fun v21 sC=>
     (A.lss (v21.getD 3 AV.undef) cR).bind fun x24=>
     A.cond x24 (
      (A.aA 0 (AV.op σ.length 0)).bind fun x25=>
      ((A.deref x25 sC).bind fun fM=>A.aj 0 fM).bind fun dL=>
      (A.aT 10 dL (v21.getD 3 AV.undef)).bind fun x28=>
      (Bj [x28] sC).bind fun gn=>
      (A.geq gn.1 ah).bind fun cL=>
      (A.guard cL true (some gn.1) an).bind fun x31=>
      (A.guard cL true (some a1) an).bind fun x32=>
      (A.guard cL true (A.leq x31 x32) an).bind fun eB=>
      (A.pick cL eB aM).bind fun x34=>
      (A.guard x34 true (some (v21.getD 1 AV.undef)) an).bind fun fJ=>
      (A.guard x34 true (A.lss fJ ah) an).bind fun gz=>
      (A.guard x34 true (some gz) an).bind fun bQ=>
      (A.guard bQ false (some gn.1) an).bind fun x38=>
      (A.guard bQ false (some (v21.getD 2 AV.undef)) an).bind fun eY=>
      (A.guard bQ false (A.lss x38 eY) an).bind fun dc=>
      (A.guard x34 true (A.pick bQ cI dc) an).bind fun dV=>
      (A.pick x34 dV aM).bind fun gA=>
      (A.cond gA (
       some ([(v21.getD 0 AV.undef),(v21.getD 3 AV.undef),gn.1],gn.2)) (
       some ([(v21.getD 0 AV.undef),(v21.getD 1 AV.undef),(v21.getD 2 AV.undef)],gn.2))).bind fun iP=>
      (A.add (v21.getD 3 AV.undef) aH).bind fun eC=>
      some (AX.normal,[(iP.1.getD 0 AV.undef),(iP.1.getD 1 AV.undef),(iP.1.getD 2 AV.undef),eC],iP.2)) (
      some (AX.exit 2,[(v21.getD 0 AV.undef),(v21.getD 1 AV.undef),(v21.getD 2 AV.undef),(v21.getD 3 AV.undef)],sC))) [(T9.getD 0 AV.undef),(AV.int .i64 (-1)),ah,ah] Ba).bind fun i7=>
   bif i7.1==AX.exit 2 then(
    (A.lss (i7.2.1.getD 1 AV.undef) ah).bind fun fC=>
    A.cond fC (
     ((A.deref (AV.op σ.length 0) i7.2.2).bind fun iW=>A.ay 0 4 iW).bind fun gq=>
     (A.lb (i7.2.1.getD 0 AV.undef)).bind fun xu=>
     (A.cells 4 gq).bind fun AI=>
     (A.splice 0 AI xu).bind fun nO=>
     some (AX.ret,[(AV.lbx nO)],i7.2.2)) (
     (A.aA 1 (AV.op σ.length 0)).bind fun dP=>
     ((A.deref dP i7.2.2).bind fun nP=>A.aj 0 nP).bind fun gB=>
     (A.add gB aH).bind fun kL=>
     (A.aA 1 (AV.op σ.length 0)).bind fun gd=>
     ((A.cell kL).bind fun v=>some [v]).bind fun iX=>
     (A.storeAt gd iX i7.2.2).bind fun iO=>
     (A.aA 0 (AV.op σ.length 0)).bind fun eZ=>
     ((A.deref eZ iO).bind fun AJ=>A.aj 0 AJ).bind fun jo=>
     (A.aT 10 jo (i7.2.1.getD 1 AV.undef)).bind fun fc=>
     (A.aA 6 fc).bind fun fD=>
     ((A.deref fD iO).bind fun pO=>A.aj 0 pO).bind fun jd=>
     (A.add jd aH).bind fun gD=>
     (sH [a0,(AV.op σ.length 0),(i7.2.1.getD 1 AV.undef),gD,(i7.2.1.getD 2 AV.undef)] iO).bind fun eX=>
     some (AX.normal,[(i7.2.1.getD 0 AV.undef)],eX.2)))else
   none) [(AV.lbx [AV.au,ah,ah,aM])] gH).bind fun A9=>
 bif A9.1==AX.ret then(
  ((A.lb (A9.2.1.getD 0 AV.undef)).bind fun To=>A.ay 0 4 To).bind fun fP=>
  some (fP,A9.2.2))else
 none
noncomputable def ER:List AV→Heap→Option (AV×Heap):=A.wrap false [] .k (A.cQ Kn)
noncomputable def Us (a0 a1:AV) (σ:Heap):Option (AV×Heap):=
 (A.cells 10 a0).bind fun c1=>
 (A.aj 3 c1).bind fun x2=>
 (A.aA 2 a1).bind fun x3=>
 ((A.deref x3 σ).bind fun c4=>A.aj 0 c4).bind fun x5=>
 (A.eql .i x2 x5).bind fun x6=>
 A.fin σ x6 σ
noncomputable def Bf:List AV→Heap→Option (AV×Heap):=A.wrap true [(.a [.k,.k,.k,.k,.k,(.s 11),.k,.k,.k,.k])] .k (A.cQ Us)
noncomputable def Ut (a0 a1:AV) (σ:Heap):Option (AV×Heap):=
 (A.cells 11 a0).bind fun c1=>
 (A.aj 0 c1).bind fun x2=>
 (A.aA 3 a1).bind fun x3=>
 ((A.deref x3 σ).bind fun c4=>A.aj 0 c4).bind fun x5=>
 (A.eql .i x2 x5).bind fun x6=>
 A.fin σ x6 σ
noncomputable def Bg:List AV→Heap→Option (AV×Heap):=A.wrap true [(.a uh)] .k (A.cQ Ut)
noncomputable def NY (a0 a1 a2 a3:AV) (σ:Heap):Option (AV×Heap):=
 (A.cells 5 a3).bind fun c1=>
 (A.aL a2).bind fun x2=>
 (A.aA 0 x2).bind fun x3=>
 ((A.deref x3 σ).bind fun c4=>A.ay 0 3 c4).bind fun x5=>
 (A.aj 0 c1).bind fun x6=>
 (A.quiet (vT [x5,x6] σ) σ).bind fun x7=>
 (A.aL a2).bind fun x8=>
 (A.aA 9 x8).bind fun x9=>
 ((A.deref x9 (σ++[aJ.map []])).bind fun dZ=>A.aj 0 dZ).bind fun bW=>
 (A.BJ bW).bind fun anL=>
 A.zS (fun kT xR TU=>
   A.sP (AV.op (σ++[aJ.map []]).length 0) xR fun cG kS=>
   (A.ext 0 cG).bind fun bM=>
   A.cond bM (
    (A.uW (AV.op (σ++[aJ.map []]).length 0) kS).bind fun cC=>
    (A.ext 0 cC).bind fun cR=>
    (A.cells 2 cR).bind fun kC=>
    (A.splice 0 kC [ah,br]).bind fun fZ=>
    (A.ay 0 2 fZ).bind fun eP=>
    (p5 [a2,eP,x7] kS).bind fun tv=>
    (A.ext 0 tv.1).bind fun x25=>
    (A.ext 1 tv.1).bind fun fA=>
    (A.cells 9 x25).bind fun lq=>
    (A.splice 0 lq [ah,ah,ah,ah,ah,ah,AV.au,ah,aM]).bind fun mH=>
    (A.not fA).bind fun x29=>
    (A.guard x29 false (some a0) an).bind fun cL=>
    (A.guard x29 false (A.aL cL) an).bind fun x31=>
    (A.guard x29 false (A.aA 10 x31) an).bind fun x32=>
    (A.guard x29 false ((A.deref x32 tv.2).bind fun D6=>A.aj 0 D6) an).bind fun x34=>
    (A.guard x29 false (A.ay 0 2 fZ) an).bind fun fJ=>
    (A.guard x29 false (A.look (.s [0,2]) x34 fJ (AV.agg [br,ah,ah,ah,ah,aM,AV.au]) tv.2) an).bind fun gz=>
    (A.guard x29 false ((A.cells 7 gz).bind fun fI=>A.aj 1 fI) an).bind fun x38=>
    (A.guard x29 false (A.neq .i x38 aH) an).bind fun eY=>
    (A.pick x29 cI eY).bind fun dc=>
    A.cond dc (
     TU (AX.normal,[(kT.getD 0 AV.undef)],tv.2)) (
     (A.ay 0 2 fZ).bind fun dV=>
     (A.ay 0 9 mH).bind fun gA=>
     (A.quiet (uK [gA,x7] tv.2) tv.2).bind fun fB=>
     ((A.lb (kT.getD 0 AV.undef)).bind fun _=>some (4)).bind fun p44=>
     ((A.lb (kT.getD 0 AV.undef)).bind fun D7=>A.aj p44 D7).bind fun fC=>
     ((((A.cell aH).bind fun v=>some [v]).bind fun iW=>(A.splice 0 iW [ah,AV.au]).bind fun pM=>some pM).bind fun cs=>some (AV.agg cs)).bind fun eD=>
     ((((A.cell fB).bind fun v=>some [v]).bind fun nO=>(A.splice 0 nO [ah,ah,ah,ah,ah,ah,AV.au]).bind fun xu=>((A.cell x7).bind fun v=>some [v]).bind fun IS=>(A.splice 2 IS xu).bind fun nP=>((A.cell fC).bind fun v=>some [v]).bind fun vE=>(A.splice 4 vE nP).bind fun iB=>(A.cells 2 eD).bind fun pN=>(A.splice 5 pN iB).bind fun iX=>some iX).bind fun cs=>some (AV.agg cs)).bind fun gC=>
     (A.quiet (uN [gC] tv.2) tv.2).bind fun eZ=>
     (A.aL a1).bind fun gV=>
     (A.aA 1 gV).bind fun jo=>
     ((A.deref jo tv.2).bind fun c62=>A.aj 0 c62).bind fun fD=>
     (((A.cells 7 eZ).bind fun pO=>(A.splice 0 pO [ah,ah,ah,ah,ah,ah,AV.au,ah,aM]).bind fun xw=>((A.cell fD).bind fun v=>some [v]).bind fun Tn=>(A.splice 7 Tn xw).bind fun xx=>((A.cell cI).bind fun v=>some [v]).bind fun IT=>(A.splice 8 IT xx).bind fun pP=>some pP).bind fun cs=>some (AV.agg cs)).bind fun ff=>
     (A.eA (.s [0,2]) (AV.om σ.length) dV ff tv.2).bind fun M8=>
     TU (AX.normal,[(kT.getD 0 AV.undef)],M8))) (
    TU (AX.exit 0,[(kT.getD 0 AV.undef)],kS))) [(AV.lbx c1)] ((σ++[aJ.map []])++[aJ.it [] anL]) fun Nt=>
 bif Nt.1==AX.exit 0 then(
  ((A.lb (Nt.2.1.getD 0 AV.undef)).bind fun _=>some (0)).bind fun p73=>
  ((A.lb (Nt.2.1.getD 0 AV.undef)).bind fun Tp=>A.aj p73 Tp).bind fun eE=>
  ((((A.cell x7).bind fun v=>some [v]).bind fun D8=>(A.splice 0 D8 [ah,ah,aM]).bind fun lR=>((A.cell eE).bind fun v=>some [v]).bind fun nR=>(A.splice 1 nR lR).bind fun AK=>((A.cell aM).bind fun v=>some [v]).bind fun ur=>(A.splice 2 ur AK).bind fun mI=>some mI).bind fun cs=>some (AV.agg cs)).bind fun p4=>
  (A.aL a2).bind fun rj=>
  (A.aA 0 rj).bind fun Bd=>
  (A.cells 3 p4).bind fun AL=>
  (A.storeAt Bd AL Nt.2.2).bind fun xy=>
  (A.aL a2).bind fun mO=>
  (A.aA 6 mO).bind fun iJ=>
  ((A.cell (AV.int .i64 (-1))).bind fun v=>some [v]).bind fun nS=>
  (A.storeAt iJ nS xy).bind fun nT=>
  (A.aL a2).bind fun x91=>
  (A.aA 8 x91).bind fun n9=>
  ((A.cell (AV.int .i64 (-1))).bind fun v=>some [v]).bind fun Cq=>
  (A.storeAt n9 Cq nT).bind fun sk=>
  (A.aL a2).bind fun x95=>
  (A.aA 9 x95).bind fun x96=>
  ((A.cell (AV.om σ.length)).bind fun v=>some [v]).bind fun xz=>
  (A.storeAt x96 xz sk).bind fun pR=>
  A.An σ (AV.aG []) pR)else
 none
noncomputable def GQ:List AV→Heap→Option (AV×Heap):=A.wrap false [] .k (A.vC NY)
noncomputable def UH (a0 a1:AV) (σ:Heap):Option (AV×Heap):=
 (G6 [a1] σ).bind fun r1=>
 (A.not r1.1).bind fun x2=>
 (rC [x2,aH] r1.2).bind fun r3=>
 (xW [a0] r3.2).bind fun r4=>
 (A.lss a1 r4.1).bind fun x5=>
 (rC [x5,(AV.int .i64 7)] r4.2).bind fun r6=>
 ((((A.cell r3.1).bind fun v=>some [v]).bind fun c7=>(A.splice 0 c7 [ah,ah]).bind fun c8=>((A.cell r6.1).bind fun v=>some [v]).bind fun c9=>(A.splice 1 c9 c8).bind fun dZ=>some dZ).bind fun cs=>some (AV.sl 1 (chunks 1 2 cs))).bind fun bW=>
 (ya [bW] r6.2).bind fun gG=>
 A.fin σ gG.1 gG.2
noncomputable def GW:List AV→Heap→Option (AV×Heap):=A.wrap true [(.p DW)] .k (A.cQ UH)
noncomputable def UB (a0 a1 a2 a3:AV) (σ:Heap):Option (AV×Heap):=
 (A.cells 2 a2).bind fun c1=>
 (A.ay 0 2 c1).bind fun x2=>
 (Bh [a0,a1,x2,a3] σ).bind fun r3=>
 (A.ext 0 r3.1).bind fun x4=>
 (A.ext 1 r3.1).bind fun x5=>
 (A.aL a0).bind fun x6=>
 (A.aA 10 x6).bind fun x7=>
 ((A.deref x7 r3.2).bind fun c8=>A.aj 0 c8).bind fun x9=>
 (A.ay 0 2 c1).bind fun bG=>
 (A.look (.s [0,2]) x9 bG (AV.agg [br,ah,ah,ah,ah,aM,AV.au]) r3.2).bind fun bW=>
 ((A.cells 7 bW).bind fun ep=>A.aj 1 ep).bind fun dG=>
 (A.neq .i dG aH).bind fun cE=>
 A.cond cE (
  A.fin σ x4 r3.2) (
  (A.aL a1).bind fun dg=>
  (A.aA 3 dg).bind fun cG=>
  ((A.deref cG r3.2).bind fun mG=>A.aj 0 mG).bind fun bM=>
  A.cond bM (
   A.fin σ ah r3.2) (
   (A.aL a1).bind fun cC=>
   (A.aA 2 cC).bind fun cR=>
   ((A.deref cR r3.2).bind fun kC=>A.aj 0 kC).bind fun dh=>
   (CQ [x4,dh] r3.2).bind fun nv=>
   (A.ext 0 nv.1).bind fun x24=>
   (A.ext 1 nv.1).bind fun x25=>
   A.fin σ x24 nv.2))
noncomputable def CM:List AV→Heap→Option (AV×Heap):=A.wrap true [(.p DW),(.p [(.s 10),.k,.k,.k])] .k (A.vC UB)
noncomputable def Kh (a0 a1:AV) (σ:Heap):Option (AV×Heap):=
 (GW [a0,a1] σ).bind fun r1=>
 (A.neq .i r1.1 ah).bind fun x2=>
 A.cond x2 (
  some ((AV.aG [AV.au,r1.1]),r1.2)) (
  (ER [a0,a1] r1.2).bind fun r3=>
  (A.cells 4 r3.1).bind fun c4=>
  (A.storeAt (AV.op r3.2.length 0) c4 (r3.2++[aJ.box [AV.au,ah,ah,aM]])).bind fun c5=>
  (A.aL a0).bind fun x6=>
  (A.aA 9 x6).bind fun x7=>
  ((A.deref x7 c5).bind fun c8=>A.aj 0 c8).bind fun x9=>
  (A.bJ x9).bind fun bG=>
  (A.loop (fun v11 kK=>
    (A.lss (v11.getD 1 AV.undef) bG).bind fun cE=>
    A.cond cE (
     (A.aT 2 x9 (v11.getD 1 AV.undef)).bind fun dg=>
     ((A.deref dg kK).bind fun ku=>A.ay 0 2 ku).bind fun cB=>
     (A.cells 2 cB).bind fun iV=>
     (A.splice 0 iV [ah,br]).bind fun gM=>
     (A.ay 0 2 gM).bind fun cR=>
     (A.ay 0 2 gM).bind fun bO=>
     (A.quiet (CM [a0,(AV.op r3.2.length 0),bO,a1] kK) kK).bind fun dh=>
     (((A.cells 2 cR).bind fun eu=>(A.splice 0 eu [ah,br,ah]).bind fun gu=>((A.cell dh).bind fun v=>some [v]).bind fun gP=>(A.splice 2 gP gu).bind fun fM=>some fM).bind fun cs=>some (AV.agg cs)).bind fun dL=>
     (((A.cells 3 dL).bind fun mH=>(A.splice 0 mH [ah,br,ah]).bind fun qN=>some qN).bind fun cs=>some (AV.sl 3 (chunks 3 1 cs))).bind fun cL=>
     (A.append 3 (140737488355328 / 32) (v11.getD 0 AV.undef) cL kK).bind fun mM=>
     (A.add (v11.getD 1 AV.undef) aH).bind fun x32=>
     some (AX.normal,[mM.1,x32],mM.2)) (
     some (AX.exit 0,[(v11.getD 0 AV.undef),(v11.getD 1 AV.undef)],kK))) [AV.au,ah] c5).bind fun qX=>
  bif qX.1==AX.exit 0 then(
   some ((AV.aG [(qX.2.1.getD 0 AV.undef),ah]),qX.2.2))else
  none)
noncomputable def GR:List AV→Heap→Option (AV×Heap):=A.wrap false [] .k (A.cQ Kh)
noncomputable def EO (a0:AV) (σ:Heap):Option (AV×Heap):=
 (A.aL a0).bind fun x1=>
 (A.aA 11 x1).bind fun x2=>
 ((A.deref x2 σ).bind fun c3=>A.aj 0 c3).bind fun x4=>
 (J8 [x4] σ).bind fun r5=>
 some (r5.1,r5.2)
noncomputable def Ka:List AV→Heap→Option (AV×Heap):=A.wrap false [] .k (A.cK EO)
noncomputable def OJ (a0:AV) (σ:Heap):Option (AV×Heap):=
 (A.cells 5 a0).bind fun c1=>
 (A.aj 4 c1).bind fun x2=>
 ((A.jl (.s 3) NC) [x2] σ).bind fun r3=>
 ((((A.cell r3.1).bind fun v=>some [v]).bind fun c4=>(A.splice 4 c4 zW).bind fun c5=>some c5).bind fun cs=>some (AV.agg cs)).bind fun x6=>
 (A.cells 5 x6).bind fun c7=>
 (A.splice 0 c7 zW).bind fun c8=>
 (A.aj 1 c1).bind fun x9=>
 ((A.jl (.s 4) NL) [x9] r3.2).bind fun kH=>
 ((A.cell kH.1).bind fun v=>some [v]).bind fun gm=>
 (A.splice 1 gm c8).bind fun ep=>
 (A.aj 0 c1).bind fun dG=>
 (A.bJ dG).bind fun cE=>
 (A.loop (fun bP gJ=>
   (A.lss (bP.getD 3 AV.undef) cE).bind fun bM=>
   A.cond bM (
    (A.aT 3 dG (bP.getD 3 AV.undef)).bind fun cC=>
    ((A.deref cC gJ).bind fun gO=>A.ay 0 3 gO).bind fun bO=>
    (A.cells 3 bO).bind fun fZ=>
    (A.splice 0 fZ [br,ah,AV.au]).bind fun eu=>
    (A.aj 2 eu).bind fun x24=>
    (EL [x24] gJ).bind fun jA=>
    ((A.cell jA.1).bind fun v=>some [v]).bind fun fM=>
    (A.splice 2 fM eu).bind fun lq=>
    (A.aj 2 lq).bind fun x28=>
    (A.bJ x28).bind fun x29=>
    (A.loop (fun v30 jQ=>
      (A.lss (v30.getD 4 AV.undef) x29).bind fun eB=>
      A.cond eB (
       ((A.lb (v30.getD 3 AV.undef)).bind fun _=>some (2)).bind fun xH=>
       ((A.lb (v30.getD 3 AV.undef)).bind fun gZ=>A.aj xH gZ).bind fun gz=>
       ((A.lb (v30.getD 3 AV.undef)).bind fun _=>some (2)).bind fun A6=>
       ((A.lb (v30.getD 3 AV.undef)).bind fun lu=>A.aj A6 lu).bind fun eY=>
       (A.aT 7 eY (v30.getD 4 AV.undef)).bind fun dc=>
       (A.aA 6 dc).bind fun dV=>
       ((A.deref dV jQ).bind fun lQ=>A.aj 0 lQ).bind fun fB=>
       (A.quiet ((A.jl (.s 3) CG) [fB] jQ) jQ).bind fun eC=>
       (A.aT 7 gz (v30.getD 4 AV.undef)).bind fun eo=>
       (A.aA 6 eo).bind fun fC=>
       ((A.cell eC).bind fun v=>some [v]).bind fun iW=>
       (A.storeAt fC iW jQ).bind fun pM=>
       (A.add (v30.getD 4 AV.undef) aH).bind fun eD=>
       some (AX.normal,[(v30.getD 0 AV.undef),(v30.getD 1 AV.undef),(v30.getD 2 AV.undef),(v30.getD 3 AV.undef),eD],pM)) (
       some (AX.exit 2,[(v30.getD 0 AV.undef),(v30.getD 1 AV.undef),(v30.getD 2 AV.undef),(v30.getD 3 AV.undef),(v30.getD 4 AV.undef)],jQ))) [(bP.getD 0 AV.undef),(bP.getD 1 AV.undef),(bP.getD 2 AV.undef),(AV.lbx lq),ah] jA.2).bind fun cZ=>
    bif cZ.1==AX.exit 2 then(
     ((A.lb (cZ.2.1.getD 2 AV.undef)).bind fun _=>some (0)).bind fun Em=>
     ((A.lb (cZ.2.1.getD 2 AV.undef)).bind fun _=>some (Em)).bind fun En=>
     ((A.lb (cZ.2.1.getD 2 AV.undef)).bind fun nP=>A.aj En nP).bind fun gB=>
     ((A.lb (cZ.2.1.getD 3 AV.undef)).bind fun iB=>A.ay 0 3 iB).bind fun gd=>
     (((A.cells 3 gd).bind fun iX=>(A.splice 0 iX [br,ah,AV.au]).bind fun iO=>some iO).bind fun cs=>some (AV.sl 3 (chunks 3 1 cs))).bind fun eZ=>
     (A.append 3 (140737488355328 / 48) gB eZ cZ.2.2).bind fun xK=>
     ((A.lb (cZ.2.1.getD 2 AV.undef)).bind fun _=>some (0)).bind fun Eo=>
     ((A.lb (cZ.2.1.getD 2 AV.undef)).bind fun _=>some (Eo)).bind fun Ep=>
     (A.lb (cZ.2.1.getD 2 AV.undef)).bind fun xw=>
     ((A.cell xK.1).bind fun v=>some [v]).bind fun uq=>
     (A.splice Ep uq xw).bind fun pO=>
     (A.add (bP.getD 3 AV.undef) aH).bind fun gD=>
     some (AX.normal,[(cZ.2.1.getD 0 AV.undef),(cZ.2.1.getD 1 AV.undef),(AV.lbx pO),gD],xK.2))else
    none) (
    some (AX.exit 0,[(bP.getD 0 AV.undef),(bP.getD 1 AV.undef),(bP.getD 2 AV.undef),(bP.getD 3 AV.undef)],gJ))) [(AV.lbx c1),(AV.lbx zW),(AV.lbx ep),ah] kH.2).bind fun eX=>
 bif eX.1==AX.exit 0 then(
  ((A.lb (eX.2.1.getD 0 AV.undef)).bind fun _=>some (2)).bind fun p68=>
  ((A.lb (eX.2.1.getD 0 AV.undef)).bind fun pP=>A.aj p68 pP).bind fun ff=>
  (A.bJ ff).bind fun n5=>
  (A.loop (fun v72 sF=>
    (A.lss (v72.getD 3 AV.undef) n5).bind fun eE=>
    A.cond eE (
     (A.aT 3 ff (v72.getD 3 AV.undef)).bind fun je=>
     ((A.deref je sF).bind fun lR=>A.ay 0 3 lR).bind fun jC=>
     (A.cells 3 jC).bind fun AK=>
     (A.splice 0 AK [ah,br,AV.au]).bind fun ur=>
     (A.aj 2 ur).bind fun pZ=>
     ((A.jl (.s 3) EH) [pZ] sF).bind fun xM=>
     ((A.cell xM.1).bind fun v=>some [v]).bind fun kD=>
     (A.splice 2 kD ur).bind fun iY=>
     ((A.lb (v72.getD 2 AV.undef)).bind fun _=>some (2)).bind fun Et=>
     ((A.lb (v72.getD 2 AV.undef)).bind fun xy=>A.aj Et xy).bind fun mO=>
     (A.ay 0 3 iY).bind fun iJ=>
     (((A.cells 3 iJ).bind fun nS=>(A.splice 0 nS [ah,br,AV.au]).bind fun nT=>some nT).bind fun cs=>some (AV.sl 3 (chunks 3 1 cs))).bind fun x91=>
     (A.append 3 (140737488355328 / 48) mO x91 xM.2).bind fun xQ=>
     ((A.lb (v72.getD 2 AV.undef)).bind fun _=>some (2)).bind fun Ev=>
     (A.lb (v72.getD 2 AV.undef)).bind fun D9=>
     ((A.cell xQ.1).bind fun v=>some [v]).bind fun sk=>
     (A.splice Ev sk D9).bind fun jx=>
     (A.add (v72.getD 3 AV.undef) aH).bind fun xV=>
     some (AX.normal,[(v72.getD 0 AV.undef),(v72.getD 1 AV.undef),(AV.lbx jx),xV],xQ.2)) (
     some (AX.exit 4,[(v72.getD 0 AV.undef),(v72.getD 1 AV.undef),(v72.getD 2 AV.undef),(v72.getD 3 AV.undef)],sF))) [(eX.2.1.getD 0 AV.undef),(eX.2.1.getD 1 AV.undef),(eX.2.1.getD 2 AV.undef),ah] eX.2.2).bind fun ze=>
  bif ze.1==AX.exit 4 then(
   ((A.lb (ze.2.1.getD 0 AV.undef)).bind fun _=>some (3)).bind fun p99=>
   ((A.lb (ze.2.1.getD 0 AV.undef)).bind fun wG=>A.aj p99 wG).bind fun x101=>
   (A.bJ x101).bind fun x102=>
   (A.loop (fun iG rW=>
     (A.lss (iG.getD 2 AV.undef) x102).bind fun nI=>
     A.cond nI (
      (A.aT 2 x101 (iG.getD 2 AV.undef)).bind fun nJ=>
      ((A.deref nJ rW).bind fun Dx=>A.ay 0 2 Dx).bind fun nK=>
      (A.cells 2 nK).bind fun Dy=>
      (A.splice 0 Dy [ah,AV.au]).bind fun mw=>
      (A.aj 1 mw).bind fun x112=>
      (CI [x112] rW).bind fun sY=>
      ((A.cell sY.1).bind fun v=>some [v]).bind fun DA=>
      (A.splice 1 DA mw).bind fun tP=>
      (A.aj 1 tP).bind fun DU=>
      (A.bJ DU).bind fun pK=>
      (A.loop (fun dr fQ=>
        (A.lss (dr.getD 3 AV.undef) pK).bind fun xe=>
        A.cond xe (
         ((A.lb (dr.getD 2 AV.undef)).bind fun _=>some (1)).bind fun As=>
         ((A.lb (dr.getD 2 AV.undef)).bind fun nD=>A.aj As nD).bind fun uc=>
         (A.aT 11 uc (dr.getD 3 AV.undef)).bind fun j0=>
         (A.aL j0).bind fun xg=>
         (A.aA 10 xg).bind fun xh=>
         ((A.deref xh fQ).bind fun lP=>A.aj 0 lP).bind fun ng=>
         (A.quiet ((A.jl (.s 8) CH) [ng] fQ) fQ).bind fun rX=>
         (A.aL j0).bind fun ud=>
         (A.aA 6 ud).bind fun mB=>
         (A.aA 1 mB).bind fun nL=>
         ((A.deref nL fQ).bind fun nE=>A.aj 0 nE).bind fun ue=>
         (A.quiet ((A.jl (.s 2) CF) [ue] fQ) fQ).bind fun nM=>
         (A.aL j0).bind fun uf=>
         (A.aA 10 uf).bind fun mC=>
         ((A.cell rX).bind fun v=>some [v]).bind fun wJ=>
         (A.storeAt mC wJ fQ).bind fun wK=>
         (A.aL j0).bind fun ug=>
         (A.aA 6 ug).bind fun xk=>
         (A.aA 1 xk).bind fun mD=>
         ((A.cell nM).bind fun v=>some [v]).bind fun Ai=>
         (A.storeAt mD Ai wK).bind fun Aj=>
         (A.add (dr.getD 3 AV.undef) aH).bind fun AF=>
         some (AX.normal,[(dr.getD 0 AV.undef),(dr.getD 1 AV.undef),(dr.getD 2 AV.undef),AF],Aj)) (
         some (AX.exit 8,[(dr.getD 0 AV.undef),(dr.getD 1 AV.undef),(dr.getD 2 AV.undef),(dr.getD 3 AV.undef)],fQ))) [(iG.getD 0 AV.undef),(iG.getD 1 AV.undef),(AV.lbx tP),ah] sY.2).bind fun iF=>
      bif iF.1==AX.exit 8 then(
       ((A.lb (iF.2.1.getD 1 AV.undef)).bind fun _=>some (3)).bind fun DP=>
       ((A.lb (iF.2.1.getD 1 AV.undef)).bind fun wL=>A.aj DP wL).bind fun x150=>
       ((A.lb (iF.2.1.getD 2 AV.undef)).bind fun wM=>A.ay 0 2 wM).bind fun x152=>
       (((A.cells 2 x152).bind fun tU=>(A.splice 0 tU [ah,AV.au]).bind fun DC=>some DC).bind fun cs=>some (AV.sl 2 (chunks 2 1 cs))).bind fun AG=>
       (A.append 2 (140737488355328 / 32) x150 AG iF.2.2).bind fun wZ=>
       ((A.lb (iF.2.1.getD 1 AV.undef)).bind fun _=>some (3)).bind fun DQ=>
       (A.lb (iF.2.1.getD 1 AV.undef)).bind fun wO=>
       ((A.cell wZ.1).bind fun v=>some [v]).bind fun sS=>
       (A.splice DQ sS wO).bind fun wN=>
       (A.add (iG.getD 2 AV.undef) aH).bind fun DV=>
       some (AX.normal,[(iF.2.1.getD 0 AV.undef),(AV.lbx wN),DV],wZ.2))else
      none) (
      some (AX.exit 6,[(iG.getD 0 AV.undef),(iG.getD 1 AV.undef),(iG.getD 2 AV.undef)],rW))) [(ze.2.1.getD 1 AV.undef),(ze.2.1.getD 2 AV.undef),ah] ze.2.2).bind fun MW=>
   bif MW.1==AX.exit 6 then(
    ((A.lb (MW.2.1.getD 1 AV.undef)).bind fun Im=>A.ay 0 5 Im).bind fun SU=>
    (A.lb (MW.2.1.getD 0 AV.undef)).bind fun Ak=>
    (A.cells 5 SU).bind fun Io=>
    (A.splice 0 Io Ak).bind fun DD=>
    (A.ay 0 5 DD).bind fun x168=>
    A.fin σ x168 MW.2.2)else
   none)else
  none)else
 none
noncomputable def Kw:List AV→Heap→Option (AV×Heap):=A.wrap true [yL] (.a [(.e 3 Dr),(.s 4),(.e 3 [.k,.k,(.s 3)]),(.e 2 [.k,(.e 11 uh)]),(.s 3)]) (A.cK OJ)
noncomputable def Ht (a0:AV) (σ:Heap):Option (AV×Heap):=
 (A.cells 5 a0).bind fun c1=>
 (A.ay 0 5 c1).bind fun x2=>
 (Kk [x2] σ).bind fun r3=>
 (A.neq .i r3.1 ah).bind fun x4=>
 A.cond x4 (
  some ((AV.aG [AV.np,r3.1]),r3.2)) (
  (A.ay 0 5 c1).bind fun x5=>
  (Kw [x5] r3.2).bind fun r6=>
  (A.cells 5 r6.1).bind fun c7=>
  (A.splice 0 c7 c1).bind fun c8=>
  (A.ay 0 5 c8).bind fun x9=>
  (((A.cells 5 x9).bind fun dZ=>(A.splice 4 dZ [AV.au,ah,ah,aM,AV.au,AV.au,AV.au,AV.au,AV.au,AV.au,AV.nm,AV.au]).bind fun gm=>((A.cell (AV.om r6.2.length)).bind fun v=>some [v]).bind fun ep=>(A.splice 10 ep gm).bind fun gH=>some gH).bind fun cs=>some (AV.agg cs)).bind fun cE=>
  (A.cells 12 cE).bind fun jG=>
  (A.aL (AV.op (r6.2++[aJ.map []]).length 0)).bind fun cG=>
  (A.aA 0 cG).bind fun cB=>
  (A.aA 2 cB).bind fun bM=>
  ((A.cell (AV.int .i64 65535)).bind fun v=>some [v]).bind fun gM=>
  (A.storeAt bM gM ((r6.2++[aJ.map []])++[aJ.box jG])).bind fun gO=>
  (A.ay 0 2 c8).bind fun bO=>
  (EV [bO] gO).bind fun Ex=>
  (A.ext 0 Ex.1).bind fun eP=>
  (A.ext 1 Ex.1).bind fun x24=>
  (A.aL (AV.op (r6.2++[aJ.map []]).length 0)).bind fun x25=>
  (A.aA 9 x25).bind fun fA=>
  ((A.cell eP).bind fun v=>some [v]).bind fun lq=>
  (A.storeAt fA lq Ex.2).bind fun mH=>
  (A.aj 0 c8).bind fun x29=>
  (A.bJ x29).bind fun cL=>
  (A.loop (fun v31 sD=>
    (A.lss (v31.getD 1 AV.undef) cL).bind fun x34=>
    A.cond x34 (
     (A.aT 3 x29 (v31.getD 1 AV.undef)).bind fun fJ=>
     ((A.deref fJ sD).bind fun hG=>A.ay 0 3 hG).bind fun bQ=>
     (A.cells 3 bQ).bind fun lu=>
     (A.splice 0 lu [br,ah,AV.au]).bind fun l6=>
     (A.aj 0 l6).bind fun dc=>
     (A.ay 0 3 l6).bind fun dV=>
     (A.eA .z (AV.om mH.length) dc dV sD).bind fun I1=>
     (A.add (v31.getD 1 AV.undef) aH).bind fun fB=>
     some (AX.normal,[(v31.getD 0 AV.undef),fB],I1)) (
     some (AX.exit 0,[(v31.getD 0 AV.undef),(v31.getD 1 AV.undef)],sD))) [(AV.lbx c8),ah] (mH++[aJ.map []])).bind fun dY=>
  bif dY.1==AX.exit 0 then(
   ((A.lb (dY.2.1.getD 0 AV.undef)).bind fun _=>some (0)).bind fun p45=>
   ((A.lb (dY.2.1.getD 0 AV.undef)).bind fun _=>some ((p45+1))).bind fun Ju=>
   ((A.lb (dY.2.1.getD 0 AV.undef)).bind fun iW=>A.aj Ju iW).bind fun gq=>
   (A.bJ gq).bind fun eD=>
   (A.loop (fun v50 tE=>
     (A.lss (v50.getD 1 AV.undef) eD).bind fun gR=>
     A.cond gR (
      (A.aT 4 gq (v50.getD 1 AV.undef)).bind fun gB=>
      ((A.deref gB tE).bind fun iB=>A.ay 0 4 iB).bind fun gd=>
      (A.cells 4 gd).bind fun iX=>
      (A.splice 0 iX [ah,br,ah,ah]).bind fun iO=>
      (A.aj 1 iO).bind fun eZ=>
      (A.look .z (AV.om mH.length) eZ (AV.agg [br,ah,AV.au]) tE).bind fun gV=>
      ((A.cells 3 gV).bind fun nQ=>A.aj 2 nQ).bind fun fc=>
      (A.bJ fc).bind fun fD=>
      (A.loop (fun v64 gp=>
        (A.lss (v64.getD 2 AV.undef) fD).bind fun jR=>
        A.cond jR (
         (A.aT 7 fc (v64.getD 2 AV.undef)).bind fun iq=>
         ((A.deref iq gp).bind fun pP=>A.ay 0 7 pP).bind fun ff=>
         (A.cells 7 ff).bind fun lI=>
         (A.splice 0 lI [br,ah,ah,ah,ah,aM,AV.au]).bind fun jH=>
         (A.aL (AV.op (r6.2++[aJ.map []]).length 0)).bind fun iH=>
         (A.aA 10 iH).bind fun iu=>
         ((A.deref iu gp).bind fun pQ=>A.aj 0 pQ).bind fun je=>
         ((A.lb (v64.getD 1 AV.undef)).bind fun _=>some (0)).bind fun sx=>
         ((A.lb (v64.getD 1 AV.undef)).bind fun nR=>A.aj sx nR).bind fun jS=>
         (A.aj 0 jH).bind fun fT=>
         ((((A.cell jS).bind fun v=>some [v]).bind fun mI=>(A.splice 0 mI [ah,br]).bind fun lz=>((A.cell fT).bind fun v=>some [v]).bind fun kD=>(A.splice 1 kD lz).bind fun iY=>some iY).bind fun cs=>some (AV.agg cs)).bind fun iI=>
         (A.ay 0 7 jH).bind fun jD=>
         (A.eA (.s [0,2]) je iI jD gp).bind fun ux=>
         (A.add (v64.getD 2 AV.undef) aH).bind fun iJ=>
         some (AX.normal,[(v64.getD 0 AV.undef),(v64.getD 1 AV.undef),iJ],ux)) (
         some (AX.exit 4,[(v64.getD 0 AV.undef),(v64.getD 1 AV.undef),(v64.getD 2 AV.undef)],gp))) [(v50.getD 0 AV.undef),(AV.lbx iO),ah] tE).bind fun xP=>
      bif xP.1==AX.exit 4 then(
       (A.add (v50.getD 1 AV.undef) aH).bind fun x90=>
       some (AX.normal,[(xP.2.1.getD 0 AV.undef),x90],xP.2.2))else
      none) (
      some (AX.exit 2,[(v50.getD 0 AV.undef),(v50.getD 1 AV.undef)],tE))) [(dY.2.1.getD 0 AV.undef),ah] dY.2.2).bind fun zc=>
   bif zc.1==AX.exit 2 then(
    ((A.lb (zc.2.1.getD 0 AV.undef)).bind fun _=>some (4)).bind fun p92=>
    ((A.lb (zc.2.1.getD 0 AV.undef)).bind fun Cq=>A.aj p92 Cq).bind fun rq=>
    (A.bJ rq).bind fun x95=>
    (A.loop (fun jB sG=>
      (A.lss (jB.getD 1 AV.undef) x95).bind fun x99=>
      A.cond x99 (
       (A.aT 3 rq (jB.getD 1 AV.undef)).bind fun nH=>
       ((A.deref nH sG).bind fun oZ=>A.ay 0 3 oZ).bind fun x102=>
       (A.cells 3 x102).bind fun Dw=>
       (A.splice 0 Dw [ah,ah,ah]).bind fun rR=>
       ((A.lb (jB.getD 0 AV.undef)).bind fun zY=>A.ay 0 5 zY).bind fun nI=>
       (A.aj 1 rR).bind fun nJ=>
       (Bm [nI,nJ] sG).bind fun nG=>
       (A.ext 0 nG.1).bind fun nK=>
       (A.ext 1 nG.1).bind fun Az=>
       (A.cells 2 nK).bind fun mw=>
       (A.splice 0 mw [ah,AV.au]).bind fun Dz=>
       (A.aL (AV.op (r6.2++[aJ.map []]).length 0)).bind fun x113=>
       (A.aA 0 x113).bind fun x114=>
       (A.aA 0 x114).bind fun x115=>
       ((A.deref x115 nG.2).bind fun tQ=>A.aj 0 tQ).bind fun pK=>
       (A.aj 0 rR).bind fun w8=>
       (A.aj 2 rR).bind fun AA=>
       (A.aj 1 Dz).bind fun AB=>
       ((((A.cell w8).bind fun v=>some [v]).bind fun pe=>(A.splice 3 pe [ah,ah,aM,ah,ah,AV.au,ah,ah,ah,AV.nm]).bind fun zZ=>((A.cell AA).bind fun v=>some [v]).bind fun nD=>(A.splice 4 nD zZ).bind fun Aa=>((A.cell AB).bind fun v=>some [v]).bind fun wI=>(A.splice 5 wI Aa).bind fun tT=>((A.cell (AV.int .i64 (-1))).bind fun v=>some [v]).bind fun qF=>(A.splice 6 qF tT).bind fun lP=>((A.cell (AV.int .i64 65535)).bind fun v=>some [v]).bind fun Ab=>(A.splice 7 Ab lP).bind fun Ac=>((A.cell (AV.int .i64 (-1))).bind fun v=>some [v]).bind fun Ad=>(A.splice 8 Ad Ac).bind fun Ae=>some Ae).bind fun cs=>some (AV.agg cs)).bind fun nL=>
       (((A.cells 10 nL).bind fun nE=>(A.splice 0 nE [ah,ah,aM,ah,ah,AV.au,ah,ah,ah,AV.nm]).bind fun Af=>some Af).bind fun cs=>some (AV.sl 10 (chunks 10 1 cs))).bind fun nM=>
       (A.append 10 (140737488355328 / 96) pK nM nG.2).bind fun wY=>
       (A.aL (AV.op (r6.2++[aJ.map []]).length 0)).bind fun mC=>
       (A.aA 0 mC).bind fun AD=>
       (A.aA 0 AD).bind fun AE=>
       ((A.cell wY.1).bind fun v=>some [v]).bind fun DB=>
       (A.storeAt AE DB wY.2).bind fun Ah=>
       (A.add (jB.getD 1 AV.undef) aH).bind fun mD=>
       some (AX.normal,[(jB.getD 0 AV.undef),mD],Ah)) (
       some (AX.exit 6,[(jB.getD 0 AV.undef),(jB.getD 1 AV.undef)],sG))) [(zc.2.1.getD 0 AV.undef),ah] zc.2.2).bind fun abj=>
    bif abj.1==AX.exit 6 then(
     some ((AV.aG [(AV.op (r6.2++[aJ.map []]).length 0),ah]),abj.2.2))else
    none)else
   none)else
  none)
noncomputable def CV:List AV→Heap→Option (AV×Heap):=A.wrap true [yL] .k (A.cK Ht)
noncomputable def ET (a0 a1 a2:AV) (σ:Heap):Option (AV×Heap):=
 ((A.cells 5 a2).bind fun cs=>some (AV.rp cs)).bind fun x1=>
 (A.aA 1 x1).bind fun x2=>
 ((A.deref x2 σ).bind fun c3=>A.aj 0 c3).bind fun x4=>
 (A.eql .i x4 (AV.int .i64 8)).bind fun x5=>
 A.cond x5 (
  (A.aL a1).bind fun x6=>
  (A.aA 1 x6).bind fun x7=>
  ((A.deref x7 σ).bind fun c8=>A.aj 0 c8).bind fun x9=>
  (A.add x9 aH).bind fun bG=>
  (A.aL a1).bind fun bW=>
  (A.aA 1 bW).bind fun ct=>
  ((A.cell bG).bind fun v=>some [v]).bind fun gH=>
  (A.storeAt ct gH σ).bind fun jP=>
  (A.aA 4 x1).bind fun dg=>
  ((A.deref dg jP).bind fun ku=>A.aj 0 ku).bind fun cB=>
  (A.aL a1).bind fun bM=>
  (A.aA 2 bM).bind fun cC=>
  ((A.cell cB).bind fun v=>some [v]).bind fun gO=>
  (A.storeAt cC gO jP).bind fun kC=>
  some (ah,kC)) (
  (A.eql .i x4 (AV.int .i64 9)).bind fun dh=>
  A.cond dh (
   (A.aL a1).bind fun eP=>
   (A.aA 1 eP).bind fun x24=>
   ((A.deref x24 σ).bind fun gP=>A.aj 0 gP).bind fun fA=>
   (A.add fA aH).bind fun dL=>
   (A.aL a1).bind fun x28=>
   (A.aA 1 x28).bind fun x29=>
   ((A.cell dL).bind fun v=>some [v]).bind fun um=>
   (A.storeAt x29 um σ).bind fun vD=>
   (A.aA 4 x1).bind fun x32=>
   ((A.deref x32 vD).bind fun D6=>A.aj 0 D6).bind fun x34=>
   (A.eql .i x34 aH).bind fun fJ=>
   (A.aL a1).bind fun gz=>
   (A.aA 3 gz).bind fun bQ=>
   ((A.cell fJ).bind fun v=>some [v]).bind fun lu=>
   (A.storeAt bQ lu vD).bind fun l6=>
   some (ah,l6)) (
   (A.aL a1).bind fun dc=>
   (A.aA 0 dc).bind fun dV=>
   ((A.deref dV σ).bind fun lQ=>A.aj 0 lQ).bind fun fB=>
   (GI (A.tab (fun _ _=>none) [(352,Bf),(354,Bg)]) [fB,(AV.fn 352 [x1])] σ).bind fun dY=>
   (A.aL a1).bind fun eo=>
   (A.aA 0 eo).bind fun fC=>
   ((A.deref fC dY.2).bind fun iW=>A.aj 0 iW).bind fun gq=>
   (A.aT 10 gq dY.1).bind fun eD=>
   (A.aA 1 x1).bind fun lU=>
   ((A.deref lU dY.2).bind fun xu=>A.aj 0 xu).bind fun dP=>
   (A.eql .i dP aH).bind fun gR=>
   A.cond gR (
    (A.aL eD).bind fun gB=>
    (A.aA 6 gB).bind fun kL=>
    ((A.deref kL dY.2).bind fun pN=>A.aj 0 pN).bind fun jK=>
    (A.add jK aH).bind fun gC=>
    (A.aL eD).bind fun eZ=>
    (A.aA 5 eZ).bind fun gV=>
    ((A.deref gV dY.2).bind fun nQ=>A.aj 0 nQ).bind fun fc=>
    (A.bJ fc).bind fun fD=>
    (A.eql .i gC fD).bind fun lV=>
    A.cond lV (
     some ((AV.int .i64 8),dY.2)) (
     (A.aL a1).bind fun jd=>
     (A.aA 1 jd).bind fun gD=>
     ((A.deref gD dY.2).bind fun xx=>A.aj 0 xx).bind fun iq=>
     (A.add iq aH).bind fun fP=>
     (A.aL a1).bind fun ff=>
     (A.aA 1 ff).bind fun n5=>
     ((A.cell fP).bind fun v=>some [v]).bind fun jH=>
     (A.storeAt n5 jH dY.2).bind fun IU=>
     (A.geq gC ah).bind fun iu=>
     (A.cond iu (
      (A.aA 0 x1).bind fun je=>
      ((A.deref je IU).bind fun lR=>A.aj 0 lR).bind fun jC=>
      (sH [a0,a1,dY.1,gC,jC] IU).bind fun kn=>
      some (([]:List AV),kn.2)) (
      some (([]:List AV),IU))).bind fun r75=>
     some (ah,r75.2))) (
    (A.eql .i dP (AV.int .i64 2)).bind fun fT=>
    A.cond fT (
     (A.aL eD).bind fun pZ=>
     (A.aA 6 pZ).bind fun p4=>
     ((A.deref p4 dY.2).bind fun kD=>A.aj 0 kD).bind fun Bd=>
     (A.sub Bd aH).bind fun iI=>
     (A.lss iI ah).bind fun jD=>
     A.cond jD (
      some ((AV.int .i64 8),dY.2)) (
      (A.aL a1).bind fun mO=>
      (A.aA 1 mO).bind fun iJ=>
      ((A.deref iJ dY.2).bind fun nS=>A.aj 0 nS).bind fun x90=>
      (A.add x90 aH).bind fun x91=>
      (A.aL a1).bind fun n9=>
      (A.aA 1 n9).bind fun x93=>
      ((A.cell x91).bind fun v=>some [v]).bind fun sk=>
      (A.storeAt x93 sk dY.2).bind fun jx=>
      (A.geq iI ah).bind fun x96=>
      (A.cond x96 (
       (A.aA 0 x1).bind fun x98=>
       ((A.deref x98 jx).bind fun xA=>A.aj 0 xA).bind fun nH=>
       (sH [a0,a1,dY.1,iI,nH] jx).bind fun vw=>
       some (([]:List AV),vw.2)) (
       some (([]:List AV),jx))).bind fun r97=>
      some (ah,r97.2))) (
     (A.eql .i dP (AV.int .i64 3)).bind fun x102=>
     A.cond x102 (
      (A.aL eD).bind fun vB=>
      (A.aA 5 vB).bind fun x104=>
      ((A.deref x104 dY.2).bind fun zY=>A.aj 0 zY).bind fun nI=>
      (GL (A.tab (fun _ _=>none) [(352,Bf),(354,Bg)]) [nI,(AV.fn 354 [x1])] dY.2).bind fun Gg=>
      (A.lss Gg.1 ah).bind fun IM=>
      A.cond IM (
       some ((AV.int .i64 8),Gg.2)) (
       (A.aL a1).bind fun nK=>
       (A.aA 1 nK).bind fun Az=>
       ((A.deref Az Gg.2).bind fun mw=>A.aj 0 mw).bind fun x112=>
       (A.add x112 aH).bind fun x113=>
       (A.aL a1).bind fun x114=>
       (A.aA 1 x114).bind fun x115=>
       ((A.cell x113).bind fun v=>some [v]).bind fun tQ=>
       (A.storeAt x115 tQ Gg.2).bind fun Ij=>
       (A.geq Gg.1 ah).bind fun w8=>
       (A.cond w8 (
        (A.aA 0 x1).bind fun AB=>
        ((A.deref AB Ij).bind fun pe=>A.aj 0 pe).bind fun IN=>
        (sH [a0,a1,dY.1,Gg.1,IN] Ij).bind fun oC=>
        some (([]:List AV),oC.2)) (
        some (([]:List AV),Ij))).bind fun aoo=>
       some (ah,aoo.2))) (
      (A.eql .i dP (AV.int .i64 4)).bind fun uc=>
      A.cond uc (
       (A.aL eD).bind fun j0=>
       (A.aA 0 j0).bind fun xg=>
       (A.aA 2 xg).bind fun xh=>
       ((A.deref xh dY.2).bind fun lP=>A.aj 0 lP).bind fun ng=>
       (A.guard ng false (some eD) an).bind fun rX=>
       (A.guard ng false (A.aL rX) an).bind fun ud=>
       (A.guard ng false (A.aA 6 ud) an).bind fun mB=>
       (A.guard ng false ((A.deref mB dY.2).bind fun amU=>A.aj 0 amU) an).bind fun SO=>
       (A.guard ng false (A.lss SO ah) an).bind fun ue=>
       (A.pick ng cI ue).bind fun nM=>
       A.cond nM (
        some ((AV.int .i64 10),dY.2)) (
        (A.aL eD).bind fun uf=>
        (A.aA 0 uf).bind fun mC=>
        ((A.deref mC dY.2).bind fun wJ=>A.ay 0 3 wJ).bind fun AE=>
        (A.aA 0 x1).bind fun ug=>
        ((A.deref ug dY.2).bind fun Ah=>A.aj 0 Ah).bind fun mD=>
        (A.quiet (vT [AE,mD] dY.2) dY.2).bind fun SP=>
        (A.aA 0 x1).bind fun SQ=>
        ((A.deref SQ dY.2).bind fun amW=>A.aj 0 amW).bind fun SR=>
        ((((A.cell SP).bind fun v=>some [v]).bind fun RQ=>(A.splice 0 RQ [ah,ah,aM]).bind fun wL=>((A.cell SR).bind fun v=>some [v]).bind fun Ik=>(A.splice 1 Ik wL).bind fun wM=>((A.cell cI).bind fun v=>some [v]).bind fun RR=>(A.splice 2 RR wM).bind fun tU=>some tU).bind fun cs=>some (AV.agg cs)).bind fun SS=>
        (A.aL eD).bind fun AG=>
        (A.aA 0 AG).bind fun aoG=>
        (A.cells 3 SS).bind fun amY=>
        (A.storeAt aoG amY dY.2).bind fun sS=>
        (A.aL a1).bind fun x159=>
        (A.aA 1 x159).bind fun x160=>
        ((A.deref x160 sS).bind fun Il=>A.aj 0 Il).bind fun aoH=>
        (A.add aoH aH).bind fun aoI=>
        (A.aL a1).bind fun SU=>
        (A.aA 1 SU).bind fun aoJ=>
        ((A.cell aoI).bind fun v=>some [v]).bind fun DD=>
        (A.storeAt aoJ DD sS).bind fun Ak=>
        (A.geq (AV.int .i64 (-1)) ah).bind fun x168=>
        (A.cond x168 (
         (A.aA 0 x1).bind fun aoK=>
         ((A.deref aoK Ak).bind fun am1=>A.aj 0 am1).bind fun SV=>
         (sH [a0,a1,dY.1,(AV.int .i64 (-1)),SV] Ak).bind fun aoq=>
         some (([]:List AV),aoq.2)) (
         some (([]:List AV),Ak))).bind fun aop=>
        some (ah,aop.2))) (
       (A.eql .i dP (AV.int .i64 5)).bind fun SX=>
       A.cond SX (
        (A.aL eD).bind fun aoN=>
        (A.aA 0 aoN).bind fun SY=>
        (A.aA 2 SY).bind fun aoO=>
        ((A.deref aoO dY.2).bind fun RU=>A.aj 0 RU).bind fun aoP=>
        (A.not aoP).bind fun aoQ=>
        A.cond aoQ (
         some ((AV.int .i64 10),dY.2)) (
         (A.aL eD).bind fun aoR=>
         (A.aA 0 aoR).bind fun aoS=>
         (A.aA 0 aoS).bind fun SZ=>
         ((A.deref SZ dY.2).bind fun RV=>A.aj 0 RV).bind fun aoT=>
         (A.aA 0 x1).bind fun aoU=>
         ((A.deref aoU dY.2).bind fun am9=>A.aj 0 am9).bind fun aoW=>
         ((((A.cell aoT).bind fun v=>some [v]).bind fun anb=>(A.splice 0 anb [ah,ah,aM]).bind fun ane=>((A.cell aoW).bind fun v=>some [v]).bind fun anf=>(A.splice 1 anf ane).bind fun DE=>((A.cell aM).bind fun v=>some [v]).bind fun DF=>(A.splice 2 DF DE).bind fun DG=>some DG).bind fun cs=>some (AV.agg cs)).bind fun aoY=>
         (A.aL eD).bind fun aoZ=>
         (A.aA 0 aoZ).bind fun ao0=>
         (A.cells 3 aoY).bind fun ang=>
         (A.storeAt ao0 ang dY.2).bind fun aaR=>
         (A.aL a1).bind fun S2=>
         (A.aA 1 S2).bind fun ao3=>
         ((A.deref ao3 aaR).bind fun RW=>A.aj 0 RW).bind fun S3=>
         (A.add S3 aH).bind fun S4=>
         (A.aL a1).bind fun ao4=>
         (A.aA 1 ao4).bind fun ao5=>
         ((A.cell S4).bind fun v=>some [v]).bind fun ank=>
         (A.storeAt ao5 ank aaR).bind fun RX=>
         (A.geq (AV.int .i64 (-1)) ah).bind fun ao8=>
         (A.cond ao8 (
          (A.aA 0 x1).bind fun S5=>
          ((A.deref S5 RX).bind fun ano=>A.aj 0 ano).bind fun apa=>
          (sH [a0,a1,dY.1,(AV.int .i64 (-1)),apa] RX).bind fun aos=>
          some (([]:List AV),aos.2)) (
          some (([]:List AV),RX))).bind fun aor=>
         some (ah,aor.2))) (
        (A.eql .i dP (AV.int .i64 6)).bind fun apb=>
        A.cond apb (
         (A.aL eD).bind fun apc=>
         (A.aA 6 apc).bind fun S6=>
         ((A.deref S6 dY.2).bind fun anr=>A.aj 0 anr).bind fun S7=>
         (A.lss S7 ah).bind fun S8=>
         A.cond S8 (
          some ((AV.int .i64 10),dY.2)) (
          (A.aL a1).bind fun S9=>
          (A.aA 1 S9).bind fun Ta=>
          ((A.deref Ta dY.2).bind fun ans=>A.aj 0 ans).bind fun ape=>
          (A.add ape aH).bind fun Tb=>
          (A.aL a1).bind fun Tc=>
          (A.aA 1 Tc).bind fun Td=>
          ((A.cell Tb).bind fun v=>some [v]).bind fun ant=>
          (A.storeAt Td ant dY.2).bind fun aaS=>
          ((A.deref x1 aaS).bind fun anu=>A.ay 0 5 anu).bind fun apg=>
          (GQ [a0,a1,eD,apg] aaS).bind fun aou=>
          some (ah,aou.2))) (
         (A.eql .i dP (AV.int .i64 7)).bind fun Te=>
         (A.cond Te (
          (A.aA 4 x1).bind fun Tf=>
          ((A.deref Tf dY.2).bind fun R1=>A.aj 0 R1).bind fun apj=>
          (A.aL eD).bind fun apk=>
          (A.aA 7 apk).bind fun apl=>
          ((A.cell apj).bind fun v=>some [v]).bind fun anx=>
          (A.storeAt apl anx dY.2).bind fun anz=>
          some (([]:List AV),anz)) (
          some (([]:List AV),dY.2))).bind fun abk=>
         (A.aL a1).bind fun apm=>
         (A.aA 1 apm).bind fun apn=>
         ((A.deref apn abk.2).bind fun anA=>A.aj 0 anA).bind fun apo=>
         (A.add apo aH).bind fun apq=>
         (A.aL a1).bind fun apr=>
         (A.aA 1 apr).bind fun aps=>
         ((A.cell apq).bind fun v=>some [v]).bind fun anB=>
         (A.storeAt aps anB abk.2).bind fun R3=>
         (A.geq (AV.int .i64 (-1)) ah).bind fun apt=>
         (A.cond apt (
          (A.aA 0 x1).bind fun apu=>
          ((A.deref apu R3).bind fun anC=>A.aj 0 anC).bind fun apv=>
          (sH [a0,a1,dY.1,(AV.int .i64 (-1)),apv] R3).bind fun aow=>
          some (([]:List AV),aow.2)) (
          some (([]:List AV),R3))).bind fun aov=>
         some (ah,aov.2)))))))))
noncomputable def GX:List AV→Heap→Option (AV×Heap):=A.wrap false [] .k (A.lp ET)
noncomputable def Ks (a0 a1:AV) (σ:Heap):Option (AV×Heap):=
 (A.cells 5 a1).bind fun c1=>
 (A.aL a0).bind fun x2=>
 (A.aA 11 x2).bind fun x3=>
 ((A.deref x3 σ).bind fun c4=>A.aj 0 c4).bind fun x5=>
 (A.bJ x5).bind fun x6=>
 (A.eql .i x6 (AV.int .i64 5000)).bind fun x7=>
 (A.quiet (rC [x7,(AV.int .i64 2)] σ) σ).bind fun x8=>
 (A.ay 0 5 c1).bind fun x9=>
 (A.quiet (Ke [x9] σ) σ).bind fun bG=>
 (A.aj 0 c1).bind fun bW=>
 (A.quiet (G6 [bW] σ) σ).bind fun ct=>
 (A.not ct).bind fun dG=>
 (A.quiet (rC [dG,aH] σ) σ).bind fun cE=>
 (A.aj 0 c1).bind fun dg=>
 (A.quiet (xW [a0] σ) σ).bind fun cG=>
 (A.lss dg cG).bind fun cB=>
 (A.quiet (rC [cB,(AV.int .i64 7)] σ) σ).bind fun bM=>
 ((((A.cell x8).bind fun v=>some [v]).bind fun gM=>(A.splice 0 gM [ah,ah,ah,ah]).bind fun gO=>((A.cell bG).bind fun v=>some [v]).bind fun kC=>(A.splice 1 kC gO).bind fun fZ=>((A.cell cE).bind fun v=>some [v]).bind fun eu=>(A.splice 2 eu fZ).bind fun gu=>((A.cell bM).bind fun v=>some [v]).bind fun gP=>(A.splice 3 gP gu).bind fun fM=>some fM).bind fun cs=>some (AV.sl 1 (chunks 1 4 cs))).bind fun dL=>
 (A.quiet (ya [dL] σ) σ).bind fun x28=>
 (A.aL a0).bind fun x29=>
 (A.aA 4 x29).bind fun cL=>
 ((A.deref cL σ).bind fun vD=>A.ay 0 5 vD).bind fun x32=>
 (A.ay 0 5 c1).bind fun eB=>
 (A.quiet (Kf [x32,eB] σ) σ).bind fun x34=>
 ((((A.cell x28).bind fun v=>some [v]).bind fun gZ=>(A.splice 0 gZ [ah,ah]).bind fun hG=>((A.cell x34).bind fun v=>some [v]).bind fun fI=>(A.splice 1 fI hG).bind fun lu=>some lu).bind fun cs=>some (AV.sl 1 (chunks 1 2 cs))).bind fun eY=>
 (A.quiet (ya [eY] σ) σ).bind fun dc=>
 (A.neq .i dc ah).bind fun dV=>
 A.cond dV (
  some (dc,σ)) (
  (A.aj 0 c1).bind fun gA=>
  (ER [a0,gA] σ).bind fun iP=>
  (A.cells 4 iP.1).bind fun Tk=>
  (A.storeAt (AV.op iP.2.length 0) Tk (iP.2++[aJ.box [AV.au,ah,ah,aM]])).bind fun D7=>
  (A.ay 0 5 c1).bind fun fC=>
  (GX [a0,(AV.op iP.2.length 0),fC] D7).bind fun nZ=>
  (A.neq .i nZ.1 ah).bind fun gq=>
  A.cond gq (
   some (nZ.1,nZ.2)) (
   ((A.deref (AV.op iP.2.length 0) nZ.2).bind fun AI=>A.ay 0 4 AI).bind fun lU=>
   (A.aL a0).bind fun gQ=>
   (A.aA 0 gQ).bind fun dP=>
   (A.cells 4 lU).bind fun nP=>
   (A.storeAt dP nP nZ.2).bind fun vE=>
   (A.aL a0).bind fun kL=>
   (A.aA 11 kL).bind fun gd=>
   ((A.deref gd vE).bind fun iX=>A.aj 0 iX).bind fun gC=>
   (A.ay 0 5 c1).bind fun eZ=>
   (((A.cells 5 eZ).bind fun AJ=>(A.splice 0 AJ [ah,ah,ah,ah,ah]).bind fun nQ=>some nQ).bind fun cs=>some (AV.sl 5 (chunks 5 1 cs))).bind fun fc=>
   (A.append 5 (140737488355328 / 40) gC fc vE).bind fun CA=>
   (A.aL a0).bind fun lV=>
   (A.aA 11 lV).bind fun jd=>
   ((A.cell CA.1).bind fun v=>some [v]).bind fun Tn=>
   (A.storeAt jd Tn CA.2).bind fun xx=>
   some (ah,xx)))
noncomputable def xY:List AV→Heap→Option (AV×Heap):=A.wrap false [] .k (A.cQ Ks)
noncomputable def Ky (a0 a1:AV) (σ:Heap):Option (AV×Heap):=
 (A.cells 5 a0).bind fun c1=>
 (A.ay 0 5 c1).bind fun x2=>
 (CV [x2] σ).bind fun r3=>
 (A.ext 0 r3.1).bind fun x4=>
 (A.ext 1 r3.1).bind fun x5=>
 (A.neq .i x5 ah).bind fun x6=>
 A.cond x6 (
  some ((AV.aG [AV.np,ah,x5]),r3.2)) (
  (A.bJ a1).bind fun x7=>
  (A.loop (fun v8 s9=>
    (A.lss (v8.getD 3 AV.undef) x7).bind fun bW=>
    A.cond bW (
     (A.aT 5 a1 (v8.getD 3 AV.undef)).bind fun ct=>
     ((A.deref ct s9).bind fun gH=>A.ay 0 5 gH).bind fun cE=>
     (A.cells 5 cE).bind fun jG=>
     (A.splice 0 jG [ah,ah,ah,ah,ah]).bind fun ku=>
     (A.ay 0 5 ku).bind fun cB=>
     (xY [x4,cB] s9).bind fun tu=>
     (A.neq .i tu.1 ah).bind fun cC=>
     A.cond cC (
      some (AX.ret,[AV.np,(v8.getD 3 AV.undef),tu.1,(v8.getD 3 AV.undef)],tu.2)) (
      (A.add (v8.getD 3 AV.undef) aH).bind fun cR=>
      some (AX.normal,[(v8.getD 0 AV.undef),(v8.getD 1 AV.undef),(v8.getD 2 AV.undef),cR],tu.2))) (
     some (AX.exit 0,[(v8.getD 0 AV.undef),(v8.getD 1 AV.undef),(v8.getD 2 AV.undef),(v8.getD 3 AV.undef)],s9))) [AV.np,ah,ah,ah] r3.2).bind fun uE=>
  bif uE.1==AX.exit 0 then(
   some ((AV.aG [x4,ah,ah]),uE.2.2))else
  bif uE.1==AX.ret then(
   some ((AV.aG [(uE.2.1.getD 0 AV.undef),(uE.2.1.getD 1 AV.undef),(uE.2.1.getD 2 AV.undef)]),uE.2.2))else
  none)
noncomputable def Kx:List AV→Heap→Option (AV×Heap):=A.wrap false [] .k (A.cQ Ky)
end
section
set_option maxRecDepth 100000
noncomputable def NI (a0 a1 a2:AV) (σ:Heap):Option (AV×Heap):=
 (A.cells 5 a0).bind fun c1=>
 (A.ay 0 5 c1).bind fun x2=>
 (CV [x2] σ).bind fun r3=>
 (A.ext 0 r3.1).bind fun x4=>
 (A.ext 1 r3.1).bind fun x5=>
 (A.neq .i x5 ah).bind fun x6=>
 (A.guard x6 false (some x4) an).bind fun x7=>
 (A.guard x6 false (A.eql .p x7 AV.np) an).bind fun x8=>
 (A.pick x6 cI x8).bind fun x9=>
 A.cond x9 (
  (A.neq .i x5 ah).bind fun bG=>
  (A.guard bG true (some x4) an).bind fun bW=>
  (A.guard bG true (A.eql .p bW AV.np) an).bind fun ct=>
  (A.pick bG ct aM).bind fun dG=>
  A.fin σ dG r3.2) (
  (A.bJ a1).bind fun cE=>
  (A.loop (fun bP gJ=>
    (A.lss (bP.getD 1 AV.undef) cE).bind fun bM=>
    A.cond bM (
     (A.aT 5 a1 (bP.getD 1 AV.undef)).bind fun cC=>
     ((A.deref cC gJ).bind fun gO=>A.ay 0 5 gO).bind fun bO=>
     (A.cells 5 bO).bind fun fZ=>
     (A.splice 0 fZ [ah,ah,ah,ah,ah]).bind fun eu=>
     (A.ay 0 5 eu).bind fun x24=>
     (xY [x4,x24] gJ).bind fun jA=>
     (A.add (bP.getD 1 AV.undef) aH).bind fun fA=>
     some (AX.normal,[(bP.getD 0 AV.undef),fA],jA.2)) (
     some (AX.exit 0,[(bP.getD 0 AV.undef),(bP.getD 1 AV.undef)],gJ))) [(AV.lbx c1),ah] r3.2).bind fun sy=>
  bif sy.1==AX.exit 0 then(
   ((A.lb (sy.2.1.getD 0 AV.undef)).bind fun mH=>A.ay 0 5 mH).bind fun x29=>
   (Ka [x4] sy.2.2).bind fun vM=>
   (Kx [x29,vM.1] vM.2).bind fun mM=>
   (A.ext 0 mM.1).bind fun x32=>
   (A.ext 1 mM.1).bind fun eB=>
   (A.ext 2 mM.1).bind fun x34=>
   (A.neq .i x34 ah).bind fun fJ=>
   (A.guard fJ false (some eB) an).bind fun gz=>
   (A.guard fJ false (A.neq .i gz ah) an).bind fun bQ=>
   (A.pick fJ cI bQ).bind fun x38=>
   (A.guard x38 false (some x32) an).bind fun eY=>
   (A.guard x38 false (A.eql .p eY AV.np) an).bind fun dc=>
   (A.pick x38 cI dc).bind fun dV=>
   A.cond dV (
    A.fin σ aM mM.2) (
    (GR [x4,a2] mM.2).bind fun T3=>
    (A.ext 0 T3.1).bind fun fB=>
    (A.ext 1 T3.1).bind fun eC=>
    (GR [x32,a2] T3.2).bind fun i7=>
    (A.ext 0 i7.1).bind fun fC=>
    (A.ext 1 i7.1).bind fun ij=>
    (A.eql .i eC ij).bind fun gq=>
    (A.guard gq true (some fB) an).bind fun eD=>
    (A.guard gq true (some fC) an).bind fun lU=>
    (A.guard gq true (A.quiet (GK [eD,lU] i7.2) i7.2) an).bind fun gQ=>
    (A.pick gq gQ aM).bind fun dP=>
    (A.guard dP true (some x4) an).bind fun gR=>
    (A.guard dP true (A.quiet (xW [gR] i7.2) i7.2) an).bind fun gB=>
    (A.guard dP true (some x32) an).bind fun kL=>
    (A.guard dP true (A.quiet (xW [kL] i7.2) i7.2) an).bind fun gd=>
    (A.guard dP true (A.eql .i gB gd) an).bind fun jK=>
    (A.pick dP jK aM).bind fun gC=>
    A.fin σ gC i7.2))else
  none)
noncomputable def Uj:List AV→Heap→Option (AV×Heap):=A.wrap true [yL,(.s 5)] .k (A.lp NI)
end
section
open Go.RowKit
theorem mU.same {P:Program} {nm:List Nat} {f:FuncId} {args:List AV} {σ:Heap} {r:AV} (hc:∀us w,(callFunc f us).run P w=.ok (.enter f us) w)
  (h:∀(c:RC) (vs:Array Value) (w:World),aI c args vs.toList→Calls P f vs w fun e w'=>∃v,e=.returned v∧Below w.heap.size w w'∧∀c',ak c' r v):mU P nm f args σ r σ:=by
 refine .inl ⟨f,hc,fun z vs e1 e2 hh ha=>(h _ vs z.w ha).mono ?_⟩
 rintro e w' ⟨v,k1,k2,k3⟩
 have ho:Out z z.w z.E:=⟨rfl,rfl,rfl,Nat.le_refl _,fun _ _ _=>rfl,fun i p hp=>.inr ⟨p,hp,rfl⟩,fun i p hp=>⟨p,hp,.inl rfl⟩,e2,fun p hp=>hh.lt hp⟩
 exact⟨v,z.E,k1,ho.grow k2,hh.mono (wj k2) rfl (fun p hp=>k2.block _ (hh.lt hp)),k3 _⟩
theorem MF {c:RC} {a:AV} {vs:Array Value} (h:aI c [a] vs.toList):∃v,vs=#[v]∧ak c a v:=by
 simp only[aI]at h
 obtain⟨v,vs',e,h1,e2⟩:=h
 refine⟨v,?_,h1⟩
 subst e2
 cases vs;simp at e;simp [e]
theorem Rx {c:RC} {a b:AV} {vs:Array Value} (h:aI c [a,b] vs.toList):∃v u,vs=#[v,u]∧ak c a v∧ak c b u:=by
 simp only[aI]at h
 obtain⟨v,vs',e,h1,u,vs2,e2,h2,e3⟩:=h
 refine⟨v,u,?_,h1,h2⟩
 subst e3;subst e2
 cases vs;simp at e;simp [e]
theorem UF:Sound Tryz.prog aF 61 Kl:=by
 intro args σ r σ' h
 unfold Kl A.cQ at h
 split at h
 ·simp only at h
  split at h
  ·simp only[Option.some.injEq,Prod.mk.injEq]at h
   obtain⟨rfl,rfl⟩:=h
   refine mU.same Tryz.call61 fun c vs w hr=>?_
   obtain⟨v,u,rfl,h1,h2⟩:=Rx hr
   simp only[ak]at h1 h2
   subst h1 h2
   refine(Tryz.strings_Compare _ _ w).mono ?_
   rintro e w' ⟨rfl,rfl⟩
   exact⟨_,rfl,Below.refl _ _,fun c'=>by simp [ak]⟩
  ·cases h
 ·cases h
end
section
open Go.RowKit
set_option maxRecDepth 100000
theorem yc {P:Program} {nm:List Nat} {f:FuncId} {m0:List AV→Heap→Option (AV×Heap)} (h0:Sound P nm f m0) (hc:∀us w,(callFunc f us).run P w=.ok (.enter f us) w)
  (hz:∀a cap w,Calls P f #[.slice a 0 cap] w fun e w'=>∃q,e=.returned (.slice q 0 0)∧Below w.heap.size w w'):Sound P nm f (A.qq m0):=by
 intro args σ r σ' h
 unfold A.qq at h
 split at h
 ·simp only[Option.some.injEq,Prod.mk.injEq]at h
  obtain⟨rfl,rfl⟩:=h
  refine mU.same hc fun c vs w hr=>?_
  obtain⟨v,rfl,h1⟩:=MF hr
  simp only[ak]at h1
  obtain⟨a,cap,rfl,_⟩:=h1
  refine(hz _ _ w).mono ?_
  rintro e w' ⟨q,rfl,hb⟩
  exact⟨_,rfl,hb,fun c'=>by simp [ak]⟩
 ·simp only[Option.some.injEq,Prod.mk.injEq]at h
  obtain⟨rfl,rfl⟩:=h
  refine mU.same hc fun c vs w hr=>?_
  obtain⟨v,rfl,h1⟩:=MF hr
  simp only[ak]at h1
  subst h1
  refine(hz _ _ w).mono ?_
  rintro e w' ⟨q,rfl,hb⟩
  exact⟨_,rfl,hb,fun c'=>by simp [ak]⟩
 ·simp only[Option.some.injEq,Prod.mk.injEq]at h
  obtain⟨rfl,rfl⟩:=h
  refine mU.same hc fun c vs w hr=>?_
  obtain⟨v,rfl,h1⟩:=MF hr
  simp only[ak]at h1
  obtain⟨a,rfl⟩:=h1
  refine(hz _ _ w).mono ?_
  rintro e w' ⟨q,rfl,hb⟩
  exact⟨_,rfl,hb,fun c'=>by simp [ak]⟩
 ·simp only[Option.some.injEq,Prod.mk.injEq]at h
  obtain⟨rfl,rfl⟩:=h
  refine mU.same hc fun c vs w hr=>?_
  obtain⟨v,rfl,h1⟩:=MF hr
  simp only[ak]at h1
  obtain⟨_,p,_,_,a,cap,rfl,_⟩:=h1
  refine(hz _ _ w).mono ?_
  rintro e w' ⟨q,rfl,hb⟩
  exact⟨_,rfl,hb,fun c'=>by simp [ak]⟩
 ·exact h0 _ _ _ _ h
theorem mR {P:Program} {t e:TypeId} (ht:P.underlying t=some (.slice e)) (a:Option Addr) (n m:Nat) (w:World):Sem.run P (binOp .eql t (.slice a n m) (.slice none 0 0)) w=.ok (.bool a.isNone) w:=by
 simp [binOp,show(Op.equal t (.slice a n m) (.slice none 0 0)).run P w=.ok a.isNone w from ZY w 9999 t a n m ht]
theorem ajI (a:Option Addr) (cap:Nat) (w:World):Calls Tryz.prog 97 #[.slice a 0 cap] w fun e w'=>∃q,e=.returned (.slice q 0 0)∧Below w.heap.size w w':=by
 go_enter Tryz.func97,Tryz.ntmps97
 cases a
 ·go_wp2_with (simp only[mR (Tryz.underlying133),Option.isNone_none,Result.andThen_ok])
  go_ret
  exact⟨_,rfl,Below.refl _ _⟩
 ·go_wp2_with (simp only[mR (Tryz.underlying133),Option.isNone_some,Result.andThen_ok])
  go_ret
  exact⟨_,rfl,(Below.refl _ _).alloc (Nat.le_refl _) _⟩
theorem aif (a:Option Addr) (cap:Nat) (w:World):Calls Tryz.prog 64 #[.slice a 0 cap] w fun e w'=>∃q,e=.returned (.slice q 0 0)∧Below w.heap.size w w':=by
 go_enter Tryz.func64,Tryz.ntmps64
 cases a
 ·go_wp2_with (simp only[mR (Tryz.underlying130),Option.isNone_none,Result.andThen_ok])
  go_ret
  exact⟨_,rfl,Below.refl _ _⟩
 ·go_wp2_with (simp only[mR (Tryz.underlying130),Option.isNone_some,Result.andThen_ok])
  go_ret
  exact⟨_,rfl,(Below.refl _ _).alloc (Nat.le_refl _) _⟩
theorem ald (a:Option Addr) (cap:Nat) (w:World):Calls Tryz.prog 96 #[.slice a 0 cap] w fun e w'=>∃q,e=.returned (.slice q 0 0)∧Below w.heap.size w w':=by
 go_enter Tryz.func96,Tryz.ntmps96
 cases a
 ·go_wp2_with (simp only[mR (Tryz.underlying68),Option.isNone_none,Result.andThen_ok])
  go_ret
  exact⟨_,rfl,Below.refl _ _⟩
 ·go_wp2_with (simp only[mR (Tryz.underlying68),Option.isNone_some,Result.andThen_ok])
  go_ret
  exact⟨_,rfl,(Below.refl _ _).alloc (Nat.le_refl _) _⟩
theorem aih (a:Option Addr) (cap:Nat) (w:World):Calls Tryz.prog 94 #[.slice a 0 cap] w fun e w'=>∃q,e=.returned (.slice q 0 0)∧Below w.heap.size w w':=by
 go_enter Tryz.func94,Tryz.ntmps94
 cases a
 ·go_wp2_with (simp only[mR (Tryz.underlying48),Option.isNone_none,Result.andThen_ok])
  go_ret
  exact⟨_,rfl,Below.refl _ _⟩
 ·go_wp2_with (simp only[mR (Tryz.underlying48),Option.isNone_some,Result.andThen_ok])
  go_ret
  exact⟨_,rfl,(Below.refl _ _).alloc (Nat.le_refl _) _⟩
theorem aie (a:Option Addr) (cap:Nat) (w:World):Calls Tryz.prog 93 #[.slice a 0 cap] w fun e w'=>∃q,e=.returned (.slice q 0 0)∧Below w.heap.size w w':=by
 go_enter Tryz.func93,Tryz.ntmps93
 cases a
 ·go_wp2_with (simp only[mR (Tryz.underlying99),Option.isNone_none,Result.andThen_ok])
  go_ret
  exact⟨_,rfl,Below.refl _ _⟩
 ·go_wp2_with (simp only[mR (Tryz.underlying99),Option.isNone_some,Result.andThen_ok])
  go_ret
  exact⟨_,rfl,(Below.refl _ _).alloc (Nat.le_refl _) _⟩
theorem aeR (a:Option Addr) (cap:Nat) (w:World):Calls Tryz.prog 91 #[.slice a 0 cap] w fun e w'=>∃q,e=.returned (.slice q 0 0)∧Below w.heap.size w w':=by
 go_enter Tryz.func91,Tryz.ntmps91
 cases a
 ·go_wp2_with (simp only[mR (Tryz.underlying28),Option.isNone_none,Result.andThen_ok])
  go_ret
  exact⟨_,rfl,Below.refl _ _⟩
 ·go_wp2_with (simp only[mR (Tryz.underlying28),Option.isNone_some,Result.andThen_ok])
  go_ret
  exact⟨_,rfl,(Below.refl _ _).alloc (Nat.le_refl _) _⟩
theorem ajJ (a:Option Addr) (cap:Nat) (w:World):Calls Tryz.prog 92 #[.slice a 0 cap] w fun e w'=>∃q,e=.returned (.slice q 0 0)∧Below w.heap.size w w':=by
 go_enter Tryz.func92,Tryz.ntmps92
 cases a
 ·go_wp2_with (simp only[mR (Tryz.underlying23),Option.isNone_none,Result.andThen_ok])
  go_ret
  exact⟨_,rfl,Below.refl _ _⟩
 ·go_wp2_with (simp only[mR (Tryz.underlying23),Option.isNone_some,Result.andThen_ok])
  go_ret
  exact⟨_,rfl,(Below.refl _ _).alloc (Nat.le_refl _) _⟩
theorem afO (a:Option Addr) (cap:Nat) (w:World):Calls Tryz.prog 95 #[.slice a 0 cap] w fun e w'=>∃q,e=.returned (.slice q 0 0)∧Below w.heap.size w w':=by
 go_enter Tryz.func95,Tryz.ntmps95
 cases a
 ·go_wp2_with (simp only[mR (Tryz.underlying40),Option.isNone_none,Result.andThen_ok])
  go_ret
  exact⟨_,rfl,Below.refl _ _⟩
 ·go_wp2_with (simp only[mR (Tryz.underlying40),Option.isNone_some,Result.andThen_ok])
  go_ret
  exact⟨_,rfl,(Below.refl _ _).alloc (Nat.le_refl _) _⟩
theorem ag6 (a:Option Addr) (cap:Nat) (w:World):Calls Tryz.prog 49 #[.slice a 0 cap] w fun e w'=>∃q,e=.returned (.slice q 0 0)∧Below w.heap.size w w':=by
 go_enter Tryz.func49,Tryz.ntmps49
 cases a
 ·go_wp2_with (simp only[mR (Tryz.underlying31),Option.isNone_none,Result.andThen_ok])
  go_ret
  exact⟨_,rfl,Below.refl _ _⟩
 ·go_wp2_with (simp only[mR (Tryz.underlying31),Option.isNone_some,Result.andThen_ok])
  go_ret
  exact⟨_,rfl,(Below.refl _ _).alloc (Nat.le_refl _) _⟩
theorem aii (a:Option Addr) (cap:Nat) (w:World):Calls Tryz.prog 104 #[.slice a 0 cap] w fun e w'=>∃q,e=.returned (.slice q 0 0)∧Below w.heap.size w w':=by
 go_enter Tryz.func104,Tryz.ntmps104
 cases a
 ·go_wp2_with (simp only[mR (Tryz.underlying90),Option.isNone_none,Result.andThen_ok])
  go_ret
  exact⟨_,rfl,Below.refl _ _⟩
 ·go_wp2_with (simp only[mR (Tryz.underlying90),Option.isNone_some,Result.andThen_ok])
  go_ret
  exact⟨_,rfl,(Below.refl _ _).alloc (Nat.le_refl _) _⟩
end
section
open Go.RowKit
theorem amA {c:RC} {a b d:AV} {vs:Array Value} (h:aI c [a,b,d] vs.toList):∃v u t,vs=#[v,u,t]∧ak c a v∧ak c b u∧ak c d t:=by
 simp only[aI]at h
 obtain⟨v,vs',e,h1,u,vs2,e2,h2,t,vs3,e3,h3,e4⟩:=h
 refine⟨v,u,t,?_,h1,h2,h3⟩
 subst e4;subst e3;subst e2
 cases vs;simp at e;simp [e]
theorem aeG:Sound Tryz.prog aF 282 G8:=by
 intro args σ r σ' h
 unfold G8 A.cQ at h
 split at h
 ·simp only at h
  split at h
  ·rename_i x y
   split at h
   ·rename_i hb
    simp only[Option.some.injEq,Prod.mk.injEq]at h
    obtain⟨rfl,rfl⟩:=h
    refine mU.same Tryz.call282 fun c vs w hr=>?_
    obtain⟨v,u,rfl,h1,h2⟩:=Rx hr
    simp only[ak]at h1 h2
    subst h1 h2
    have hx:((x.toNat:Nat):Int)=x:=Int.toNat_of_nonneg hb.1
    have hy:((y.toNat:Nat):Int)=y:=Int.toNat_of_nonneg hb.2.2.1
    have:=Tryz.bits_Mul64 x.toNat y.toNat (by omega) (by omega) w
    rw[hx,hy]at this
    refine this.mono ?_
    rintro e w' ⟨rfl,rfl⟩
    exact⟨_,rfl,Below.refl _ _,fun c'=>by simp [ak,aI]⟩
   ·cases h
  ·cases h
 ·cases h
theorem agT (x y c:Nat) (hc:c≤1) (w:World):(callFunc 283 #[.int .u64 x,.int .u64 y,.int .u64 c]).run Tryz.prog w=
  .ok (.value (.tuple #[.int .u64 (((x+y+c) % 18446744073709551616:Nat):Int),.int .u64 (((x+y+c) / 18446744073709551616:Nat):Int)])) w:=by
 rw[run_callFunc_extern Tryz.func283 (by kernel_rfl) (by kernel_rfl) (by kernel_rfl) (e:=add64Entry) (by kernel_rfl),run_add64 x y c (by omega) (by omega) (by omega) (by omega)]
 simp only[Result.andThen]
 congr 5<;>omega
theorem aeF:Sound Tryz.prog aF 283 E0:=by
 intro args σ r σ' h
 unfold E0 A.lp at h
 split at h
 ·simp only at h
  split at h
  ·rename_i x y d
   split at h
   ·rename_i hb
    simp only[Option.some.injEq,Prod.mk.injEq]at h
    obtain⟨rfl,rfl⟩:=h
    refine .inr fun z vs e1 e2 hh ha=>?_
    obtain⟨v,u,t,rfl,h1,h2,h3⟩:=amA ha
    simp only[ak]at h1 h2 h3
    subst h1 h2 h3
    have hx:((x.toNat:Nat):Int)=x:=Int.toNat_of_nonneg hb.1
    have hy:((y.toNat:Nat):Int)=y:=Int.toNat_of_nonneg hb.2.2.1
    have hd:((d.toNat:Nat):Int)=d:=Int.toNat_of_nonneg hb.2.2.2.2.1
    have:=agT x.toNat y.toNat d.toNat (by omega) z.w
    rw[hx,hy,hd]at this
    exact⟨_,z.w,z.E,this,⟨rfl,rfl,rfl,Nat.le_refl _,fun _ _ _=>rfl,fun i p hp=>.inr ⟨p,hp,rfl⟩,fun i p hp=>⟨p,hp,.inl rfl⟩,e2,fun p hp=>hh.lt hp⟩,hh,by simp [ak,aI]⟩
   ·cases h
  ·cases h
 ·cases h
end
section
theorem bq (s t:ByteArray):(s==t)=decide (s=t):=by
 obtain⟨a⟩:=s
 obtain⟨b⟩:=t
 show(a==b)=_
 rw[Bool.eq_iff_iff]
 simp
section
variable {α β : Type}
theorem cT (t e:Option α):A.cond (.bool true) t e=t:=rfl
theorem cF (t e:Option α):A.cond (.bool false) t e=e:=rfl
theorem gTT (e d:Option α):A.guard (.bool true) true e d=e:=rfl
theorem gTF (e d:Option α):A.guard (.bool true) false e d=d:=rfl
theorem gFT (e d:Option α):A.guard (.bool false) true e d=d:=rfl
theorem gFF (e d:Option α):A.guard (.bool false) false e d=e:=rfl
theorem pT (x y:AV):A.pick (.bool true) x y=some x:=rfl
theorem pF (x y:AV):A.pick (.bool false) x y=some y:=rfl
theorem AU {p:Prop} [Decidable p] {w:Bool} {e d:Option α} {f:α→Option β}:(A.guard (.bool (decide p)) w e d).bind f=if p then(A.guard (.bool true) w e d).bind f else(A.guard (.bool false) w e d).bind f:=by by_cases h:p<;>simp [h]
theorem AT {b w:Bool} {e d:Option α} {f:α→Option β}:(A.guard (.bool b) w e d).bind f=match b with|true=>(A.guard (.bool true) w e d).bind f|false=>(A.guard (.bool false) w e d).bind f:=by cases b<;>rfl
theorem AP {p:Prop} [Decidable p] {t e:Option α}:A.cond (.bool (decide p)) t e=if p then t else e:=by by_cases h:p<;>simp [h,A.cond]
theorem Al {p:Prop} [Decidable p] {t e:Option α}:A.cond (.bool (!decide p)) t e=if p then e else t:=by by_cases h:p<;>simp [h,A.cond]
theorem AO {b:Bool} {t e:Option α}:A.cond (.bool (!b)) t e=match b with|true=>e|false=>t:=by cases b<;>rfl
theorem AN {b:Bool} {t e:Option α}:A.cond (.bool b) t e=match b with|true=>t|false=>e:=by cases b<;>rfl
theorem gN (w:Bool) (e d:Option α):A.guard (.aG []) w e d=d:=rfl
theorem xN (a b:AX):(a==b)=decide (a=b):=by rw[Bool.eq_iff_iff];simp
end
section
variable (k : IntKind) (a b : Int) (p q : Prop) [Decidable p] [Decidable q] (s t : ByteArray) (x y : AV) (σ : Heap) (cs : List AV)
theorem kV:A.add (.int .i64 a) (.int .i64 b)=some (.int .i64 (IntKind.i64.wrap (a+b))):=rfl
theorem oW:A.sub (.int .i64 a) (.int .i64 b)=some (.int .i64 (IntKind.i64.wrap (a-b))):=rfl
theorem wF:A.mul (.int .i64 a) (.int .i64 b)=some (.int .i64 (IntKind.i64.wrap (a*b))):=rfl
theorem aaQ (h:b≠0):A.quo (.int .i64 a) (.int .i64 b)=some (.int .i64 (IntKind.i64.wrap (a.tdiv b))):=by simp [A.quo,h]
theorem amJ (h:b≠0):A.rem (.int .i64 a) (.int .i64 b)=some (.int .i64 (a.tmod b)):=by simp [A.rem,h]
theorem kN:A.lss (.int .i64 a) (.int .i64 b)=some (.bool (decide (a<b))):=rfl
theorem MM:A.leq (.int .i64 a) (.int .i64 b)=some (.bool (decide (a≤b))):=rfl
theorem F0:A.gtr (.int .i64 a) (.int .i64 b)=some (.bool (decide (b<a))):=rfl
theorem rQ:A.geq (.int .i64 a) (.int .i64 b)=some (.bool (decide (b≤a))):=rfl
theorem aaj:A.lss (.int .u8 a) (.int .u8 b)=some (.bool (decide (a<b))):=rfl
theorem aai:A.leq (.int .u8 a) (.int .u8 b)=some (.bool (decide (a≤b))):=rfl
theorem aag:A.gtr (.int .u8 a) (.int .u8 b)=some (.bool (decide (b<a))):=rfl
theorem aaf:A.geq (.int .u8 a) (.int .u8 b)=some (.bool (decide (b≤a))):=rfl
theorem iN:A.eql .i (.int k a) (.int k b)=some (.bool (decide (a=b))):=by
 simp only[A.eql,A.ef,A.mJ,if_true,Option.map_some];congr 2
theorem fW:A.neq .i (.int k a) (.int k b)=some (.bool (decide (¬a=b))):=by
 simp only[A.neq,A.ef,A.mJ,if_true,Option.map_some]
 congr 2
 rw[Bool.eq_iff_iff];simp
theorem aaN:A.eql .z (.str s) (.str t)=some (.bool (decide (s=t))):=by
 simp only[A.eql,A.ef,A.oD,Option.map_some,bq]
theorem RL:A.neq .z (.str s) (.str t)=some (.bool (decide (¬s=t))):=by
 simp only[A.neq,A.ef,A.oD,Option.map_some,bq];simp
theorem aaP (b:Bool):A.not (.bool b)=some (.bool (!b)):=rfl
theorem aak:A.not (.bool (decide p))=some (.bool (decide (¬p))):=by simp [A.not]
theorem aLb:A.lb (.lbx cs)=some cs:=rfl
theorem aab (l:List AV):A.ext 0 (.aG (x::l))=some x:=rfl
theorem aac (x0 x:AV) (l:List AV):A.ext 1 (.aG (x0::x::l))=some x:=rfl
theorem aad (x0 x1 x:AV) (l:List AV):A.ext 2 (.aG (x0::x1::x::l))=some x:=rfl
theorem aae (x0 x1 x2 x:AV) (l:List AV):A.ext 3 (.aG (x0::x1::x2::x::l))=some x:=rfl
theorem aDe:A.deref (.rp cs) σ=some cs:=rfl
theorem aFa (o:Nat):A.aA o (.rp cs)=some (.rp (cs.drop o)):=rfl
theorem aah:A.Cn (.str s)=some (.int .i64 s.size):=rfl
theorem aCI (n:Int):A.cell (.int k n)=some (.int k n):=rfl
theorem aCB (b:Bool):A.cell (.bool b)=some (.bool b):=rfl
theorem aCS:A.cell (.str s)=some (.str s):=rfl
theorem aaM (sz:Nat) (es:List (List AV)):A.cell (.sl sz es)=some (.sl sz es):=rfl
theorem TX (o k:Nat):A.aj o (cs.drop k)=A.aj (k+o) cs:=by simp [A.aj,List.getElem?_drop]
end
theorem gd0 (a d:AV) (l:List AV):(a::l).getD 0 d=a:=rfl
theorem gd1 (a b d:AV) (l:List AV):(b::a::l).getD 1 d=a:=rfl
theorem gd2 (a b c d:AV) (l:List AV):(b::c::a::l).getD 2 d=a:=rfl
theorem gd3 (a b c e d:AV) (l:List AV):(b::c::e::a::l).getD 3 d=a:=rfl
theorem gd4 (a b c e f d:AV) (l:List AV):(b::c::e::f::a::l).getD 4 d=a:=rfl
theorem gd5 (a b c e f g d:AV) (l:List AV):(b::c::e::f::g::a::l).getD 5 d=a:=rfl
theorem gd6 (a b c e f g h d:AV) (l:List AV):(b::c::e::f::g::h::a::l).getD 6 d=a:=rfl
theorem gd7 (a b c e f g h i d:AV) (l:List AV):(b::c::e::f::g::h::i::a::l).getD 7 d=a:=rfl
theorem gd8 (a b c e f g h i j d:AV) (l:List AV):(b::c::e::f::g::h::i::j::a::l).getD 8 d=a:=rfl
theorem wrap64 {n:Int} (h:aP n):IntKind.i64.wrap n=n:=IntWalk.i64_in n h
theorem wrap_eq {ro:Bool} {eT:List Sh} {fH:Sh} {r:List AV→Heap→Option (AV×Heap)} {args:List AV} {σ σ':Heap} {v v':AV} (h:args.any A.own=false) (e:r (A.bV eT args) σ=some (v,σ')) (hv:A.nn fH v=v'):A.wrap ro eT fH r args σ=some (v',σ'):=by
 unfold A.wrap
 rw[h,Bool.and_false,cond_false,e]
 simp [hv]
theorem Pj {v:AV} (n:Nat) (h:A.tM v=true):A.fresh v=true∧A.shift n v=v:=by
 cases v<;>first|exact⟨h,rfl⟩|cases h
theorem Wk {v:AV} (n:Nat) (h:A.DR v=true):A.zD v=true∧A.yE n v=v:=by
 have key:(∀vs,v≠.aG vs)→A.zD v=true∧A.yE n v=v:=by
  intro k
  have:=Pj (v:=v) n
  cases v<;>first|exact absurd rfl (k _)|exact this h
 by_cases ht:∃vs,v=.aG vs
 ·obtain⟨vs,rfl⟩:=ht
  simp only[A.DR,List.all_eq_true]at h
  refine⟨by simp only[A.zD,List.all_eq_true];exact fun x hx=>(Pj n (h x hx)).1,?_⟩
  simp only[A.yE]
  congr 1
  calc vs.map (A.shift n)=vs.map id:=List.map_congr_left fun x hx=>(Pj n (h x hx)).2
   _=vs:=List.map_id vs
 ·exact key fun vs e=>ht ⟨vs,e⟩
theorem Yq {eT:List Sh} {fH:Sh} {r:List AV→Heap→Option (AV×Heap)} {args args':List AV} {σ:Heap} {v:AV} (h:args.any A.own=true) (hz:A.eO σ 0 8 args=some args') (ho:args'.any A.own=false) (e:A.wrap true eT fH r args' []=some (v,[])) (hs:A.DR v=true):A.wrap true eT fH r args σ=some (v,σ):=by
 unfold A.wrap at e ⊢
 rw[ho,Bool.and_false,cond_false]at e
 obtain⟨⟨q1,q2⟩,e1,e2⟩:=Option.map_eq_some_iff.1 e
 simp only[Prod.mk.injEq]at e2
 obtain⟨rfl,rfl⟩:=e2
 rw[h,Bool.and_self,cond_true,hz]
 simp [e1,(Wk σ.length hs).1,(Wk σ.length hs).2]
theorem bC (σ:Heap) (r:AV):A.fin σ r σ=some (r,σ):=by simp [A.fin]
theorem WN (σ:Heap) (n d:Nat) {a:AV} (h:A.vi a=true):A.bw σ n d a=some a:=by
 cases a<;>simp only[A.vi]at h<;>first|(cases h;done)|skip
 case sl sz es=>cases es with
  |nil=>cases d<;>simp [A.bw,A.jh]
  |cons _ _=>simp at h
 all_goals cases d<;>simp [A.bw]
theorem VT (σ:Heap) (n d:Nat):∀{l:List AV},l.all A.vi=true→A.eO σ n d l=some l
 |[],_=>by simp [A.eO]
 |a::l,h=>by
  simp only[List.all_cons,Bool.and_eq_true]at h
  simp [A.eO,WN σ n d h.1,VT σ n d h.2]
theorem WO (σ:Heap) (n d:Nat) {a:AV} (h:A.tM a=true):A.bw σ n d a=some a:=by
 unfold A.tM at h
 split at h
 ·cases d<;>simp [A.bw,VT σ n _ h]
 ·exact WN σ n d h
theorem VU (σ:Heap) (n d:Nat):∀{l:List AV},l.all A.tM=true→A.eO σ n d l=some l
 |[],_=>by simp [A.eO]
 |a::l,h=>by
  simp only[List.all_cons,Bool.and_eq_true]at h
  simp [A.eO,WO σ n d h.1,VU σ n d h.2]
theorem aiz (σ:Heap) (n d:Nat) {a:AV} (h:A.DR a=true):A.bw σ n d a=some a:=by
 unfold A.DR at h
 split at h
 ·cases d<;>simp [A.bw,VU σ n _ h]
 ·exact WO σ n d h
theorem LD (σ bs:Heap) {r:AV} (h:A.DR r=true):A.fin σ r (σ++bs)=some (r,σ):=by
 unfold A.fin
 split
 ·rfl
 ·rw[if_pos (by simp),aiz _ _ _ h];rfl
theorem QD (σ bs:Heap) (k:IntKind) (n:Int):A.fin σ (.int k n) (σ++bs)=some (.int k n,σ):=LD σ bs rfl
theorem XL (σ bs:Heap) (b:Bool):A.fin σ (.bool b) (σ++bs)=some (.bool b,σ):=LD σ bs rfl
theorem YD (σ bs:Heap) (s:ByteArray):A.fin σ (.str s) (σ++bs)=some (.str s,σ):=LD σ bs rfl
theorem XM (σ bs:Heap):A.fin σ (.aG []) (σ++bs)=some (.aG [],σ):=LD σ bs rfl
theorem Nb (σ bs:Heap) (j:Nat):(σ++bs)[σ.length+j]? =bs[j]? :=by rw[List.getElem?_append_right (by omega)];congr 1;omega
theorem F4 (σ bs:Heap):(σ++bs)[σ.length]? =bs[0]? :=by rw[List.getElem?_append_right (Nat.le_refl _),Nat.sub_self]
theorem tV (σ bs:Heap) (j:Nat) (b:aJ):(σ++bs).set (σ.length+j) b=σ++bs.set j b:=by rw[List.set_append_right _ _ (by omega)];congr 2;omega
theorem Rr (σ bs:Heap) (b:aJ):(σ++bs).set σ.length b=σ++bs.set 0 b:=by rw[List.set_append_right _ _ (Nat.le_refl _),Nat.sub_self]
section
variable {α : Type} (sz : Nat) (c : α → List AV) (l : List α)
theorem fL:A.bJ (sl sz c l)=some (.int .i64 l.length):=by simp [sl,A.bJ]
theorem lM {k:Nat} {x:α} (h:l[k]? =some x):A.aT sz (sl sz c l) (.int .i64 (k:Int))=some (.rp (c x)):=by
 have hk:k<l.length:=(List.getElem?_eq_some_iff.1 h).1
 have hx:l[k]=x:=(List.getElem?_eq_some_iff.1 h).2
 simp [A.aT,sl,A.idx,hk,hx]
theorem ahj {i:Int} {x:α} (h0:0≤i) (h:l[i.toNat]? =some x):A.aT sz (sl sz c l) (.int .i64 i)=some (.rp (c x)):=by
 have:=lM sz c l h
 rwa[Int.toNat_of_nonneg h0]at this
end
inductive Rd (S R : Type) where
 |go (s:S)
 |out (r:R)
def Rd.el {S R γ:Type} (x:Rd S R) (f:S→γ) (g:R→γ):γ:=match x with|.go s=>f s|.out r=>g r
theorem BP {S R γ:Type} (s:S) (f:S→γ) (g:R→γ):(Rd.go s:Rd S R).el f g=f s:=rfl
theorem BF {S R γ:Type} (r:R) (f:S→γ) (g:R→γ):(Rd.out r:Rd S R).el f g=g r:=rfl
theorem FK {S R γ:Type} {p:Prop} [Decidable p] (x y:Rd S R) (f:S→γ) (g:R→γ):(if p then x else y).el f g=if p then x.el f g else y.el f g:=by split<;>rfl
def kr {α S R:Type} (body:List α→α→S→Rd S R):List α→List α→S→Rd S R
 |_,[],s=>.go s
 |pre,x::l,s=>match body pre x s with|.go s'=>kr body (pre++[x]) l s'|.out r=>.out r
theorem ahm {f:List AV→Heap→Option (AX×List AV×Heap)} {v:List AV} {σ:Heap}:∀{n m:Nat} {r r':AX×List AV×Heap},A.iter f n v σ=some r→A.iter f m v σ=some r'→r=r':=by
 intro n
 induction n generalizing v σ with
 |zero=>intro m r r' h;cases h
 |succ n ih=>
  intro m r r' h1 h2
  cases m with
  |zero=>cases h2
  |succ m=>
   simp only[A.iter]at h1 h2
   cases hf:f v σ with
   |none=>rw[hf]at h1;cases h1
   |some q=>
    rw[hf]at h1 h2
    simp only[Option.bind_some]at h1 h2
    obtain⟨e,v',σ'⟩:=q
    cases e with
    |normal=>exact ih h1 h2
    |exit i=>simp only at h1 h2;rw[h1]at h2;injection h2
    |ret=>simp only at h1 h2;rw[h1]at h2;injection h2
theorem CT {f:List AV→Heap→Option (AX×List AV×Heap)} {v:List AV} {σ:Heap} {n:Nat} {r:AX×List AV×Heap} (h:A.iter f n v σ=some r):A.loop f v σ=some r:=by
 have hex:∃n r,A.iter f n v σ=some r:=⟨n,r,h⟩
 unfold A.loop
 rw[dif_pos hex]
 exact congrArg some (ahm (Classical.choose_spec (Classical.choose_spec hex)) h)
theorem CZ {f:List AV→Heap→Option (AX×List AV×Heap)} {v v':List AV} {σ σ':Heap} {r:AX×List AV×Heap} (h:f v σ=some (.normal,v',σ')) (k:∃n,A.iter f n v' σ'=some r):∃n,A.iter f n v σ=some r:=by
 obtain⟨n,k⟩:=k
 exact⟨n+1,by simp [A.iter,h,k]⟩
theorem uO {f:List AV→Heap→Option (AX×List AV×Heap)} {v:List AV} {σ:Heap} {r:AX×List AV×Heap} (h:f v σ=some r) (hr:r.1≠.normal):∃n,A.iter f n v σ=some r:=by
 obtain⟨e,v',σ'⟩:=r
 refine⟨1,?_⟩
 cases e<;>first|(simp [A.iter,h];done)|exact absurd rfl hr
theorem oI {α S R γ:Type} {f:List AV→Heap→Option (AX×List AV×Heap)} (l:List α) (body:List α→α→S→Rd S R) (st:List α→S→List AV) (hp:List α→S→Heap)
  (fin:S→AX×List AV×Heap) (out:List α→S→R→AX×List AV×Heap) (P:List α→S→Prop) (s0:S) {k:AX×List AV×Heap→Option γ} (K1:S→Option γ) (K2:R→Option γ)
  (hstep:∀pre x rest s,l=pre++x::rest→P pre s→f (st pre s) (hp pre s)=some ((body pre x s).el (fun s'=>(.normal,st (pre++[x]) s',hp (pre++[x]) s')) (fun r=>out pre s r)))
  (hend:∀s,P l s→f (st l s) (hp l s)=some (fin s)) (h0:P [] s0)
  (hP:∀pre x rest s s',l=pre++x::rest→P pre s→body pre x s=.go s'→P (pre++[x]) s')
  (hk1:∀s,P l s→k (fin s)=K1 s) (hk2:∀pre x rest s r,l=pre++x::rest→P pre s→body pre x s=.out r→k (out pre s r)=K2 r)
  (Ap:∀s,(fin s).1≠.normal:=by intros;simp) (hout:∀pre s r,(out pre s r).1≠.normal:=by intros;simp) {v:List AV} {σ:Heap} (hv:v=st [] s0:=by rfl) (fS:σ=hp [] s0:=by rfl):
  (A.loop f v σ).bind k=(kr body [] l s0).el K1 K2:=by
 have key:∀(rest pre:List α) (s:S),l=pre++rest→P pre s→∃q,(∃n,A.iter f n (st pre s) (hp pre s)=some q)∧k q=(kr body pre rest s).el K1 K2:=by
  intro rest
  induction rest with
  |nil=>
   intro pre s hl hp'
   rw[List.append_nil]at hl
   subst hl
   exact⟨fin s,uO (hend s hp') (Ap s),by rw[kr,BP,hk1 s hp']⟩
  |cons x rest ih=>
   intro pre s hl hp'
   have h:=hstep pre x rest s hl hp'
   rw[kr]
   cases hb:body pre x s with
   |go s'=>
    rw[hb]at h
    obtain⟨q,h1,h2⟩:=ih (pre++[x]) s' (by simpa using hl) (hP pre x rest s s' hl hp' hb)
    exact⟨q,CZ h h1,h2⟩
   |out r=>
    rw[hb]at h
    exact⟨out pre s r,uO h (hout pre s r),by rw[BF,hk2 pre x rest s r hl hp' hb]⟩
 obtain⟨q,⟨n,h1⟩,h2⟩:=key l [] s0 rfl h0
 rw[hv,fS,CT h1,Option.bind_some,h2]
theorem KZ {α:Type} {body:List α→α→Unit→Rd Unit Int} {uu:List α→List α→Int} (h0:∀pre,uu pre []=0) (h:∀pre x rest,uu pre (x::rest)=(body pre x ()).el (fun _=>uu (pre++[x]) rest) (fun r=>r)) {γ:Type} (K:Int→γ):
  ∀(l pre:List α),(kr body pre l ()).el (fun _=>K 0) K=K (uu pre l)
 |[],pre=>by rw[kr,h0];rfl
 |x::l,pre=>by
  rw[kr,h]
  cases body pre x ()with
  |go s=>exact KZ h0 h K l (pre++[x])
  |out r=>rfl
theorem oL {α:Type} {l pre rest:List α} {x:α} (h:l=pre++x::rest):l[pre.length]? =some x:=by rw[h];simp
theorem rN {α:Type} {l pre rest:List α} {x:α} (h:l=pre++x::rest):pre.length<l.length:=by rw[h];simp
theorem X7 {α:Type} {l pre rest:List α} {x:α} (h:l=pre++x::rest) (h0:0<pre.length):∃y,pre.getLast? =some y∧l[pre.length-1]? =some y:=by
 cases hp:pre.getLast? with
 |none=>rw[List.getLast?_eq_none_iff]at hp;subst hp;simp at h0
 |some y=>
  refine⟨y,rfl,?_⟩
  rw[h,List.getElem?_append_left (by omega),←hp,List.getLast?_eq_getElem?]
theorem Xv {γ:Type} {p:UInt8→Bool} {f:List AV→Heap→Option (AX×List AV×Heap)} (s:ByteArray) {σ:Heap} {k:AX×List AV×Heap→Option γ} (K2:Option γ)
  (hstep:∀(i:Nat) (c:UInt8),i<s.size→A.tc (.str s) (.int .i64 (i:Int))=some (.int .u8 c.toNat)→f [.bool false,.int .i64 (i:Int)] σ=if p c=true then some (.normal,[.bool false,.int .i64 ((i:Int)+1)],σ)else some (.ret,[.bool false,.int .i64 (i:Int)],σ))
  (hend:f [.bool false,.int .i64 (s.size:Int)] σ=some (.exit 0,[.bool false,.int .i64 (s.size:Int)],σ)) (hk2:∀i:Int,k (.ret,[.bool false,.int .i64 i],σ)=K2):
  (A.loop f [.bool false,.int .i64 0] σ).bind k=if s.data.toList.all p=true then k (.exit 0,[.bool false,.int .i64 (s.size:Int)],σ)else K2:=by
 have hsz:s.data.toList.length=s.size:=rfl
 refine(oI (S:=Unit) (R:=Unit) s.data.toList (fun _ c _=>if p c=true then .go ()else .out ()) (fun pre _=>[.bool false,.int .i64 (pre.length:Int)]) (fun _ _=>σ) (fun _=>(.exit 0,[.bool false,.int .i64 (s.size:Int)],σ)) (fun pre _ _=>(.ret,[.bool false,.int .i64 (pre.length:Int)],σ)) (fun _ _=>True) ()
  (fun _=>k (.exit 0,[.bool false,.int .i64 (s.size:Int)],σ)) (fun _=>K2) ?_ ?_ trivial (fun _ _ _ _ _ _ _ _=>trivial) (fun _ _=>rfl) (fun _ _ _ _ _ _ _ _=>hk2 _)).trans ?_
 ·intro pre c rest u hl _
  have hlt:=rN hl
  have hc:=oL hl
  rw[hsz]at hlt
  have hsi:A.tc (.str s) (.int .i64 (pre.length:Int))=some (.int .u8 c.toNat):=by
   have h2:s[pre.length]=c:=(List.getElem?_eq_some_iff.1 hc).2
   simp [A.tc,A.idx,hlt,h2]
  rw[hstep pre.length c hlt hsi]
  cases p c<;>simp [Rd.el]
 ·intro u _;rw[hsz];exact hend
 ·have key:∀(l pre:List UInt8),(kr (fun(_:List UInt8) c (_:Unit)=>if p c=true then(Rd.go ():Rd Unit Unit)else .out ()) pre l ()).el (fun _=>k (.exit 0,[.bool false,.int .i64 (s.size:Int)],σ)) (fun _=>K2)=if l.all p=true then k (.exit 0,[.bool false,.int .i64 (s.size:Int)],σ)else K2:=by
   intro l
   induction l with
   |nil=>intro pre;simp [kr,Rd.el]
   |cons c l ih=>
    intro pre
    rw[kr]
    cases hc:p c
    ·simp [hc,Rd.el]
    ·simp only[if_true]
     rw[ih]
     simp [hc]
  exact key s.data.toList []
section
variable {α : Type} (g : α → ByteArray) (gi : α → Int) (v : α → AV)
theorem Zv (k:ByteArray):∀(l:List α),A.find .z (.str k) (l.map fun x=>(AV.str (g x),v x))=some ((l.find? fun x=>decide (k=g x)).map v)
 |[]=>rfl
 |x::l=>by
  simp only[List.map_cons,A.find,A.ef,A.oD,Option.bind_some,List.find?]
  by_cases h:k=g x
  ·rw[bq];simp [h]
  ·rw[bq];simp [h,Zv k l]
theorem Zu (kk:IntKind) (k:Int):∀(l:List α),A.find .i (.int kk k) (l.map fun x=>(AV.int kk (gi x),v x))=some ((l.find? fun x=>decide (k=gi x)).map v)
 |[]=>rfl
 |x::l=>by
  simp only[List.map_cons,A.find,A.ef,A.mJ,if_true,Option.bind_some,List.find?]
  by_cases h:k=gi x
  ·have:(k==gi x)=true:=by simpa using h
   simp [this,h]
  ·have:(k==gi x)=false:=by simpa using h
   simp [this,h,Zu kk k l]
theorem RD {k:ByteArray} {w:AV}:∀{l:List α},(∀x∈l,g x≠k)→A.upd .z (.str k) w (l.map fun x=>(AV.str (g x),v x))=some ((l.map fun x=>(AV.str (g x),v x))++[(.str k,w)])
 |[],_=>rfl
 |x::l,h=>by
  have h1:(k==g x)=false:=by rw[bq];exact decide_eq_false fun e:k=g x=>h x (by simp) e.symm
  simp only[List.map_cons,A.upd,A.ef,A.oD,Option.bind_some,h1,cond_false]
  rw[RD (fun y hy=>h y (by simp [hy]))]
  rfl
theorem RB {kk:IntKind} {k:Int} {w:AV}:∀{l:List α},(∀x∈l,gi x≠k)→A.upd .i (.int kk k) w (l.map fun x=>(AV.int kk (gi x),v x))=some ((l.map fun x=>(AV.int kk (gi x),v x))++[(.int kk k,w)])
 |[],_=>rfl
 |x::l,h=>by
  have h1:(k==gi x)=false:=by simpa using fun e:k=gi x=>h x (by simp) e.symm
  simp only[List.map_cons,A.upd,A.ef,A.mJ,if_true,Option.bind_some,h1,cond_false]
  rw[RB (fun y hy=>h y (by simp [hy]))]
  rfl
end
theorem By (e:A.EK) {k z:AV} {σ:Heap} {id:Nat} {es:List (AV×AV)} (hk:A.jt e k=true) (h:σ[id]? =some (.map es)):A.look e (.om id) k z σ=(A.find e k es).map fun r=>r.getD z:=by
 simp [A.look,hk,A.entries,h]
theorem zx (e:A.EK) {k w:AV} {σ:Heap} {id:Nat} {es:List (AV×AV)} (hk:A.jt e k=true) (h:σ[id]? =some (.map es)):A.eA e (.om id) k w σ=(A.upd e k w es).map fun es=>σ.set id (.map es):=by
 simp [A.eA,hk,h]
theorem XV {α:Type} (l:List α) (x:α):(((l++[x]).length:Nat):Int)=(l.length:Int)+1:=by simp
theorem KS {α:Type} (sz:Nat) (c:α→List AV) (l:List α) {k:Nat} {x:α} (h0:0<k) (h:l[k-1]? =some x):A.aT sz (sl sz c l) (.int .i64 ((k:Int) -1))=some (.rp (c x)):=by
 have:=lM sz c l h
 rwa[show((k-1:Nat):Int)=(k:Int) -1 by omega]at this
def l5 {α:Type} (g:α→ByteArray) (l:List α):List (AV×AV):=l.map fun x=>(AV.str (g x),AV.bool true)
def qL {α:Type} (g:α→Int) (l:List α):List (AV×AV):=l.map fun x=>(AV.int .i64 (g x),AV.bool true)
theorem Qa {α:Type} (p:α→Bool):∀(l:List α),((l.find? p).map fun _=>AV.bool true).getD aM=AV.bool (l.any p)
 |[]=>rfl
 |x::l=>by
  simp only[List.find?,List.any_cons]
  cases h:p x
  ·simpa using Qa p l
  ·rfl
theorem Xj {α:Type} (g:α→ByteArray) (k:ByteArray) (l:List α):(A.find .z (.str k) (l5 g l)).map (fun r=>r.getD (.bool false))=some (.bool (jv k (l.map g))):=by
 unfold l5
 rw[Zv g (fun _=>AV.bool true) k l,Option.map_some,Qa]
 refine congrArg some (congrArg AV.bool ?_)
 rw[Bool.eq_iff_iff,Qi]
 simp only[List.any_eq_true,decide_eq_true_eq,List.mem_map]
 exact⟨fun⟨x,h,e⟩=>⟨x,h,e.symm⟩,fun⟨x,h,e⟩=>⟨x,h,e.symm⟩⟩
theorem Xf {α:Type} (g:α→Int) (k:Int) (l:List α):(A.find .i (.int .i64 k) (qL g l)).map (fun r=>r.getD (.bool false))=some (.bool (jv k (l.map g))):=by
 unfold qL
 rw[Zu g (fun _=>AV.bool true) .i64 k l,Option.map_some,Qa]
 refine congrArg some (congrArg AV.bool ?_)
 rw[Bool.eq_iff_iff,Qi]
 simp only[List.any_eq_true,decide_eq_true_eq,List.mem_map]
 exact⟨fun⟨x,h,e⟩=>⟨x,h,e.symm⟩,fun⟨x,h,e⟩=>⟨x,h,e.symm⟩⟩
section
variable {α : Type} (g : α → ByteArray) (gi : α → Int) (l : List α) (k : ByteArray) (n : Int) (σ bs : Heap) (b0 : aJ)
theorem Wn:A.look .z (.om σ.length) (.str k) (.bool false) (σ++aJ.map (l5 g l)::bs)=some (.bool (jv k (l.map g))):=by
 rw[By .z rfl (by rw[F4];rfl),Xj]
theorem Wl:A.look .i (.om σ.length) (.int .i64 n) (.bool false) (σ++aJ.map (qL gi l)::bs)=some (.bool (jv n (l.map gi))):=by
 rw[By .i rfl (by rw[F4];rfl),Xf]
theorem Wo:A.look .z (.om (σ.length+1)) (.str k) (.bool false) (σ++b0::aJ.map (l5 g l)::bs)=some (.bool (jv k (l.map g))):=by
 rw[By .z rfl (by rw[Nb];rfl),Xj]
theorem Wm:A.look .i (.om (σ.length+1)) (.int .i64 n) (.bool false) (σ++b0::aJ.map (qL gi l)::bs)=some (.bool (jv n (l.map gi))):=by
 rw[By .i rfl (by rw[Nb];rfl),Xf]
theorem Xl (h:jv k (l.map g)=false):A.eA .z (.om σ.length) (.str k) (.bool true) (σ++aJ.map (l5 g l)::bs)=some (σ++aJ.map (l5 g l++[(.str k,.bool true)])::bs):=by
 rw[zx .z rfl (by rw[F4];rfl),l5,RD g _ (fun x hx e=>KT.1 h (by rw[←e];exact List.mem_map_of_mem hx)),Option.map_some,Rr];rfl
theorem Xh (h:jv n (l.map gi)=false):A.eA .i (.om σ.length) (.int .i64 n) (.bool true) (σ++aJ.map (qL gi l)::bs)=some (σ++aJ.map (qL gi l++[(.int .i64 n,.bool true)])::bs):=by
 rw[zx .i rfl (by rw[F4];rfl),qL,RB gi _ (fun x hx e=>KT.1 h (by rw[←e];exact List.mem_map_of_mem hx)),Option.map_some,Rr];rfl
theorem Xm (h:jv k (l.map g)=false):A.eA .z (.om (σ.length+1)) (.str k) (.bool true) (σ++b0::aJ.map (l5 g l)::bs)=some (σ++b0::aJ.map (l5 g l++[(.str k,.bool true)])::bs):=by
 rw[zx .z rfl (by rw[Nb];rfl),l5,RD g _ (fun x hx e=>KT.1 h (by rw[←e];exact List.mem_map_of_mem hx)),Option.map_some,tV];rfl
theorem Xi (h:jv n (l.map gi)=false):A.eA .i (.om (σ.length+1)) (.int .i64 n) (.bool true) (σ++b0::aJ.map (qL gi l)::bs)=some (σ++b0::aJ.map (qL gi l++[(.int .i64 n,.bool true)])::bs):=by
 rw[zx .i rfl (by rw[Nb];rfl),qL,RB gi _ (fun x hx e=>KT.1 h (by rw[←e];exact List.mem_map_of_mem hx)),Option.map_some,tV];rfl
end
theorem Xk {α:Type} (g:α→ByteArray) (l:List α) (x:α):l5 g (l++[x])=l5 g l++[(.str (g x),.bool true)]:=by simp [l5]
theorem PA (σ:Heap) (v:AV):A.quiet (some (v,σ)) σ=some v:=by simp [A.quiet]
def Fz (a:AV):Prop:=∀σ n d,A.bw σ n d a=some a
def iU (l:List AV):Prop:=∀σ n d,A.eO σ n d l=some l
theorem dO (k:IntKind) (n:Int):Fz (.int k n):=fun _ _ d=>by cases d<;>simp [A.bw]
theorem Bw (b:Bool):Fz (.bool b):=fun _ _ d=>by cases d<;>simp [A.bw]
theorem yA (s:ByteArray):Fz (.str s):=fun _ _ d=>by cases d<;>simp [A.bw]
theorem wu {l:List AV} (h:iU l):Fz (.agg l):=fun σ n d=>by cases d<;>simp [A.bw,h σ n]
theorem oK:iU []:=fun _ _ _=>by simp [A.eO]
theorem bR {a:AV} {l:List AV} (h:Fz a) (k:iU l):iU (a::l):=fun σ n d=>by simp [A.eO,h σ n d,k σ n d]
theorem oS {α:Type} {sz:Nat} {c:α→List AV} (h:∀x,iU (c x)) (l:List α):Fz (sl sz c l):=by
 intro σ n d
 have:A.jh σ n d (l.map c)=some (l.map c):=by
  induction l with
  |nil=>simp [A.jh]
  |cons x l ih=>simp [A.jh,h x σ n d,ih]
 cases d<;>simp [sl,A.bw,this]
theorem R6 {α:Type} {c:α→List AV} (h:∀x,iU (c x)) (l:List α) (σ:Heap) (n d:Nat):A.jh σ n d (l.map c)=some (l.map c):=by
 induction l with
 |nil=>simp [A.jh]
 |cons x l ih=>simp [A.jh,h x σ n d,ih]
def vu {α:Type} (id sz:Nat) (l:List α):AV:=if l=[]then .au else .os id l.length sz 0 l.length
def rV {α:Type} (sz:Nat) (c:α→List AV) (l:List α):Heap:=if l=[]then[]else[.arr l.length sz (l.map c)]
theorem aiS {α:Type} (sz:Nat) (c:α→List AV):rV sz c []=[]:=rfl
theorem af6 {α:Type} {sz most:Nat} (c:α→List AV) (l:List α) (x:α) (σ:Heap) (h:l.length+1≤most):A.append sz most (vu σ.length sz l) (.sl sz [c x]) (σ++rV sz c l)=some (vu σ.length sz (l++[x]),σ++rV sz c (l++[x])):=by
 unfold vu rV
 cases l with
 |nil=>
  have h1:1≤most:=by simpa using h
  simp [A.append,A.sJ,A.elems,h1]
 |cons y l=>
  have h1:l.length+1+1≤most:=by simpa using h
  simp [A.append,A.sJ,A.elems,h1,F4,Rr,Nat.add_assoc,List.take_of_length_le]
theorem aku {α:Type} {sz:Nat} {c:α→List AV} (hc:∀x,iU (c x)) (l:List α) (σ:Heap) (d:Nat):A.bw (σ++rV sz c l) σ.length (d+1) (vu σ.length sz l)=some (if l=[]then .au else sl sz c l):=by
 unfold vu rV
 split
 ·simp [A.bw]
 ·rename_i hl
  simp only[A.bw,Nat.lt_irrefl,if_false,F4,List.getElem?_cons_zero]
  rw[if_pos (by simp)]
  have e:(List.take l.length (List.drop 0 (l.map c)))=l.map c:=by simp [List.take_of_length_le]
  rw[e,Fl,R6 hc]
  rfl
theorem ait {α:Type} {sz:Nat} {c:α→List AV} (hc:∀x,iU (c x)) (l:List α) (k:IntKind) (n:Int) (σ:Heap):A.fin σ (.aG [vu σ.length sz l,.int k n]) (σ++rV sz c l)=some (.aG [if l=[]then .au else sl sz c l,.int k n],σ):=by
 unfold A.fin
 split
 ·rename_i h
  have:rV sz c l=[]:=by simpa using h
  have hl:l=[]:=by
   unfold rV at this
   split at this
   ·assumption
   ·cases this
  subst hl;rfl
 ·rw[if_pos (by simp)]
  have:A.bw (σ++rV sz c l) σ.length 8 (.aG [vu σ.length sz l,.int k n])=some (.aG [if l=[]then .au else sl sz c l,.int k n]):=by
   simp only[A.bw,A.eO,aku hc,dO k n _ _ _,Option.bind_some,Option.map_some]
  rw[this];rfl
theorem alx {α:Type} (sz:Nat) (c:α→List AV) (l:List α):A.nn (.s sz) (if l=[]then .au else sl sz c l)=sl sz c l:=by
 split
 ·rename_i h;subst h;rfl
 ·rfl
def kq {α:Type} (p:α→Bool) (l:List α):Int:=match l.findIdx? p with|some i=>i|none=>-1
theorem Bo {α:Type} (p:α→Bool) (l:List α):(kq p l=-1∧(∀x∈l,p x=false)∧l.find? p=none)∨∃(k:Nat) (x:α),l[k]? =some x∧p x=true∧kq p l=k∧l.find? p=some x∧∀(j:Nat) (y:α),j<k→l[j]? =some y→p y=false:=by
 induction l with
 |nil=>left;exact⟨rfl,by simp,rfl⟩
 |cons x l ih=>
  cases h:p x
  ·rcases ih with⟨h1,h2,h3⟩|⟨k,y,h1,h2,h3,h4,h5⟩
   ·left
    refine⟨?_,?_,?_⟩
    ·unfold kq at h1 ⊢
     rw[List.findIdx?_cons,h]
     cases hf:l.findIdx? p with
     |none=>simp
     |some i=>rw[hf]at h1;simp at h1
    ·intro y hy
     rcases List.mem_cons.1 hy with rfl|hy
     ·exact h
     ·exact h2 y hy
    ·simp [List.find?,h,h3]
   ·right
    refine⟨k+1,y,by simpa using h1,h2,?_,by simp [List.find?,h,h4],?_⟩
    ·unfold kq at h3 ⊢
     rw[List.findIdx?_cons,h]
     cases hf:l.findIdx? p with
     |none=>rw[hf]at h3;simp at h3
     |some i=>rw[hf]at h3;simp at h3 ⊢;omega
    ·intro j z hj hz
     cases j with
     |zero=>simp at hz;subst hz;exact h
     |succ j=>exact h5 j z (by omega) (by simpa using hz)
  ·right
   refine⟨0,x,rfl,h,?_,by simp [List.find?,h],by intro j y hj;omega⟩
   unfold kq
   rw[List.findIdx?_cons,h];rfl
theorem C8 {α:Type} {γ:Type} (p:α→Bool) (K1:Option γ) (K2:Int→Option γ):∀(l pre:List α),(∀x∈pre,p x=false)→(kr (fun pre x (_:Unit)=>if p x=true then(Rd.out (pre.length:Int):Rd Unit Int)else .go ()) pre l ()).el (fun _=>K1) K2=if kq p (pre++l)=-1 then K1 else K2 (kq p (pre++l))
 |[],pre,h=>by
  have:kq p (pre++[])=-1:=by
   rcases Bo p (pre++[])with h1|⟨k,x,h1,h2,_⟩
   ·exact h1.1
   ·have:=h x (by have:=List.mem_of_getElem? h1;simpa using this)
    rw[h2]at this;cases this
  rw[kr,BP,if_pos this]
 |x::l,pre,h=>by
  rw[kr]
  cases hx:p x
  ·simp only[Bool.false_eq_true,if_false]
   have:=C8 p K1 K2 l (pre++[x]) (fun y hy=>by
    rcases List.mem_append.1 hy with hy|hy
    ·exact h y hy
    ·simp at hy;subst hy;exact hx)
   simpa using this
  ·simp only[if_true,BF]
   have:kq p (pre++x::l)=pre.length:=by
    rcases Bo p (pre++x::l)with h1|⟨k,y,h1,h2,h3,_,h5⟩
    ·have:=h1.2.1 x (by simp);rw[hx]at this;cases this
    ·rw[h3]
     rcases Nat.lt_trichotomy k pre.length with hk|hk|hk
     ·rw[List.getElem?_append_left hk]at h1
      have:=h y (List.mem_of_getElem? h1);rw[h2]at this;cases this
     ·omega
     ·have:=h5 pre.length x hk (by simp);rw[hx]at this;cases this
   rw[this,if_neg (by omega)]
theorem Yg {α R γ:Type} (p:α→Bool) (r:R) (K1:Unit→γ) (K2:R→γ):∀(l pre:List α),(kr (fun _ x (_:Unit)=>if p x=true then(Rd.out r:Rd Unit R)else .go ()) pre l ()).el K1 K2=if l.any p=true then K2 r else K1 ()
 |[],pre=>by simp [kr,Rd.el]
 |x::l,pre=>by
  rw[kr]
  cases h:p x
  ·simp only[Bool.false_eq_true,if_false]
   rw[Yg p r K1 K2 l (pre++[x])]
   simp [h]
  ·simp [h,Rd.el]
theorem afu {α:Type} (sz:Nat) (c:α→List AV) (l:List α) {k:Nat} (h:k≤l.length) {σ:Heap}:A.Dk sz (sl sz c l) none (some (.int .i64 (k:Int))) σ=some (sl sz c (l.take k)):=by
 simp [A.Dk,sl,A.bound,h,List.map_take]
theorem Xg (l:List Int) (n:Int):qL id l++[(.int .i64 n,.bool true)]=qL id (l++[n]):=by simp [qL]
theorem ahu {κ:Type} [DecidableEq κ] (k x:κ) (S:List κ):jv k (S++[x])=(jv k S||decide (x=k)):=by simp [jv]
theorem tW {α:Type} {sz:Nat} {c:α→List AV} {sh:List Sh} (h:∀x,A.bV sh (c x)=c x) (l:List α):A.nn (.e sz sh) (sl sz c l)=sl sz c l:=by
 simp only[sl,A.nn,List.map_map]
 congr 1
 exact List.map_congr_left fun x _=>h x
theorem akp (sz:Nat) (sh:List Sh):A.nn (.e sz sh) .au=.sl sz []:=by simp [A.nn]
theorem XZ {α γ:Type} {f:List AV→Heap→Option (AX×List AV×Heap)} (l:List α) (p:α→Bool) (vs:Nat→List AV) (σ:Heap) (fin:AX×List AV×Heap) (ret:Nat→AX×List AV×Heap) {k:AX×List AV×Heap→Option γ} (K1 K2:Option γ)
  (hstep:∀(i:Nat) (x:α),l[i]? =some x→f (vs i) σ=if p x=true then some (ret i)else some (.normal,vs (i+1),σ)) (hend:f (vs l.length) σ=some fin) (hk1:k fin=K1) (hk2:∀i,k (ret i)=K2)
  (Ap:fin.1≠.normal:=by simp) (IC:∀i,(ret i).1≠.normal:=by intros;simp) {v:List AV} {σ':Heap} (hv:v=vs 0:=by rfl) (fS:σ'=σ:=by rfl):
  (A.loop f v σ').bind k=if l.any p=true then K2 else K1:=by
 subst hv fS
 refine(oI (S:=Unit) (R:=Unit) l (fun _ x _=>if p x=true then .out ()else .go ()) (fun pre _=>vs pre.length) (fun _ _=>σ') (fun _=>fin) (fun pre _ _=>ret pre.length) (fun _ _=>True) () (fun _=>K1) (fun _=>K2)
  ?_ (fun _ _=>hend) trivial (fun _ _ _ _ _ _ _ _=>trivial) (fun _ _=>hk1) (fun _ _ _ _ _ _ _ _=>hk2 _) (fun _=>Ap) (fun _ _ _=>IC _)).trans (Yg p () _ _ l [])
 intro pre x rest u hl _
 rw[hstep pre.length x (oL hl)]
 cases p x<;>simp [Rd.el]
theorem XT {α:Type} (sz:Nat) (c:α→List AV) {l:List α} {k:Nat} {x:α} (h:l[k]? =some x):A.aT sz (sl sz c l) (.int .i64 (k:Int))=some (.rp (c x))∧(k:Int)<(l.length:Int)∧(l.length≤aW→IntKind.i64.wrap ((k:Int)+1)=(k:Int)+1):=
 ⟨lM sz c l h,by have:=(List.getElem?_eq_some_iff.1 h).1;omega,fun hl=>wrap64 (by have:=(List.getElem?_eq_some_iff.1 h).1;unfold aP;unfold aW at hl;omega)⟩
theorem ahp {α γ:Type} {f:List AV→Heap→Option (AX×List AV×Heap)} (l:List α) (p:α→Bool) (vs:Nat→List AV) (σ:Heap) (fin:AX×List AV×Heap) (ret:Nat→α→AX×List AV×Heap) {k:AX×List AV×Heap→Option γ} (K1:Option γ) (K2:α→Option γ)
  (hstep:∀(i:Nat) (x:α),l[i]? =some x→f (vs i) σ=if p x=true then some (ret i x)else some (.normal,vs (i+1),σ)) (hend:f (vs l.length) σ=some fin) (hk1:k fin=K1) (hk2:∀i x,k (ret i x)=K2 x)
  (Ap:fin.1≠.normal:=by simp) (IC:∀i x,(ret i x).1≠.normal:=by intros;simp) {v:List AV} {σ':Heap} (hv:v=vs 0:=by rfl) (fS:σ'=σ:=by rfl):
  (A.loop f v σ').bind k=(l.find? p).elim K1 K2:=by
 subst hv fS
 have run:∀(l pre:List α),(kr (fun _ x (_:Unit)=>if p x=true then(Rd.out x:Rd Unit α)else .go ()) pre l ()).el (fun _=>K1) K2=(l.find? p).elim K1 K2:=by
  intro l
  induction l with
  |nil=>intro pre;rfl
  |cons x l ih=>
   intro pre
   rw[kr]
   cases h:p x
   ·simp only[Bool.false_eq_true,if_false]
    rw[ih,List.find?_cons,h]
   ·simp [h,Rd.el]
 refine(oI (S:=Unit) (R:=α) l (fun _ x _=>if p x=true then .out x else .go ()) (fun pre _=>vs pre.length) (fun _ _=>σ') (fun _=>fin) (fun pre _ x=>ret pre.length x) (fun _ _=>True) () (fun _=>K1) K2
  ?_ (fun _ _=>hend) trivial (fun _ _ _ _ _ _ _ _=>trivial) (fun _ _=>hk1) (fun _ _ _ _ _ _ _ _=>hk2 _ _) (fun _=>Ap) (fun _ _ _=>IC _ _)).trans (run l [])
 intro pre x rest u hl _
 rw[hstep pre.length x (oL hl)]
 cases p x<;>simp [Rd.el]
theorem Fp {α:Type} (n:Int) (B:AV→Option α) (s:Option α):((A.lss (.int .i64 n) (.int .i64 n)).bind fun x=>A.cond x (B x) s)=s:=by
 simp only[kN,Int.lt_irrefl,Option.bind_some,decide_false,cF]
section
variable {α β : Type}
theorem ag4 {c c':AV} (h:c=c') (t e:Option α):A.cond c t e=A.cond c' t e:=by rw[h]
theorem afW {c c':AV} (h:c=c') (w:Bool) (e d:Option α):A.guard c w e d=A.guard c' w e d:=by rw[h]
theorem agV {x y:Option α} (h:x=y) (f:α→Option β):x.bind f=y.bind f:=by rw[h]
attribute [congr] ag4 afW agV
end
theorem aO:type_of% @Option.bind_some.{0,0}∧type_of% @Option.map_some.{0,0}∧type_of% @cT∧type_of% @cF∧type_of% @gTT∧type_of% @gTF∧type_of% @gFT∧type_of% @gFF∧type_of% @gN∧type_of% @pT∧type_of% @pF∧type_of% @cond_true.{1}∧type_of% @cond_false.{1}∧type_of% @xN∧type_of% @kV∧type_of% @oW∧type_of% @wF∧type_of% @kN∧type_of% @MM∧type_of% @F0∧type_of% @rQ∧type_of% @aaj∧type_of% @aai∧type_of% @aag∧type_of% @aaf∧type_of% @iN∧type_of% @fW∧type_of% @aaN∧type_of% @RL∧type_of% @aaP∧type_of% @aak∧type_of% @aLb∧type_of% @aab∧type_of% @aac∧type_of% @aad∧type_of% @aae∧type_of% @aDe∧type_of% @aFa∧type_of% @aah∧type_of% @aCI∧type_of% @aCB∧type_of% @aCS∧type_of% @aaM∧type_of% @TX∧type_of% @gd0∧type_of% @gd1∧type_of% @gd2∧type_of% @gd3∧type_of% @gd4∧type_of% @gd5∧type_of% @gd6∧type_of% @gd7∧type_of% @gd8∧type_of% @bC∧type_of% @QD∧type_of% @XL∧type_of% @YD∧type_of% @XM∧type_of% @fL∧type_of% @ite_true.{1}∧type_of% @ite_false.{1}∧type_of% @if_true.{1}∧type_of% @if_false.{1}∧type_of% @Bool.false_eq_true∧type_of% @not_true_eq_false∧type_of% @not_false_eq_true∧type_of% @decide_true∧type_of% @decide_false∧type_of% @Bool.not_true∧type_of% @Bool.not_false∧type_of% @List.append_assoc.{0}∧type_of% @List.cons_append.{0}∧type_of% @List.nil_append.{0}∧type_of% @List.drop_zero.{0}∧type_of% @YX∧type_of% @YY∧type_of% @XV∧type_of% @Int.natCast_add∧type_of% @Int.cast_ofNat_Int∧type_of% @PA∧type_of% @BP∧type_of% @BF∧type_of% @FK∧type_of% @Wn∧type_of% @Wl∧type_of% @Wo∧type_of% @Wm∧type_of% @Xk∧type_of% @Xl∧type_of% @Xh∧type_of% @Xm∧type_of% @Xi∧type_of% @true_and∧type_of% @and_true∧type_of% @false_and∧type_of% @and_false∧type_of% @true_or∧type_of% @or_true∧type_of% @false_or∧type_of% @or_false∧type_of% @Option.getD_some.{0}∧type_of% @Option.getD_none.{0}∧type_of% @List.length_append.{0}∧type_of% @List.length_cons.{0}∧type_of% @List.length_nil.{0}∧type_of% @Nat.zero_add∧type_of% @Nat.add_zero:=
 ⟨@Option.bind_some.{0,0},@Option.map_some.{0,0},@cT,@cF,@gTT,@gTF,@gFT,@gFF,@gN,@pT,@pF,@cond_true.{1},@cond_false.{1},@xN,@kV,@oW,@wF,@kN,@MM,@F0,@rQ,@aaj,@aai,@aag,@aaf,@iN,@fW,@aaN,@RL,@aaP,@aak,@aLb,@aab,@aac,@aad,@aae,@aDe,@aFa,@aah,@aCI,@aCB,@aCS,@aaM,@TX,@gd0,@gd1,@gd2,@gd3,@gd4,@gd5,@gd6,@gd7,@gd8,@bC,@QD,@XL,@YD,@XM,@fL,@ite_true.{1},@ite_false.{1},@if_true.{1},@if_false.{1},@Bool.false_eq_true,@not_true_eq_false,@not_false_eq_true,@decide_true,@decide_false,@Bool.not_true,@Bool.not_false,@List.append_assoc.{0},@List.cons_append.{0},@List.nil_append.{0},@List.drop_zero.{0},@YX,@YY,@XV,@Int.natCast_add,@Int.cast_ofNat_Int,@PA,@BP,@BF,@FK,@Wn,@Wl,@Wo,@Wm,@Xk,@Xl,@Xh,@Xm,@Xi,@true_and,@and_true,@false_and,@and_false,@true_or,@or_true,@false_or,@or_false,@Option.getD_some.{0},@Option.getD_none.{0},@List.length_append.{0},@List.length_cons.{0},@List.length_nil.{0},@Nat.zero_add,@Nat.add_zero⟩
end
theorem PV (x:lE):iU (gX x):=(bR (dO _ _) (bR (dO _ _) oK))
theorem WR (x:oq):iU (mq x):=(bR (dO _ _) (bR (dO _ _) (bR (yA _) oK)))
theorem PU (x:ew):iU (eR x):=(bR (yA _) (bR (dO _ _) (bR (dO _ _) (bR (dO _ _) (bR (dO _ _) (bR (Bw _) (bR (oS WR _) oK)))))))
theorem aeZ (x:cV):iU (cm x):=(bR (yA _) (bR (dO _ _) (bR (oS PU _) oK)))
theorem Qf (x:gY):iU (bU x):=(bR (dO _ _) (bR (yA _) (bR (dO _ _) (bR (dO _ _) oK))))
theorem zw (x:aB):iU (aN x):=(bR (dO _ _) (bR (yA _) oK))
theorem KF (x:lK):iU (dM x):=(bR (dO _ _) (bR (yA _) (bR (dO _ _) oK)))
theorem VW (x:jU):iU (dN x):=(bR (dO _ _) (bR (yA _) (bR (oS KF _) oK)))
theorem XQ (x:fE):iU (fG x):=(bR (dO _ _) (bR (yA _) (bR (dO _ _) (bR (dO _ _) (bR (Bw _) (bR (Bw _) (bR (dO _ _) (bR (dO _ _) oK))))))))
theorem L6 (x:bf):iU (aZ x):=(bR (dO _ _) (bR (yA _) (bR (dO _ _) (bR (dO _ _) (bR (dO _ _) (bR (dO _ _) (bR (dO _ _) (bR (oS PV _) (bR (Bw _) (bR (dO _ _) (bR (oS XQ _) oK)))))))))))
theorem WQ (x:bh):iU (cM x):=(bR (dO _ _) (bR (yA _) (bR (dO _ _) (bR (dO _ _) (bR (dO _ _) oK)))))
theorem aiA (x:iR):iU (dU x):=(bR (dO _ _) (bR (oS L6 _) oK))
theorem OL (x:lJ):iU (cz x):=(bR (dO _ _) (bR (dO _ _) (bR (dO _ _) oK)))
theorem VV (x:dR):iU (bn x):=(bR (dO _ _) (bR (dO _ _) (bR (dO _ _) (bR (dO _ _) (bR (dO _ _) oK)))))
instance : Inhabited ByteArray := ⟨⟨#[]⟩⟩
instance : Inhabited lE := ⟨⟨0, 0⟩⟩
instance : Inhabited oM := ⟨⟨0, []⟩⟩
instance : Inhabited gE := ⟨⟨0, 0, 0, 0, 0, ⟨0, []⟩⟩⟩
instance : Inhabited ajo := ⟨⟨0, 0⟩⟩
instance : Inhabited oq := ⟨⟨0, 0, ⟨#[]⟩⟩⟩
instance : Inhabited ew := ⟨⟨⟨#[]⟩, 0, 0, 0, 0, false, []⟩⟩
instance : Inhabited cV := ⟨⟨⟨#[]⟩, 0, []⟩⟩
instance : Inhabited gY := ⟨⟨0, ⟨#[]⟩, 0, 0⟩⟩
instance : Inhabited gr := ⟨⟨[], []⟩⟩
instance : Inhabited aB := ⟨⟨0, ⟨#[]⟩⟩⟩
theorem qo (a b:aB):A.ef (.s [0,2]) (.agg (aN a)) (.agg (aN b))=some (decide (a=b)):=by
 obtain⟨x1,x2⟩:=a
 obtain⟨x101,x102⟩:=b
 simp only[A.ef,aN,A.fV,A.l8,A.mJ,A.vG,A.oD,if_true,Option.bind_some,Option.map_some,bq]
 congr 1
 rw[Bool.eq_iff_iff]
 simp [and_assoc]
theorem Zs (a b:aB):A.eql (.s [0,2]) (.agg (aN a)) (.agg (aN b))=some (.bool (decide (a=b))):=by rw[A.eql,qo];rfl
instance : Inhabited lK := ⟨⟨⟨0, ⟨#[]⟩⟩, 0⟩⟩
theorem aeX (a b:lK):A.ef (.s [0,2,0]) (.agg (dM a)) (.agg (dM b))=some (decide (a=b)):=by
 obtain⟨⟨x1,x2⟩,x3⟩:=a
 obtain⟨⟨x101,x102⟩,vB⟩:=b
 simp only[A.ef,dM,A.fV,A.l8,A.mJ,A.vG,A.oD,if_true,Option.bind_some,Option.map_some,bq]
 congr 1
 rw[Bool.eq_iff_iff]
 simp [and_assoc]
theorem af2 (a b:lK):A.neq (.s [0,2,0]) (.agg (dM a)) (.agg (dM b))=some (.bool (decide (¬(a=b)))):=by rw[A.neq,aeX,Option.map_some,decide_not]
instance : Inhabited jU := ⟨⟨0, ⟨#[]⟩, []⟩⟩
instance : Inhabited amH := ⟨⟨[], 0, 0⟩⟩
instance : Inhabited lW := ⟨⟨0, 0⟩⟩
theorem aha (a b:lW):A.ef (.s [0,0]) (.agg (uV a)) (.agg (uV b))=some (decide (a=b)):=by
 obtain⟨x1,x2⟩:=a
 obtain⟨x101,x102⟩:=b
 simp only[A.ef,uV,A.fV,A.l8,A.mJ,A.vG,A.oD,if_true,Option.bind_some,Option.map_some,bq]
 congr 1
 rw[Bool.eq_iff_iff]
 simp [and_assoc]
theorem aiR (a b:lW):A.neq (.s [0,0]) (.agg (uV a)) (.agg (uV b))=some (.bool (decide (¬(a=b)))):=by rw[A.neq,aha,Option.map_some,decide_not]
instance : Inhabited fE := ⟨⟨⟨0, ⟨#[]⟩⟩, ⟨0, 0⟩, false, false, 0, 0⟩⟩
instance : Inhabited bf := ⟨⟨0, ⟨#[]⟩, 0, 0, 0, 0, ⟨0, []⟩, false, 0, []⟩⟩
instance : Inhabited bh := ⟨⟨⟨0, ⟨#[]⟩⟩, ⟨0, 0⟩, 0⟩⟩
instance : Inhabited alY := ⟨⟨0, 0, 0⟩⟩
instance : Inhabited iR := ⟨⟨0, []⟩⟩
instance : Inhabited lJ := ⟨⟨0, 0, 0⟩⟩
instance : Inhabited gf := ⟨⟨⟨[], []⟩, [], [], []⟩⟩
instance : Inhabited dR := ⟨⟨0, 0, 0, 0, 0⟩⟩
instance : Inhabited ak0 := ⟨⟨0, ⟨0, 0, 0, 0, 0⟩⟩⟩
instance : Inhabited ak3 := ⟨⟨0, 0, 0, 0⟩⟩
instance : Inhabited aaL := ⟨⟨⟨0, ⟨#[]⟩⟩, ⟨0, 0, 0, 0, 0, ⟨0, []⟩⟩, 0, false⟩⟩
instance : Inhabited agQ := ⟨⟨0, 0, 0, false, 0, []⟩⟩
instance : Inhabited Vm := ⟨⟨0, 0, 0⟩⟩
instance : Inhabited Yr := ⟨⟨0, 0, 0, 0, 0, 0, false, false, []⟩⟩
instance : Inhabited aaa := ⟨⟨0, 0⟩⟩
instance : Inhabited ah0 := ⟨⟨⟨0, 0, 0, 0, 0, 0, false, false, []⟩, [], 0, [], 0, 0, 0⟩⟩
section
def Rf {β τ:Type} (M:Option β) (T:Option τ) (Q:τ→β→Prop):Prop:=∀t,T=some t→∃b,M=some b∧Q t b
section
variable {α β ω τ ζ : Type}
theorem aq {M0:Option α} {K:α→Option β} {T:Option τ} {Q:τ→β→Prop} (a:α) (h:M0=some a) (k:Rf (K a) T Q):Rf (M0.bind K) T Q:=by
 intro t ht;obtain⟨b,h1,h2⟩:=k t ht;exact⟨b,by rw[h];exact h1,h2⟩
theorem lg {M0:Option α} {K:α→Option β} {o:Option ω} {K':ω→Option τ} {Q:τ→β→Prop} (e:ω→α) (h:∀t,o=some t→M0=some (e t)) (k:∀t,o=some t→Rf (K (e t)) (K' t) Q):Rf (M0.bind K) (o.bind K') Q:=by
 intro t ht
 obtain⟨x,h1,h2⟩:=Option.bind_eq_some_iff.1 ht
 obtain⟨b,h3,h4⟩:=k x h1 t h2
 exact⟨b,by rw[h x h1];exact h3,h4⟩
theorem MX {M0:Option α} {K:α→Option β} {o:Option ω} {K':ω→Option τ} {Q:τ→β→Prop} (Q0:ω→α→Prop) (h:Rf M0 o Q0) (k:∀t a,Q0 t a→Rf (K a) (K' t) Q):Rf (M0.bind K) (o.bind K') Q:=by
 intro t ht
 obtain⟨x,h1,h2⟩:=Option.bind_eq_some_iff.1 ht
 obtain⟨a,h3,h4⟩:=h x h1
 obtain⟨b,h5,h6⟩:=k x a h4 t h2
 exact⟨b,by rw[h3];exact h5,h6⟩
theorem cg {t:τ} {b:β} {Q:τ→β→Prop} (h:Q t b):Rf (some b) (some t) Q:=by
 intro u hu;cases hu;exact⟨b,rfl,h⟩
theorem eF {M:Option β} {t:τ} {Q:τ→β→Prop} (b:β) (e:M=some b) (h:Q t b):Rf M (some t) Q:=by
 rw[e];exact cg h
theorem akE {M:Option β} {Q:τ→β→Prop}:Rf M (none:Option τ) Q:=by intro u hu;cases hu
theorem amC {M:Option β} {p:Prop} [Decidable p] {T:Option τ} {Q:τ→β→Prop} (h:p→Rf M T Q):Rf M (if p then T else none) Q:=by
 split
 ·exact h ‹_›
 ·exact akE
theorem kZ {p:Prop} [Decidable p] {X Y:Option β} {X' Y':Option τ} {Q:τ→β→Prop} (h1:p→Rf X X' Q) (h2:¬p→Rf Y Y' Q):Rf (A.cond (.bool (decide p)) X Y) (if p then X' else Y') Q:=by
 by_cases h:p
 ·simp only[h,decide_true,if_true];exact h1 h
 ·simp only[h,decide_false,if_false];exact h2 h
theorem ji {c:Bool} {X Y:Option β} {X' Y':Option τ} {Q:τ→β→Prop} (h1:c=true→Rf X X' Q) (h2:c=false→Rf Y Y' Q):Rf (A.cond (.bool c) X Y) (if c=true then X' else Y') Q:=by
 cases c
 ·exact h2 rfl
 ·exact h1 rfl
theorem qA {X Y:Option β} {T:Option τ} {Q:τ→β→Prop} (h:Rf X T Q):Rf (A.cond (.bool true) X Y) T Q:=h
theorem qz {X Y:Option β} {T:Option τ} {Q:τ→β→Prop} (h:Rf Y T Q):Rf (A.cond (.bool false) X Y) T Q:=h
theorem jW {c:Bool} {X Y:Option β} {T:Option τ} {Q:τ→β→Prop} (e:c=true) (h:Rf X T Q):Rf (bif c then X else Y) T Q:=by rw[e];exact h
theorem vg {c:Bool} {X Y:Option β} {T:Option τ} {Q:τ→β→Prop} (e:c=false) (h:Rf Y T Q):Rf (bif c then X else Y) T Q:=by rw[e];exact h
def gv {α:Type} (g:Bool) (e:α→AV) (t:α):AV:=bif g then e t else .aG []
end
inductive Lr (S B R : Type) where
 |go (s:S)
 |brk (b:B)
 |ret (r:R)
def mz {α S B R:Type} (body:Nat→α→S→Option (Lr S B R)) (fin:S→Option B):List α→Nat→S→Option (B ⊕ R)
 |[],_,s=>(fin s).map .inl
 |x::l,i,s=>(body i x s).bind fun q=>match q with|.go s'=>mz body fin l (i+1) s'|.brk b=>some (.inl b)|.ret r=>some (.inr r)
def kX {α S B R γ:Type} (l:List α) (body:Nat→α→S→Option (Lr S B R)) (fin:S→Option B) (s:S) (K1:B→Option γ) (K2:R→Option γ):Option γ:=
 if l.length≤aW then(mz body fin l 0 s).bind fun q=>q.elim K1 K2 else none
section
variable {α S B R β τ : Type}
abbrev LS:=AX×List AV×Heap
def M4 (I:S→List AV→Heap→Prop) (QB:B→LS→Prop) (QR:R→LS→Prop) (t:Lr S B R) (q:LS):Prop:=match t with
 |.go s=>q.1=.normal∧I s q.2.1 q.2.2
 |.brk b=>q.1≠.normal∧QB b q
 |.ret r=>q.1≠.normal∧QR r q
theorem qw {I:S→List AV→Heap→Prop} {QB:B→LS→Prop} {QR:R→LS→Prop} {s:S} {v:List AV} {σ:Heap} (h:I s v σ):M4 I QB QR (.go s) (.normal,v,σ):=⟨rfl,h⟩
theorem akF {I:S→List AV→Heap→Prop} {QB:B→LS→Prop} {QR:R→LS→Prop} {b:B} {q:LS} (n:q.1≠.normal) (h:QB b q):M4 I QB QR (.brk b) q:=⟨n,h⟩
theorem iy {I:S→List AV→Heap→Prop} {QB:B→LS→Prop} {QR:R→LS→Prop} {r:R} {q:LS} (n:q.1≠.normal) (h:QR r q):M4 I QB QR (.ret r) q:=⟨n,h⟩
theorem qv {f:List AV→Heap→Option LS} {K:LS→Option β} {Q:τ→β→Prop} {l:List α} {body:Nat→α→S→Option (Lr S B R)} {fin:S→Option B} {s0:S} {K1:B→Option τ} {K2:R→Option τ} {v0:List AV} {aC:Heap}
  (I:Nat→S→List AV→Heap→Prop) (QB:B→LS→Prop) (QR:R→LS→Prop)
  (hstep:l.length≤aW→∀i x s v σ,l[i]? =some x→I i s v σ→Rf (f v σ) (body i x s) (M4 (I (i+1)) QB QR))
  (hend:l.length≤aW→∀s v σ,I l.length s v σ→Rf (f v σ) (fin s) (fun b q=>q.1≠.normal∧QB b q))
  (h0:I 0 s0 v0 aC) (k1:l.length≤aW→∀b q,QB b q→Rf (K q) (K1 b) Q) (k2:l.length≤aW→∀r q,QR r q→Rf (K q) (K2 r) Q):
  Rf ((A.loop f v0 aC).bind K) (kX l body fin s0 K1 K2) Q:=by
 unfold kX
 refine amC fun hl=>?_
 have hstep:=hstep hl
 have hend:=hend hl
 have key:∀(rest pre:List α) (s:S) (v:List AV) (σ:Heap),l=pre++rest→I pre.length s v σ→∀t,mz body fin rest pre.length s=some t→∃q,(∃n,A.iter f n v σ=some q)∧(match t with|.inl b=>QB b q|.inr r=>QR r q):=by
  intro rest
  induction rest with
  |nil=>
   intro pre s v σ hl hI t ht
   rw[List.append_nil]at hl
   subst hl
   simp only[mz]at ht
   obtain⟨b,hb,rfl⟩:=Option.map_eq_some_iff.1 ht
   obtain⟨q,h1,h2,h3⟩:=hend s v σ hI b hb
   exact⟨q,uO h1 h2,h3⟩
  |cons x rest ih=>
   intro pre s v σ hl hI t ht
   simp only[mz]at ht
   obtain⟨y,hy,h2⟩:=Option.bind_eq_some_iff.1 ht
   obtain⟨q,h3,h4⟩:=hstep pre.length x s v σ (by rw[hl];simp) hI y hy
   obtain⟨e,v',σ'⟩:=q
   cases y with
   |go s'=>
    obtain⟨rfl,Tv⟩:=h4
    obtain⟨q,h5,h6⟩:=ih (pre++[x]) s' v' σ' (by simpa using hl) (by simpa using Tv) t (by simpa using h2)
    exact⟨q,CZ h3 h5,h6⟩
   |brk b=>simp only[Option.some.injEq]at h2;subst h2;exact⟨_,uO h3 h4.1,h4.2⟩
   |ret b=>simp only[Option.some.injEq]at h2;subst h2;exact⟨_,uO h3 h4.1,h4.2⟩
 intro t ht
 obtain⟨y,hy,h2⟩:=Option.bind_eq_some_iff.1 ht
 obtain⟨q,⟨n,hn⟩,h3⟩:=key l [] s0 v0 aC rfl h0 y hy
 cases y with
 |inl b=>obtain⟨z,h4,h5⟩:=k1 hl b q h3 t h2;exact⟨z,by rw[CT hn];exact h4,h5⟩
 |inr b=>obtain⟨z,h4,h5⟩:=k2 hl b q h3 t h2;exact⟨z,by rw[CT hn];exact h4,h5⟩
theorem jr {l:List α} {i:Nat} {x:α} (h:l[i]? =some x):A.lss (.int .i64 (i:Int)) (.int .i64 (l.length:Int))=some (.bool true):=by
 have:=(List.getElem?_eq_some_iff.1 h).1
 rw[kN];simp;omega
theorem jq (l:List α):A.lss (.int .i64 (l.length:Int)) (.int .i64 (l.length:Int))=some (.bool false):=by rw[kN];simp
theorem fU {l:List α} {i:Nat} {x:α} (h:l[i]? =some x) (hl:l.length≤aW):A.add (.int .i64 (i:Int)) (.int .i64 1)=some (.int .i64 ((i+1:Nat):Int)):=by
 have:=(List.getElem?_eq_some_iff.1 h).1
 rw[kV,wrap64 (by unfold aP;unfold aW at hl;omega)]
 simp
def uH (l:List α) (i:Int):Option α:=if 0≤i then l[i.toNat]? else none
theorem BU {sz:Nat} {c:α→List AV} {l:List α} {i:Int} {x:α} (h:uH l i=some x):A.aT sz (sl sz c l) (.int .i64 i)=some (.rp (c x)):=by
 unfold uH at h
 split at h
 ·exact ahj sz c l ‹_› h
 ·cases h
theorem iQ {sz:Nat} {c:α→List AV} {l:List α} {i:Nat} {x:α} (h:l[i]? =some x):A.aT sz (sl sz c l) (.int .i64 (i:Int))=some (.rp (c x)):=lM sz c l h
end
theorem quiet_of {M:Option (AV×Heap)} {v:AV} {σ:Heap} (h:M=some (v,σ)):A.quiet M σ=some v:=by rw[h,PA]
def IK (a b:Int):Option Int:=if b=0 then none else some (IntKind.i64.wrap (a.tdiv b))
def IL (a b:Int):Option Int:=if b=0 then none else some (a.tmod b)
theorem alF {a b c:Int} (h:IK a b=some c):A.quo (.int .i64 a) (.int .i64 b)=some (.int .i64 c):=by
 unfold IK at h
 split at h
 ·cases h
 ·injection h with h;subst h;exact aaQ a b ‹_›
theorem alH {a b c:Int} (h:IL a b=some c):A.rem (.int .i64 a) (.int .i64 b)=some (.int .i64 c):=by
 unfold IL at h
 split at h
 ·cases h
 ·injection h with h;subst h;exact amJ a b ‹_›
noncomputable def tq {α:Type} (p:Prop) (x:α):Option α:=open Classical in if p then some x else none
theorem uX {α:Type} {p:Prop} {x:α} (h:p):tq p x=some x:=if_pos h
theorem wC {α β:Type} {p:Prop} {x r:α} {M:Option β} {e:α→β} (h:p→M=some (e x)) (k:tq p x=some r):M=some (e r):=by
 unfold tq at k
 split at k
 ·rename_i hp;injection k with k;subst k;exact h hp
 ·cases k
theorem rM (b t:Bool):A.pick (.bool b) (bif b then .bool t else .aG []) (.bool false)=some (.bool (b&&t)):=by cases b<;>rfl
theorem oU (b t:Bool):A.pick (.bool b) (.bool true) (bif !b then .bool t else .aG [])=some (.bool (b||t)):=by cases b<;>rfl
section
variable {α β ω τ : Type} {G b : Bool} {M0 : Option AV} {K : AV → Option β} {T : Option τ} {K' : ω → Option τ} {o : Option ω} {Q : τ → β → Prop}
theorem dW (a:AV) (h:b=true→M0=some a) (k:Rf (K (bif b then a else .aG [])) T Q):Rf ((A.guard (.bool b) true M0 (some (.aG []))).bind K) T Q:=by
 refine aq _ ?_ k
 cases b<;>simp_all [A.guard]
theorem eG (a:AV) (h:(!b)=true→M0=some a) (k:Rf (K (bif !b then a else .aG [])) T Q):Rf ((A.guard (.bool b) false M0 (some (.aG []))).bind K) T Q:=by
 refine aq _ ?_ k
 cases b<;>simp_all [A.guard]
theorem FP (a:AV) (h:(G&&b)=true→M0=some a) (k:Rf (K (bif G&&b then a else .aG [])) T Q):Rf ((A.guard (bif G then .bool b else .aG []) true M0 (some (.aG []))).bind K) T Q:=by
 refine aq _ ?_ k
 cases G<;>cases b<;>simp_all [A.guard]
theorem ZT (a:AV) (h:(G&&!b)=true→M0=some a) (k:Rf (K (bif G&&!b then a else .aG [])) T Q):Rf ((A.guard (bif G then .bool b else .aG []) false M0 (some (.aG []))).bind K) T Q:=by
 refine aq _ ?_ k
 cases G<;>cases b<;>simp_all [A.guard]
theorem amB {g:Bool} {M:Option AV} {d:ω} (e:ω→AV) (hM:M=bif g then M0 else some (.aG [])) (h:g=true→∀t,o=some t→M0=some (e t)) (k:∀t,(g=true→o=some t)→Rf (K (bif g then e t else .aG [])) (K' t) Q):Rf (M.bind K) ((if g=true then o else some d).bind K') Q:=by
 subst hM
 cases g
 ·exact k d (by simp)
 ·intro t ht
  simp only[if_true]at ht
  obtain⟨x,h1,h2⟩:=Option.bind_eq_some_iff.1 ht
  obtain⟨y,h3,h4⟩:=k x (fun _=>h1) t h2
  refine⟨y,?_,h4⟩
  simp only[cond_true,h rfl x h1,Option.bind_some]
  exact h3
theorem yC {d:ω} (e:ω→AV) (h:b=true→∀t,o=some t→M0=some (e t)) (k:∀t,(b=true→o=some t)→Rf (K (bif b then e t else .aG [])) (K' t) Q):Rf ((A.guard (.bool b) true M0 (some (.aG []))).bind K) ((if b=true then o else some d).bind K') Q:=amB e (by cases b<;>rfl) h k
end
theorem QX {ro:Bool} {eT:List Sh} {fH:Sh} {r:List AV→Heap→Option (AV×Heap)} {args args':List AV} {σ:Heap} (hn:A.bV eT args=A.bV eT args') (h1:args.any A.own=false) (h2:args'.any A.own=false):A.wrap ro eT fH r args σ=A.wrap ro eT fH r args' σ:=by
 unfold A.wrap
 rw[h1,h2,hn,Bool.and_false,cond_false,cond_false]
theorem QS {τ:Type} {ro:Bool} {eT:List Sh} {fH:Sh} {r:List AV→Heap→Option (AV×Heap)} {args args':List AV} {σ:Heap} {T:Option τ} {enc:τ→AV} (hn:A.bV eT args=args') (h:args.any A.own=false) (e:Rf (r args' σ) T (fun t b=>A.nn fH b.1=enc t∧b.2=σ)):∀t,T=some t→A.wrap ro eT fH r args σ=some (enc t,σ):=by
 intro t ht
 obtain⟨⟨v,σ'⟩,h1,h2,h3⟩:=e t ht
 simp only at h2 h3
 subst h3
 exact wrap_eq h (by rw[hn];exact h1) h2
theorem yp {τ:Type} {ro:Bool} {eT:List Sh} {fH:Sh} {f:AV→Heap→Option (AV×Heap)} {x0 y0:AV} {σ:Heap} {T:Option τ} {enc:τ→AV} (hn:A.bV eT [x0]=[y0]) (h:([x0]:List AV).any A.own=false) (e:Rf (f y0 σ) T (fun t b=>A.nn fH b.1=enc t∧b.2=σ)):∀t,T=some t→A.wrap ro eT fH (A.cK f) [x0] σ=some (enc t,σ):=QS hn h e
theorem uR {τ:Type} {ro:Bool} {eT:List Sh} {fH:Sh} {f:AV→AV→Heap→Option (AV×Heap)} {x0 x1 y0 y1:AV} {σ:Heap} {T:Option τ} {enc:τ→AV} (hn:A.bV eT [x0,x1]=[y0,y1]) (h:([x0,x1]:List AV).any A.own=false) (e:Rf (f y0 y1 σ) T (fun t b=>A.nn fH b.1=enc t∧b.2=σ)):∀t,T=some t→A.wrap ro eT fH (A.cQ f) [x0,x1] σ=some (enc t,σ):=QS hn h e
theorem Ye {τ:Type} {ro:Bool} {eT:List Sh} {fH:Sh} {f:AV→AV→AV→Heap→Option (AV×Heap)} {x0 x1 x2 y0 y1 y2:AV} {σ:Heap} {T:Option τ} {enc:τ→AV} (hn:A.bV eT [x0,x1,x2]=[y0,y1,y2]) (h:([x0,x1,x2]:List AV).any A.own=false) (e:Rf (f y0 y1 y2 σ) T (fun t b=>A.nn fH b.1=enc t∧b.2=σ)):∀t,T=some t→A.wrap ro eT fH (A.lp f) [x0,x1,x2] σ=some (enc t,σ):=QS hn h e
end
section
inductive Ct where
 |s (sz:Nat) (es:List (List AV))
 |m (es:List (AV×AV))
 |b (cs:List AV)
def yP:AV→Option Nat
 |.os id _ _ _ _=>some id
 |.om id=>some id
 |.op id _=>some id
 |_=>none
def Own (n:Nat) (σ:Heap) (p:AV×Ct):Prop:=match p.2 with
 |.s sz es=>(p.1=.au∧es=[])∨∃id g off a,p.1=.os id g sz off es.length∧n≤id∧σ[id]? =some (.arr g sz a)∧off≤a.length∧a.drop off=es
 |.m es=>∃id,p.1=.om id∧n≤id∧σ[id]? =some (.map es)
 |.b cs=>∃id,p.1=.op id 0∧n≤id∧σ[id]? =some (.box cs)
structure Hp (aC σ : Heap) (L : List (AV × Ct)) : Prop where
 pre:∃bs,σ=aC++bs
 own:∀(i:Nat) p,L[i]? =some p→Own aC.length σ p
 sep:∀(i j:Nat) p q a,L[i]? =some p→L[j]? =some q→yP p.1=some a→yP q.1=some a→i=j
section
variable {aC σ σ' : Heap} {L : List (AV × Ct)} {n : Nat}
theorem Q5 (σ:Heap):Hp σ σ []:=⟨⟨[],by simp⟩,by simp,by simp⟩
theorem Ra {p:AV×Ct} {a:Nat} (h:Own n σ p) (e:yP p.1=some a):n≤a∧a<σ.length:=by
 obtain⟨v,c⟩:=p
 cases c with
 |s sz es=>
  rcases h with⟨h1,_⟩|⟨id,g,off,x,h1,h2,h3,_⟩
  ·simp only at h1;subst h1;cases e
  ·simp only at h1;subst h1;injection e with e;subst e;exact⟨h2,(List.getElem?_eq_some_iff.1 h3).1⟩
 |m es=>obtain⟨id,h1,h2,h3⟩:=h;simp only at h1;subst h1;injection e with e;subst e;exact⟨h2,(List.getElem?_eq_some_iff.1 h3).1⟩
 |b es=>obtain⟨id,h1,h2,h3⟩:=h;simp only at h1;subst h1;injection e with e;subst e;exact⟨h2,(List.getElem?_eq_some_iff.1 h3).1⟩
theorem X4 {p:AV×Ct} (h:Own n σ p) (k:∀a,yP p.1=some a→σ'[a]? =σ[a]?):Own n σ' p:=by
 obtain⟨v,c⟩:=p
 cases c with
 |s sz es=>
  rcases h with h|⟨id,g,off,x,h1,h2,h3,h4⟩
  ·exact .inl h
  ·simp only at h1;subst h1;exact .inr ⟨id,g,off,x,rfl,h2,by rw[k id rfl];exact h3,h4⟩
 |m es=>obtain⟨id,h1,h2,h3⟩:=h;simp only at h1;subst h1;exact⟨id,rfl,h2,by rw[k id rfl];exact h3⟩
 |b es=>obtain⟨id,h1,h2,h3⟩:=h;simp only at h1;subst h1;exact⟨id,rfl,h2,by rw[k id rfl];exact h3⟩
theorem akB (h:∃bs,σ=aC++bs) {id:Nat} (hn:aC.length≤id) (b:aJ):∃bs,σ.set id b=aC++bs:=by
 obtain⟨bs,rfl⟩:=h
 exact⟨bs.set (id-aC.length) b,by rw[List.set_append_right _ _ hn]⟩
theorem ZD (H:Hp aC σ L) {k id:Nat} {h h':AV} {c c':Ct} {b:aJ} (hk:L[k]? =some (h,c)) (hi:yP h=some id) (hi':yP h'=some id) (ho:Own aC.length (σ.set id b) (h',c')):Hp aC (σ.set id b) (L.set k (h',c')):=by
 have hid:=Ra (H.own k _ hk) hi
 have AY:=(List.getElem?_eq_some_iff.1 hk).1
 refine⟨akB H.pre hid.1 b,fun i p hp=>?_,fun i j p q a hp hq e1 e2=>?_⟩
 ·rw[List.getElem?_set]at hp
  split at hp
  ·rename_i e;subst e;simp [AY]at hp;subst hp;exact ho
  ·rename_i e
   refine X4 (H.own i p hp) fun a ha=>?_
   rw[List.getElem?_set]
   split
   ·rename_i e';subst e';exact absurd (H.sep k i _ _ id hk hp hi ha) e
   ·rfl
 ·have key:∀(i:Nat) (p:AV×Ct),(L.set k (h',c'))[i]? =some p→yP p.1=some a→∃p',L[i]? =some p'∧yP p'.1=some a:=by
   intro i p hp e
   rw[List.getElem?_set]at hp
   split at hp
   ·rename_i e';subst e';simp [AY]at hp;subst hp;exact⟨_,hk,by rw[hi];rw[hi']at e;exact e⟩
   ·exact⟨p,hp,e⟩
  obtain⟨p',hp',e1'⟩:=key i p hp e1
  obtain⟨q',AZ,IX⟩:=key j q hq e2
  exact H.sep i j p' q' a hp' AZ e1' IX
theorem aj9 (H:Hp aC σ L) {h':AV} {c':Ct} {b:aJ} (hi':yP h'=some σ.length) (ho:Own aC.length (σ++[b]) (h',c')):Hp aC (σ++[b]) (L++[(h',c')]):=by
 refine⟨?_,fun i p hp=>?_,fun i j p q a hp hq e1 e2=>?_⟩
 ·obtain⟨bs,rfl⟩:=H.pre;exact⟨bs++[b],by simp⟩
 ·rw[List.getElem?_append]at hp
  split at hp
  ·refine X4 (H.own i p hp) fun a ha=>?_
   have:=(Ra (H.own i p hp) ha).2
   rw[List.getElem?_append_left this]
  ·have hp':=(List.getElem?_eq_some_iff.1 hp).2
   simp at hp';subst hp';exact ho
 ·have key:∀(i:Nat) (p:AV×Ct),(L++[(h',c')])[i]? =some p→yP p.1=some a→(i=L.length∧a=σ.length)∨(L[i]? =some p∧a<σ.length):=by
   intro i p hp e
   rw[List.getElem?_append]at hp
   split at hp
   ·exact .inr ⟨hp,(Ra (H.own i p hp) e).2⟩
   ·obtain⟨h1,h2⟩:=List.getElem?_eq_some_iff.1 hp
    simp at h1 h2;subst h2;rw[hi']at e;injection e with e;exact .inl ⟨by omega,e.symm⟩
  rcases key i p hp e1 with⟨a1,a2⟩|⟨a1,a2⟩<;>rcases key j q hq e2 with⟨b1,b2⟩|⟨b1,b2⟩
  ·omega
  ·omega
  ·omega
  ·exact H.sep i j p q a a1 b1 e1 e2
theorem Rp (H:Hp aC σ L):Hp aC (σ++[.map []]) (L++[(.om σ.length,.m [])]):=by
 have hl:aC.length≤σ.length:=by obtain⟨bs,rfl⟩:=H.pre;simp
 exact aj9 H rfl ⟨σ.length,rfl,hl,by simp⟩
theorem QH (H:Hp aC σ L):Hp aC σ []:=⟨H.pre,by simp,by simp⟩
theorem aj8 (H:Hp aC σ L) {k:Nat} {h key v:AV} {ek:A.EK} {es es':List (AV×AV)} (hk:L[k]? =some (h,.m es)) (hok:A.jt ek key=true) (he:A.upd ek key v es=some es'):∃σ',A.eA ek h key v σ=some σ'∧Hp aC σ' (L.set k (h,.m es')):=by
 obtain⟨id,h1,h2,h3⟩:=H.own k _ hk
 simp only at h1 h3
 subst h1
 have hid:=(List.getElem?_eq_some_iff.1 h3).1
 exact⟨σ.set id (.map es'),by simp [A.eA,hok,h3,he],ZD H hk rfl rfl ⟨id,rfl,h2,by simp [hid]⟩⟩
theorem aj7 (H:Hp aC σ L) {k:Nat} {h key:AV} {ek:A.EK} {es es':List (AV×AV)} (hk:L[k]? =some (h,.m es)) (hok:A.jt ek key=true) (he:A.del ek key es=some es'):∃σ',A.DM ek h key σ=some σ'∧Hp aC σ' (L.set k (h,.m es')):=by
 obtain⟨id,h1,h2,h3⟩:=H.own k _ hk
 simp only at h1 h3
 subst h1
 have hid:=(List.getElem?_eq_some_iff.1 h3).1
 exact⟨σ.set id (.map es'),by simp [A.DM,hok,h3,he],ZD H hk rfl rfl ⟨id,rfl,h2,by simp [hid]⟩⟩
theorem aj6 (H:Hp aC σ L) {k:Nat} {h key z:AV} {ek:A.EK} {es:List (AV×AV)} {r:Option AV} (hk:L[k]? =some (h,.m es)) (hok:A.jt ek key=true) (he:A.find ek key es=some r):A.look ek h key z σ=some (r.getD z):=by
 obtain⟨id,h1,h2,h3⟩:=H.own k _ hk
 simp only at h1 h3
 subst h1
 rw[By ek hok h3,he];rfl
def Tg (aC σ:Heap) (r r':AV):Prop:=(∀d,A.bw σ aC.length (d+1) r=some r')∧(σ=aC→r'=r)
theorem Zx {r:AV} (h:Fz r):Tg aC σ r r:=⟨fun d=>h σ _ (d+1),fun _=>rfl⟩
theorem iS {s1:Sh} {v1 w1:AV} {ss:List Sh} {vs ws:List AV} (h1:A.nn s1 v1=w1) (h2:A.bV ss vs=ws):A.bV (s1::ss) (v1::vs)=w1::ws:=by simp only[A.bV,h1,h2]
theorem FX:A.bV [] []=[]:=by simp [A.bV]
theorem qH {ss:List Sh} {vs ws:List AV} (h:A.bV ss vs=ws):A.nn (.a ss) (.agg vs)=.agg ws:=by simp only[A.nn,h]
theorem abf {ss:List Sh} {vs ws:List AV} (h:A.bV ss vs=ws):A.nn (.t ss) (.aG vs)=.aG ws:=by simp only[A.nn,h]
theorem L5 (d:Nat):∀{es:List (AV×AV)},(∀p∈es,Fz p.1∧Fz p.2)→A.BR σ n d es=some es
 |[],_=>by simp [A.BR]
 |(k,v)::es,h=>by
  have h1:=h (k,v) (by simp)
  simp only[A.BR,h1.1 σ n d,h1.2 σ n d,Option.bind_some,L5 d (es:=es) (fun p hp=>h p (by simp [hp])),Option.map_some]
theorem Zy (H:Hp aC σ L) {k:Nat} {h:AV} {es:List (AV×AV)} (hk:L[k]? =some (h,.m es)) (hc:∀p∈es,Fz p.1∧Fz p.2):Tg aC σ h (.fm es):=by
 obtain⟨id,h1,h2,h3⟩:=H.own k _ hk
 simp only at h1 h3
 subst h1
 refine⟨fun d=>?_,fun e=>?_⟩
 ·simp only[A.bw,Nat.not_lt.2 h2,if_false,h3,L5 d hc,Option.map_some]
 ·subst e
  have:=(List.getElem?_eq_some_iff.1 h3).1
  omega
theorem Mo (H:Hp aC σ L) {r r':AV} (h:Tg aC σ r r'):A.fin aC r σ=some (r',aC):=by
 obtain⟨bs,hb⟩:=H.pre
 subst hb
 by_cases sv:bs=[]
 ·subst sv
  rw[List.append_nil]at h ⊢
  rw[bC,h.2 rfl]
 ·unfold A.fin
  rw[if_neg (by simpa using sv),if_pos (by simp),h.1 7];rfl
end
section
variable {κ ν : Type} [DecidableEq κ]
def cH (k:κ):List (κ×ν)→Option ν
 |[]=>none
 |(k',v)::r=>if k=k' then some v else cH k r
def dB (k:κ) (v:ν):List (κ×ν)→List (κ×ν)
 |[]=>[(k,v)]
 |(k',v')::r=>if k=k' then(k,v)::r else(k',v')::dB k v r
def pJ (k:κ):List (κ×ν)→List (κ×ν)
 |[]=>[]
 |(k',v')::r=>if k=k' then r else(k',v')::pJ k r
variable {ek : A.EK} {eK : κ → AV} {eV : ν → AV} (hq : ∀ a b, A.ef ek (eK a) (eK b) = some (decide (a = b)))
include hq
theorem BG (k:κ):∀l:List (κ×ν),A.find ek (eK k) (l.map fun p=>(eK p.1,eV p.2))=some ((cH k l).map eV)
 |[]=>rfl
 |(k',v)::r=>by
  simp only[List.map_cons,A.find,hq,Option.bind_some,cH]
  by_cases h:k=k'
  ·simp [h]
  ·simp [h,BG k r]
theorem Dp (k:κ) (v:ν):∀l:List (κ×ν),A.upd ek (eK k) (eV v) (l.map fun p=>(eK p.1,eV p.2))=some ((dB k v l).map fun p=>(eK p.1,eV p.2))
 |[]=>rfl
 |(k',v')::r=>by
  simp only[List.map_cons,A.upd,hq,Option.bind_some,dB]
  by_cases h:k=k'
  ·simp [h]
  ·simp [h,Dp k v r]
theorem aao (k:κ):∀l:List (κ×ν),A.del ek (eK k) (l.map fun p=>(eK p.1,eV p.2))=some ((pJ k l).map fun p=>(eK p.1,eV p.2))
 |[]=>rfl
 |(k',v')::r=>by
  simp only[List.map_cons,A.del,hq,Option.bind_some,pJ]
  by_cases h:k=k'
  ·simp [h]
  ·simp [h,aao k r]
end
theorem YB (a b:ByteArray):A.ef .z (.str a) (.str b)=some (decide (a=b)):=by
 simp only[A.ef,A.oD,bq]
theorem getD_map {α:Type} (o:Option α) (f:α→AV) (d:α):(o.map f).getD (f d)=f (o.getD d):=by cases o<;>rfl
theorem isSome_map {α:Type} (o:Option α) (f:α→AV):(o.map f).isSome=o.isSome:=by cases o<;>rfl
def uv {κ ν:Type} (eK:κ→AV) (eV:ν→AV) (l:List (κ×ν)):AV:=.fm (l.map fun p=>(eK p.1,eV p.2))
section
variable {κ ν : Type} [DecidableEq κ] {ek : A.EK} {eK : κ → AV} {eV : ν → AV} {aC σ : Heap} {L : List (AV × Ct)} {h : AV} {l : List (κ × ν)}
theorem QG (H:Hp aC σ L) (k:Nat) (hk:L[k]? =some (h,.m (l.map fun p=>(eK p.1,eV p.2)))) (hq:∀a b,A.ef ek (eK a) (eK b)=some (decide (a=b))) (x:κ) (v:ν) (hok:A.jt ek (eK x)=true):∃σ',A.eA ek h (eK x) (eV v) σ=some σ'∧Hp aC σ' (L.set k (h,.m ((dB x v l).map fun p=>(eK p.1,eV p.2)))):=aj8 H hk hok (Dp hq x v l)
theorem aj5 (H:Hp aC σ L) (k:Nat) (hk:L[k]? =some (h,.m (l.map fun p=>(eK p.1,eV p.2)))) (hq:∀a b,A.ef ek (eK a) (eK b)=some (decide (a=b))) (x:κ) (hok:A.jt ek (eK x)=true):∃σ',A.DM ek h (eK x) σ=some σ'∧Hp aC σ' (L.set k (h,.m ((pJ x l).map fun p=>(eK p.1,eV p.2)))):=aj7 H hk hok (aao hq x l)
theorem aiC (H:Hp aC σ L) (k:Nat) (hk:L[k]? =some (h,.m (l.map fun p=>(eK p.1,eV p.2)))) (hq:∀a b,A.ef ek (eK a) (eK b)=some (decide (a=b))) (x:κ) (z:ν) (hok:A.jt ek (eK x)=true):A.look ek h (eK x) (eV z) σ=some (eV ((cH x l).getD z)):=by
 rw[aj6 H hk hok (BG hq x l),getD_map]
theorem aiw (hq:∀a b,A.ef ek (eK a) (eK b)=some (decide (a=b))) (x:κ) (z:ν) (hok:A.jt ek (eK x)=true):A.look ek (uv eK eV l) (eK x) (eV z) σ=some (eV ((cH x l).getD z)):=by
 simp only[A.look,uv,hok,cond_true,A.entries,Option.bind_some,BG hq,Option.map_some,getD_map]
end
section
variable {α : Type} {c : α → List AV} {l ys : List α} {aC σ : Heap} {L : List (AV × Ct)} {h : AV} {sz : Nat}
end
end
section
def iE {α:Type} (f:Nat→α→Int):List α→Nat→Int
 |[],_=>0
 |x::l,i=>if f i x=0 then iE f l (i+1)else f i x
section
variable {α β γ S B R : Type}
theorem zk {f:Nat→α→Int}:∀(l:List α) (i:Nat),iE f l i=0↔∀j x,l[j]? =some x→f (i+j) x=0
 |[],i=>by simp [iE]
 |y::l,i=>by
  rw[iE]
  by_cases h:f i y=0
  ·rw[if_pos h,zk l (i+1)]
   constructor
   ·intro k j x hx
    cases j with
    |zero=>simp at hx;subst hx;exact h
    |succ j=>have:=k j x (by simpa using hx);rwa[show i+1+j=i+(j+1) by omega]at this
   ·intro k j x hx
    have:=k (j+1) x (by simpa using hx)
    rwa[show i+(j+1)=i+1+j by omega]at this
  ·rw[if_neg h]
   exact⟨fun e=>absurd e h,fun k=>absurd (k 0 y rfl) h⟩
theorem HG {l:List α} {body:Nat→α→S→Option (Lr S B R)} {fin:S→Option B} {s:S} {K1:B→Option γ} {K2:R→Option γ} (hl:l.length≤aW):kX l body fin s K1 K2=(mz body fin l 0 s).bind fun q=>q.elim K1 K2:=if_pos hl
theorem Br {f:Nat→α→Int} {l:List α} {body:Nat→α→Unit→Option (Lr Unit Unit Int)} {fin:Unit→Option Unit} {s:Unit} {K1:Unit→Option γ} {K2:Int→Option γ} (hl:l.length≤aW) (hb:∀i x,l[i]? =some x→body i x ()=some (if f i x=0 then .go ()else .ret (f i x))) (hf:fin ()=some ():=by rfl):kX l body fin s K1 K2=if iE f l 0=0 then K1 ()else K2 (iE f l 0):=by
 rw[HG hl]
 have key:∀(rest pre:List α),l=pre++rest→mz body fin rest pre.length ()=some (if iE f rest pre.length=0 then .inl ()else .inr (iE f rest pre.length)):=by
  intro rest
  induction rest with
  |nil=>intro pre _;simp [mz,hf,iE]
  |cons x rest ih=>
   intro pre hp
   rw[mz,hb pre.length x (by rw[hp];simp),Option.bind_some,iE]
   by_cases h:f pre.length x=0
   ·simp only[h,if_true]
    have:=ih (pre++[x]) (by simpa using hp)
    simpa using this
   ·simp only[h,if_false]
 have k:=key l [] rfl
 rw[List.length_nil]at k
 rw[show s=()from rfl,k,Option.bind_some]
 split<;>rfl
theorem FE {p:Prop} [Decidable p] {k f:Int} {Y:Option (Lr Unit Unit Int)} (hk:k≠0) (h:Y=some (if f=0 then .go ()else .ret f)):(if p then some (.ret k)else Y)=some (if(if p then k else f)=0 then .go ()else .ret (if p then k else f)):=by
 by_cases hp:p
 ·simp [hp,hk]
 ·simp [hp,h]
theorem go_ret:(some (.go ()):Option (Lr Unit Unit Int))=some (if(0:Int)=0 then .go ()else .ret 0):=rfl
theorem XF (k:Int):(if k=0 then some (.go ())else some (.ret k):Option (Lr Unit Unit Int))=some (if k=0 then .go ()else .ret k):=by split<;>rfl
theorem WH {p:α→Bool} {l:List α} {body:Nat→α→Unit→Option (Lr Unit Unit R)} {r:α→R} {fin:Unit→Option Unit} {s:Unit} {K1:Unit→Option γ} {K2:R→Option γ} (hl:l.length≤aW) (hb:∀i x,l[i]? =some x→body i x ()=some (if p x=true then .ret (r x)else .go ())) (hf:fin ()=some ():=by rfl):kX l body fin s K1 K2=match l.find? p with|some x=>K2 (r x)|none=>K1 ():=by
 rw[HG hl]
 have key:∀(rest pre:List α),l=pre++rest→mz body fin rest pre.length ()=some (match rest.find? p with|some x=>.inr (r x)|none=>.inl ()):=by
  intro rest
  induction rest with
  |nil=>intro pre _;simp [mz,hf]
  |cons x rest ih=>
   intro pre hp
   rw[mz,hb pre.length x (by rw[hp];simp),Option.bind_some,List.find?_cons]
   cases h:p x
   ·simp only[Bool.false_eq_true,if_false]
    have:=ih (pre++[x]) (by simpa using hp)
    simpa using this
   ·simp only[if_true]
 have k:=key l [] rfl
 rw[List.length_nil]at k
 rw[show s=()from rfl,k,Option.bind_some]
 cases l.find? p<;>rfl
theorem Lf {l:List α} {body:Nat→α→S→Option (Lr S B R)} {fin:S→Option B} {s:S} {K1:B→Option γ} {K2:R→Option γ} (g:S→α→S) (P:Nat→S→Prop) (hl:l.length≤aW) (h0:P 0 s) (hP:∀i x s,l[i]? =some x→P i s→P (i+1) (g s x)) (hb:∀i x s,l[i]? =some x→P i s→body i x s=some (.go (g s x))):kX l body fin s K1 K2=(fin (l.foldl g s)).bind K1:=by
 rw[HG hl]
 have key:∀(rest pre:List α) (s:S),l=pre++rest→P pre.length s→mz body fin rest pre.length s=(fin (rest.foldl g s)).map .inl:=by
  intro rest
  induction rest with
  |nil=>intro pre s _ _;simp [mz]
  |cons x rest ih=>
   intro pre s hp hq
   have hx:l[pre.length]? =some x:=by rw[hp];simp
   rw[mz,hb pre.length x s hx hq,Option.bind_some,List.foldl_cons]
   have:=ih (pre++[x]) (g s x) (by simpa using hp) (by simpa using hP _ _ _ hx hq)
   simpa using this
 have k:=key l [] s rfl h0
 rw[List.length_nil]at k
 rw[k]
 cases fin (l.foldl g s)<;>rfl
def pv [Inhabited α] (l:List α) (i:Nat):α:=if 0<i then l.getD (i-1) default else default
theorem QV {l:List α} {i:Int} {x:α} (h0:0≤i) (h:l[i.toNat]? =some x):uH l i=some x:=by rw[uH,if_pos h0,h]
theorem FG [Inhabited α] {l:List α} {i:Nat} {x:α} (h:l[i]? =some x) (hl:l.length≤aW):(if decide (0<(i:Int))=true then uH l (IntKind.i64.wrap ((i:Int) -1))else some default)=some (pv l i):=by
 have hi:=(List.getElem?_eq_some_iff.1 h).1
 unfold pv
 by_cases h0:0<i
 ·rw[if_pos (by simpa using h0),if_pos h0,wrap64 (by unfold aP;unfold aW at hl;omega)]
  refine QV (by omega) ?_
  have:((i:Int) -1).toNat=i-1:=by omega
  rw[this,List.getD,List.getElem?_eq_getElem (by omega)]
  rfl
 ·rw[if_neg (by simpa using h0),if_neg h0]
theorem Rl {a b:Int}:(([a,b]:List Int).find? fun n=>decide (¬n=0)).getD 0=if ¬(a=0)then a else b:=by
 by_cases ha:a=0
 ·by_cases hb:b=0<;>simp [ha,hb,List.find?]
 ·simp [ha,List.find?]
end
theorem LR (s:ByteArray):s.toList=s.data.toList:=ByteArray.toList_eq s
theorem Qz:∀(a b:List UInt8),Lib.compareBytes a b<0↔Op.bytesLess a b=true
 |[],[]=>by simp [Lib.compareBytes,Op.bytesLess]
 |[],_::_=>by simp [Lib.compareBytes,Op.bytesLess]
 |_::_,[]=>by simp [Lib.compareBytes,Op.bytesLess]
 |a::x,b::y=>by
  rw[Lib.compareBytes,Op.bytesLess]
  by_cases h1:a<b
  ·simp [h1]
  ·by_cases h2:b<a
   ·have:a≠b:=by rintro rfl;exact h1 h2
    simp [h1,h2,this]
   ·have:a=b:=UInt8.le_antisymm (UInt8.not_lt.1 h2) (UInt8.not_lt.1 h1)
    subst this
    simp [UInt8.lt_irrefl,Qz x y]
theorem Qy:∀(a b:List UInt8),Lib.compareBytes a b=0↔a=b
 |[],[]=>by simp [Lib.compareBytes]
 |[],_::_=>by simp [Lib.compareBytes]
 |_::_,[]=>by simp [Lib.compareBytes]
 |a::x,b::y=>by
  rw[Lib.compareBytes]
  by_cases h1:a<b
  ·have:a≠b:=by rintro rfl;exact UInt8.lt_irrefl _ h1
   simp [h1,this]
  ·by_cases h2:b<a
   ·have:a≠b:=by rintro rfl;exact UInt8.lt_irrefl _ h2
    simp [h1,h2,this]
   ·have:a=b:=UInt8.le_antisymm (UInt8.not_lt.1 h2) (UInt8.not_lt.1 h1)
    subst this
    simp [UInt8.lt_irrefl,Qy x y]
def fu (a b:aB):Bool:=decide (a.unit<b.unit)||(decide (a.unit=b.unit)&&Op.bytesLess a.param.toList b.param.toList)
def vq (a b:aB):Int:=if ¬(a.unit=b.unit)then(if a.unit<b.unit then -1 else 1)else Lib.compareBytes a.param.data.toList b.param.data.toList
theorem QA (a b:aB):vq a b<0↔fu a b=true:=by
 unfold vq fu
 by_cases h:a.unit=b.unit
 ·simp [h,LR,Qz]
 ·by_cases h2:a.unit<b.unit<;>simp [h,h2]
theorem ajD (a b:aB):decide (0≤vq a b)=!fu a b:=by
 have:=QA a b
 cases h:fu a b
 ·rw[h]at this;simp at this;simp [this]
 ·rw[h]at this;simp at this;simp [this]
theorem ajC (a b:aB):vq a b=0↔a=b:=by
 obtain⟨u,p⟩:=a
 obtain⟨v,q⟩:=b
 unfold vq
 by_cases h:u=v
 ·subst h
  simp only[not_true_eq_false,if_false,Qy,aB.mk.injEq,true_and]
  exact⟨fun e=>by obtain⟨⟨p⟩⟩:=p;obtain⟨⟨q⟩⟩:=q;simp at e;subst e;rfl,fun e=>by rw[e]⟩
 ·by_cases h2:u<v<;>simp [h,h2]
end
section
open Go.Sort
theorem Zm:∀a:List UInt8,Op.bytesLess a a=false
 |[]=>rfl
 |x::l=>by simp [Op.bytesLess,UInt8.lt_irrefl,Zm l]
theorem Xy:∀a b c:List UInt8,Op.bytesLess a b=true→Op.bytesLess b c=true→Op.bytesLess a c=true
 |[],[],c,h,_=>by simp [Op.bytesLess]at h
 |[],_::_,[],_,k=>by simp [Op.bytesLess]at k
 |[],_::_,_::_,_,_=>rfl
 |_::_,[],c,h,_=>by simp [Op.bytesLess]at h
 |_::_,_::_,[],_,k=>by simp [Op.bytesLess]at k
 |x::a,y::b,z::c,h,k=>by
  rw[Op.bytesLess]at h k ⊢
  simp only[Bool.or_eq_true,Bool.and_eq_true,decide_eq_true_eq,beq_iff_eq]at h k ⊢
  rcases h with h|⟨rfl,h⟩<;>rcases k with k|⟨rfl,k⟩
  ·exact .inl (UInt8.lt_trans h k)
  ·exact .inl h
  ·exact .inl k
  ·exact .inr ⟨rfl,Xy a b c h k⟩
theorem Bz (a:aB):fu a a=false:=by simp [fu,Zm]
theorem Fg {a b c:aB} (h:fu a b=true) (k:fu b c=true):fu a c=true:=by
 simp only[fu,Bool.or_eq_true,Bool.and_eq_true,decide_eq_true_eq]at h k ⊢
 rcases h with h|⟨h1,h2⟩<;>rcases k with k|⟨k1,k2⟩
 ·left;omega
 ·left;omega
 ·left;omega
 ·right;exact⟨by omega,Xy _ _ _ h2 k2⟩
theorem QK {a b:aB} (h:fu a b=false) (k:fu b a=false):a=b:=by
 rw[←ajC]
 have h1:¬vq a b<0:=fun e=>by rw[(QA a b).1 e]at h;cases h
 have hba:vq b a=-vq a b∨True:=.inr trivial
 -- what is neither smaller nor greater is the same
 unfold vq at h1 ⊢
 simp only[fu,Bool.or_eq_false_iff,Bool.and_eq_false_iff,decide_eq_false_iff_not]at h k
 have hu:a.unit=b.unit:=by omega
 simp only[hu,not_true_eq_false,if_false]at h1 ⊢
 have e1:Op.bytesLess a.param.data.toList b.param.data.toList=false:=by
  rcases h.2 with q|q
  ·exact absurd hu q
  ·simpa [LR]using q
 have e2:Op.bytesLess b.param.data.toList a.param.data.toList=false:=by
  rcases k.2 with q|q
  ·exact absurd hu.symm q
  ·simpa [LR]using q
 rw[Qy]
 have tri:∀x y:List UInt8,Op.bytesLess x y=false→Op.bytesLess y x=false→x=y:=by
  intro x
  induction x with
  |nil=>intro y p q;cases y with|nil=>rfl|cons y l=>simp [Op.bytesLess]at p
  |cons x xs ih=>
   intro y p q
   cases y with
   |nil=>simp [Op.bytesLess]at q
   |cons y ys=>
    rw[Op.bytesLess]at p q
    by_cases h1:x<y
    ·simp [h1]at p
    ·by_cases h2:y<x
     ·simp [h2]at q
     ·have:x=y:=UInt8.le_antisymm (UInt8.not_lt.1 h2) (UInt8.not_lt.1 h1)
      subst this
      simp [h1]at p q
      rw[ih ys p q]
 exact tri _ _ e1 e2
theorem Bp (a b:aB):qt a b<0↔fu a b=true:=QA a b
theorem FH {α:Type} (f:α→aB):SWO (fun x y=>decide (qt (f x) (f y)<0)):=by
 refine⟨fun x=>?_,fun x y z h k=>?_,fun x y z h k=>?_⟩
 ·exact decide_eq_false fun h=>by rw[Bp,Bz]at h;cases h
 ·have h:=(Bp _ _).1 (of_decide_eq_true h)
  have k:=(Bp _ _).1 (of_decide_eq_true k)
  exact decide_eq_true ((Bp _ _).2 (Fg h k))
 ·have h:fu (f x) (f y)=false:=by
   cases q:fu (f x) (f y)
   ·rfl
   ·exact absurd ((Bp _ _).2 q) (of_decide_eq_false h)
  have k:fu (f y) (f z)=false:=by
   cases q:fu (f y) (f z)
   ·rfl
   ·exact absurd ((Bp _ _).2 q) (of_decide_eq_false k)
  refine decide_eq_false fun q=>?_
  have q:=(Bp _ _).1 q
  cases e:fu (f y) (f x)
  ·have:=QK h e
   rw[this,k]at q;cases q
  ·have:=Fg e q
   rw[k]at this;cases this
theorem VO (x y:bh) (h:cM x=cM y):x=y:=by
 obtain⟨⟨a,b⟩,⟨p,q⟩,r⟩:=x
 obtain⟨⟨a',b'⟩,⟨p',q'⟩,r'⟩:=y
 simp [cM]at h
 obtain⟨rfl,rfl,rfl,rfl,rfl⟩:=h
 rfl
end
section
open Go.RowKit Go.Sort
set_option maxRecDepth 100000
theorem aeL {α:Type} [Inhabited α] {enc:α→List Value} {k:Nat} (hk:∀x,(enc x).length=k) {w:World} {b off n:Nat} {d d':Array α} {os:Array Obj} {arr:Array Value} {bt:TypeId} (hs:d'.size=d.size)
  (hb:w.heap[b]? =some (.cells arr bt (0,0))) (hfit:off+d.size*k≤arr.size):
  Below w.heap.size (w.dX b (.cells (gb arr off (d'.toList.flatMap enc)) bt (0,0))) (sortWorldK enc k w b off n d' os):=by
 have hlt:b<w.heap.size:=(Array.getElem?_eq_some_iff.1 hb).1
 have hfl:(d'.toList.flatMap enc).length=d'.size*k:=by
  have:∀l:List α,(l.flatMap enc).length=l.length*k:=by
   intro l
   induction l with
   |nil=>simp
   |cons x l ih=>simp [hk,ih,Nat.add_mul];omega
  rw[this,Array.length_toList]
 have jX:∀(l:List α) (t:Nat),t<l.length*k→(l.flatMap enc)[t]? =some ((enc l.toArray[t / k]!)[t % k]!):=by
  intro l
  induction l with
  |nil=>intro t ht;simp at ht
  |cons x l ih=>
   intro t ht
   have hk0:0<k:=Nat.pos_of_ne_zero fun e=>by subst e;simp at ht
   rw[List.flatMap_cons]
   by_cases h:t<k
   ·rw[List.getElem?_append_left (by rw[hk];exact h),Nat.div_eq_of_lt h,Nat.mod_eq_of_lt h]
    simp [hk,h]
   ·rw[List.getElem?_append_right (by rw[hk];omega),hk,ih (t-k) (by simp [Nat.add_mul]at ht;omega)]
    have e1:t / k=(t-k) / k+1:=by rw[Nat.div_eq_sub_div hk0 (by omega)]
    have e2:t % k=(t-k) % k:=by rw[Nat.mod_eq_sub_mod (by omega)]
    rw[e1,e2]
    simp
 have hcells:putCells id off (flatK enc k d') arr=gb arr off (d'.toList.flatMap enc):=by
  apply Array.ext_getElem?
  intro j
  rw[Db _ _ _ (by rw[hfl,hs];omega)]
  simp only[putCells,Array.getElem?_mapIdx,size_flatK]
  by_cases hj:off≤j∧j<off+d'.size*k
  ·rw[if_pos (by rw[hfl];exact hj)]
   have hja:j<arr.size:=by rw[hs]at hj;omega
   rw[Array.getElem?_eq_getElem hja,Option.map_some,if_pos hj]
   have:=jX d'.toList (j-off) (by rw[Array.length_toList];omega)
   rw[this]
   simp only[id]
   rw[get_flatK _ _ _ _ (by omega)]
  ·rw[if_neg (by rw[hfl];exact hj)]
   by_cases hja:j<arr.size
   ·rw[Array.getElem?_eq_getElem hja,Option.map_some,if_neg hj]
   ·rw[Array.getElem?_eq_none (by omega),Option.map_none]
 refine⟨rfl,rfl,rfl,?_,fun i hi=>?_⟩
 ·rw[zm]
  simp [sortWorldK,grow,putRowK,putRow,mapBlock,Sort.ahead]
 ·have hi':i<(putRowK enc k (Sort.ahead w n) b off d').heap.size:=by simp [putRowK,putRow,mapBlock,Sort.ahead];exact hi
  show(grow (putRowK enc k (Sort.ahead w n) b off d') os).heap[i]? =_
  unfold grow
  simp only
  rw[Array.getElem?_append_left hi']
  simp only[putRowK,putRow,mapBlock,Sort.ahead]
  rw[Array.getElem?_modify]
  by_cases h:b=i
  ·subst h
   rw[if_pos rfl,uL _ hlt,hb]
   simp only[Option.map_some,onCells,hcells]
  ·rw[if_neg h,xX _ h]
theorem agH {P:Program} {nm:List Nat} {f g:FuncId} {α:Type} [Inhabited α] {sz:Nat} {c:α→List AV} {enc:α→List Value} {cf:α→α→Int} (hsz:0<sz) (hinj:∀x y,c x=c y→x=y) (fR:∀x,(c x).length=sz)
  (Cm:∀cc x,aI cc (c x) (enc x)) (amv:∀cc x vs,aI cc (c x) vs→vs=enc x) (hone:∀x,∀v∈enc x,dK v=true)
  (hf:∀us w,(callFunc f us).run P w=.ok (.enter f us) w) (hnone:∀w,Calls P f #[.slice none 0 0,.func (.func g) #[] #[]] w fun e w'=>e=.returned (.tuple #[])∧Below w.heap.size w w')
  (amo:∀(blk off cap:Nat) (d:Array α) (w:World),HoldsK enc sz w blk off d→blk<w.heap.size→d.size<4611686018427387904→Calls P f #[.slice (some ⟨blk,off,none⟩) d.size cap,.func (.func g) #[] #[]] w fun e w'=>
   e=.returned (.tuple #[])∧∃n os,w'=sortWorldK enc sz w blk off n (pdq (fun x y=>decide (cf x y<0)) d 0 d.size (Lib.bitLen d.size) true true) os)
  (hsize:∀d:Array α,(pdq (fun x y=>decide (cf x y<0)) d 0 d.size (Lib.bitLen d.size) true true).size=d.size)
  {x:AV} {σ:Heap} {r:AV} {σ':Heap} (hm:A.Ib sz c cf x σ=some (r,σ')) {n:Nat} (hn:∀f,nm.getD f 0=n→f=g):mU P nm f [x,.fn n []] σ r σ':=by
 refine .inl ⟨f,hf,fun z vs e1 e2 hh ha=>?_⟩
 obtain⟨v,u,rfl,r1,r2⟩:=Rx ha
 simp only[ak]at r2
 obtain⟨f',us,rfl,k1,k2⟩:=r2
 have hf':f'=g:=hn f' (by rw[←e1];exact k1)
 have TM:us=#[]:=by simp only[aI]at k2;exact Array.toList_inj.1 k2
 subst hf' TM
 have hout:Out z z.w z.E:=⟨rfl,rfl,rfl,Nat.le_refl _,fun _ _ _=>rfl,fun i p hp=>.inr ⟨p,hp,rfl⟩,fun i p hp=>⟨p,hp,.inl rfl⟩,e2,fun p hp=>hh.lt hp⟩
 unfold A.Ib at hm
 cases x<;>simp only at hm<;>first|(cases hm;done)|skip
 case au=>
  simp only[Option.some.injEq,Prod.mk.injEq]at hm
  obtain⟨rfl,rfl⟩:=hm
  simp only[ak]at r1;subst r1
  refine(hnone z.w).mono ?_
  rintro e w' ⟨rfl,hb⟩
  exact⟨_,z.E,rfl,hout.grow hb,hh.mono (wj hb) rfl (fun p hp=>hb.block _ (hh.lt hp)),by simp [ak,aI]⟩
 case os=>
  rename_i id gg fO off len
  simp only[ak]at r1
  obtain⟨hg,p,k3,k4,qa,cap,rfl,hcap,rx⟩:=r1
  split at hm
  ·rename_i g' sz' es hs
   split at hm
   ·rename_i hc
    obtain⟨⟨c1,c2,c3,c4,c5,c6⟩,c7⟩:=hc
    subst c1;subst c2;subst c3
    simp only[Option.some.injEq,Prod.mk.injEq]at hm
    obtain⟨rfl,rfl⟩:=hm
    have hl:=Classical.choose_spec c7
    generalize Classical.choose c7=l at hl ⊢
    obtain⟨j1,j2,j3,j4,⟨arr,bt,j5,j6⟩,j7,j8,j9⟩:=hh.blk id p _ k3 hs
    obtain⟨q1,q2,q3⟩:=rx j1.symm
    have xG:qa=⟨p.b,p.base+off*p.sz,none⟩:=q2.resolve_left (by omega)
    have Cz:l.length=len:=by
     have:=congrArg List.length hl
     simp at this;omega
    have hmul:(off+len)*fO≤es.length*fO:=Nat.mul_le_mul_right _ c4
    rw[Nat.add_mul]at hmul
    have yZ:z.w.heap[p.b]? =some (.cells arr bt (0,0)):=j5
    have hlt:p.b<z.w.heap.size:=(Array.getElem?_eq_some_iff.1 yZ).1
    have an7:p.sz=fO:=q1
    have aln:HoldsK enc fO z.w p.b (p.base+off*fO) l.toArray:=by
     intro t ht
     simp only[size_flatK,List.size_toArray]at ht
     rw[get_flatK _ _ _ _ (by simpa using ht)]
     have qT:t / fO<l.length:=by rw[Nat.div_lt_iff_lt_mul hsz];exact ht
     have xF:es[off+t / fO]? =some (c l[t / fO]):=by
      have h1:((es.drop off).take len)[t / fO]? =(l.map c)[t / fO]? :=by rw[hl]
      rw[List.getElem?_take_of_lt (by omega),List.getElem?_drop,List.getElem?_map,List.getElem?_eq_getElem qT]at h1
      exact h1
     obtain⟨_,m2⟩:=bB.nth j8 xF
     obtain⟨vs,m3,m4,m5⟩:=m2.JH
     have m6:=amv _ _ _ m3
     subst m6
     have hmod:t % fO<(enc l[t / fO]).length:=by rw[←(Cm (ctx z z.w z.E cN) _).length,fR];exact Nat.mod_lt _ hsz
     have m7:=m5 (t % fO) _ (List.getElem?_eq_getElem hmod)
     have e:p.base+(off+t / fO)*fO+t % fO=p.base+off*fO+t:=by
      have:=Nat.div_add_mod t fO
      rw[Nat.add_mul,Nat.mul_comm (t / fO)];omega
     rw[e]at m7
     refine⟨?_,by simp [World.frozen?,yZ]⟩
     rw[show z.w.cell? ⟨p.b,p.base+off*fO+t,none⟩=_ from m7]
     simp [qT,hmod]
    have DJ:=amo p.b (p.base+off*fO) cap l.toArray z.w aln hlt (by simpa [Cz]using c6)
    rw[xG,an7]
    simp only[List.size_toArray,Cz]at DJ
    refine DJ.mono ?_
    rintro e w' ⟨rfl,nn,os,rfl⟩
    have hd':=hsize l.toArray
    simp only[List.size_toArray,Cz]at hd'
    generalize pV:pdq (fun x y=>decide (cf x y<0)) l.toArray 0 len (Lib.bitLen len) true true=d' at hd' ⊢
    have hsw:=aeL (enc:=enc) (k:=fO) (fun x=>by rw[←(Cm (ctx z z.w z.E cN) x).length,fR]) (w:=z.w) (b:=p.b) (off:=p.base+off*fO) (n:=nn) (d:=l.toArray) (d':=d') (os:=os) (by rw[hd'];simp [Cz]) yZ (by simp [Cz];rw[j6];omega)
    have aoc:St ⟨P,nm,fun _ _ _=>none,fun _ _ _=>none,[],[],0,[]⟩ z ⟨[],fun _=>none,σ⟩ {tmps:=#[],defers:=[]} z.w z.E cN:=
     ⟨rfl,rfl,fun i av hi=>by simp at hi,fun i cs hi=>by simp at hi,fun t p hp=>(by cases hp),fun i b hb=>(by cases hb),fun i j b hb=>(by cases hb),hh,rfl,hout,e1.symm⟩
    have hnl:(d'.toList.map c).length=len:=by rw[List.length_map,Array.length_toList,hd']
    obtain⟨_,hst⟩:=Lu aoc (i:=off) (ys:=d'.toList.map c) (news:=d'.toList.flatMap enc) k3 hs j5 (by rw[hnl];exact c4) (by
      generalize d'.toList=l'
      induction l' with
      |nil=>simp [aI]
      |cons x l' ih=>simp only[List.map_cons,List.flatten_cons,List.flatMap_cons];exact(Cm _ x).append ih)
     (fun x hx=>by obtain⟨y,_,hy⟩:=List.mem_flatMap.1 hx;exact hone y x hy) (fun y hy=>by obtain⟨x,_,rfl⟩:=List.mem_map.1 hy;exact fR x)
     (by
      have:∀l:List α,(l.flatMap enc).length=l.length*fO:=by
       intro l
       induction l with
       |nil=>simp
       |cons x l ih=>simp only[List.flatMap_cons,List.length_append,ih,←(Cm (ctx z z.w z.E cN) x).length,fR,List.length_cons,Nat.add_mul];omega
      rw[this,List.length_map])
    have wV:=hst.grow (w':=sortWorldK enc fO z.w p.b (p.base+off*fO) nn d' os) (by rw[zm];exact hsw)
    refine⟨_,z.E,rfl,wV.out,?_,by simp [ak,aI]⟩
    have hpd:tX cf l=d'.toList:=by unfold tX;rw[Cz,pV]
    rw[hnl]at wV
    rw[hpd]
    exact wV.heap
   ·cases hm
  ·cases hm
def wg (x:bh):List Value:=[.int .i64 x.key.unit,.string x.key.param,.int .i64 x.value.level,.int .i64 x.value.gj,.int .i64 x.bT]
theorem Qg {W:World} {o1 o2:Obj}:∃q os',(W.alloc o1).alloc o2=grow (W.drewN q) os':=⟨0,_,by rw[alloc_eq_grow,alloc_eq_grow,grow_grow];rfl⟩
theorem ahh {W:World} {o1 o2:Obj} {q:Nat} {os:Array Obj}:∃q' os',grow (((W.alloc o1).alloc o2).drewN q) os=grow (W.drewN q') os':=⟨q,_,by rw[alloc_eq_grow,alloc_eq_grow,grow_grow];show grow (grow (W.drewN q) _) os=_;rw[grow_grow]⟩
theorem ael (a b:aB) (W:World):Calls Tryz.prog 203 #[.agg #[.int .i64 a.unit,.string a.param],.agg #[.int .i64 b.unit,.string b.param]] W fun e w'=>e=.returned (.int .i64 (qt a b))∧∃q os',w'=grow (W.drewN q) os':=by
 have DJ:=fun(x y:ByteArray) W'=>Tryz.strings_Compare x y W'
 go_enter Tryz.func203,Tryz.ntmps203
 go_wp2_with (go_at_call 61;refine(DJ _ _ _).mono ?_;rintro e w' ⟨rfl,rfl⟩)
 ·go_ret
  have h1:a.unit≠b.unit:=by omega
  exact⟨by rw[qt,if_pos h1,if_pos (by omega)];rfl,Qg⟩
 ·go_ret
  have h1:a.unit≠b.unit:=by simpa using ‹(a.unit !=b.unit)=true›
  exact⟨by rw[qt,if_pos h1,if_neg (by omega)];rfl,Qg⟩
 ·go_ret
  have h1:a.unit=b.unit:=by first|simpa using ‹(a.unit !=b.unit)=false›|simpa using ‹¬(a.unit !=b.unit)=true›|omega
  exact⟨by rw[qt,if_neg (by simpa using h1)];rfl,Qg⟩
theorem ahK (cc:RC) (x:bh):aI cc (cM x) (wg x):=by
 obtain⟨⟨a,b⟩,⟨p,q⟩,r⟩:=x
 simp [cM,wg,aI,ak]
theorem agL (cc:RC) (x:bh) (vs:List Value) (e:aI cc (cM x) vs):vs=wg x:=by
 obtain⟨⟨a,b⟩,⟨p,q⟩,r⟩:=x
 simpa [cM,wg,aI,ak]using e
theorem WY (x:bh) (v:Value) (h:v∈wg x):dK v=true∧v.oneCell'=true:=by
 simp [wg]at h
 rcases h with rfl|rfl|rfl|rfl|rfl<;>exact⟨rfl,rfl⟩
theorem aiX {α:Type} [Inhabited α] {cf:α→α→Int} (hS:SWO (fun x y=>decide (cf x y<0))) (d:Array α):(pdq (fun x y=>decide (cf x y<0)) d 0 d.size (Lib.bitLen d.size) true true).size=d.size:=
 (pdq_sorts (fun x y=>decide (cf x y<0)) hS d 0 d.size (Lib.bitLen d.size) true true (Nat.zero_le _) (Nat.le_refl _) (Or.inl rfl)).1.1
theorem aec (a b:bh) (W:World):Calls Tryz.prog 202 #[.agg (wg a).toArray,.agg (wg b).toArray] W fun e w'=>e=.returned (.int .i64 (qt a.key b.key))∧∃q os',w'=grow (W.drewN q) os':=by
 have DJ:=fun W'=>ael a.key b.key W'
 unfold wg
 generalize qt a.key b.key=r at DJ ⊢
 go_enter Tryz.func202,Tryz.ntmps202
 go_wp2_with (go_at_call 203;refine(DJ _).mono ?_;rintro e w' ⟨rfl,q,os',rfl⟩)
 go_ret
 exact⟨rfl,ahh⟩
theorem abo:Sound Tryz.prog aF 201 GM:=by
 intro args σ r σ' h
 unfold GM A.cQ at h
 split at h
 ·rename_i x f aC
  simp only at h
  split at h
  ·have eg:∀args w,(callFunc 202 args).run Tryz.prog w=.ok (.enter 202 args) w:=Tryz.call202
   refine @agH Tryz.prog aF 201 202 bh ⟨⟨⟨0,⟨#[]⟩⟩,⟨0,0⟩,0⟩⟩ 5 cM wg (fun a b=>qt a.key b.key) (by decide) (fun x y e=>?_) (fun _=>rfl) (fun cc x=>?_) (fun cc x vs e=>?_) (fun x v hv=>?_) Tryz.call201 (fun w=>?_) (fun blk off cap d w hH hb hd=>?_) (fun d=>?_) _ _ _ _ h _ (fun f hf=>ZJ (by kernel_rfl) rfl hf)
   ·exact VO x y e
   ·exact ahK cc x
   ·exact agL cc x vs e
   ·exact(WY x v hv).1
   ·exact(AnyF.slices_SortFunc_none (P:=Tryz.prog) {Tryz.sort201 with} none 0 _ w).mono fun e w' ⟨h1,h2⟩=>⟨h1,h2▸Below.refl _ _⟩
   ·exact AnyQ.slices_SortFunc_eq Tryz.sort201 5 Tryz.isAgg221 Tryz.sizeOf221 wg (fun _=>rfl) (fun x v hv=>(WY x v hv).2) (fun a b=>qt a.key b.key) (FH fun e:bh=>e.key) 202 #[] blk off cap d w eg (fun _ _ _ _ x y=>aec x y _) hH hb hd
   ·exact aiX (FH fun e:bh=>e.key) d
  ·cases h
 ·cases h
end
section
set_option maxRecDepth 100000
theorem agz:Sound Tryz.prog aF 260 Pv:=q1 [] 35 (.s .n (.s (.s .n (.b (.l [2,7] [.exit 0,.ret] (.s .n (.s dI (.s (.b (.s .n (.s .n bz))) .n)))))) aU)) aD.nil Tryz.func260 Tryz.call260 (fun a0 σ=>by kernel_rfl) rfl rfl
theorem Pg:Sound Tryz.prog aF 240 E6:=q1 [] 20 (.s .n aU) (aD.cons agz aD.nil) Tryz.func240 Tryz.call240 (fun a0 σ=>by kernel_rfl) rfl rfl
theorem rA:Sound Tryz.prog aF 89 jE:=q3 [] 15 (.s .n aU) aD.nil Tryz.func89 Tryz.call89 (fun a0 a1 a2 σ=>by kernel_rfl) rfl rfl
theorem UC:Sound Tryz.prog aF 241 GS:=q1 [] 5 (.s .n aU) (aD.cons rA aD.nil) Tryz.func241 Tryz.call241 (fun a0 σ=>by kernel_rfl) rfl rfl
theorem acE:Sound Tryz.prog aF 242 NU:=q1 [5] 63 (.s .n (.s bz (.s .n (.s (.s .n (.b (.l [2,12] [.exit 0,.ret] (.s .n (.s dI (.s (.b (.s .n (.s (.b (.s .n (.j aU (.s .n (.j aU (.s .n (.j aU bz))))))) .n))) .n)))))) aU)))) (aD.cons UC (aD.cons Pg aD.nil)) Tryz.func242 Tryz.call242 (fun a0 σ=>by kernel_rfl) rfl rfl
theorem acA:Sound Tryz.prog aF 198 NP:=q1 [1,6] 115 (.s .n (.s (.b (.s .n (.j aU (.s .n (.j aU (.s .n (.j aU bz))))))) (.s .n (.s (.s .n (.b (.l [1,2,33] [.exit 1,.ret] (.s .n (.s dI (.s (.b (.s .n (.s (.b (.s .n (.j aU (.s .n (.j aU (.s .n (.j aU (.s .n (.j aU bz))))))))) (.s (.s .n bz) (.s .n (.s .n (.c [1] .n .n))))))) .n)))))) aU)))) (aD.cons Pg (aD.cons rA (aD.cons UC (aD.cons acE aD.nil)))) Tryz.func198 Tryz.call198 (fun a0 σ=>by kernel_rfl) rfl rfl
theorem acz:Sound Tryz.prog aF 153 NO:=q1 [5] 30 (.s .n (.s bz (.s .n (.s (.s .n (.b (.l [2,13] [.exit 0,.ret] (.s .n (.s dI (.s (.b (.s .n (.s (.s .n bz) (.s bz .n)))) .n)))))) aU)))) (aD.cons acA aD.nil) Tryz.func153 Tryz.call153 (fun a0 σ=>by kernel_rfl) rfl rfl
noncomputable def abH (dyn:Nat→List AV→Heap→Option (AV×Heap)):Fx:=⟨Tryz.prog,aF,A.tab (fun _ _=>none) [],dyn,[],[],19,[]⟩
theorem abG (dyn:Nat→List AV→Heap→Option (AV×Heap)) (hd:∀f,Sound Tryz.prog aF f (dyn (aF.getD f 0))):Sound Tryz.prog aF 156 (A.wrap true [(.s 3)] .k (A.cQ (JZ dyn))):=
 Sound.wrap (Sound.pI (X:=abH dyn) (fn:=Tryz.f156) (bL:=(.s .n (.s (.s .n (.b (.l [4,8] [.exit 0,.ret] (.s .n (.s dI (.s (.b (.s .n bz)) .n)))))) aU))) .F trivial (dD.of rfl aD.nil (hd)) Tryz.func156 Tryz.call156 (fun a0 a1 σ=>by kernel_rfl)) _ _ _ rfl rfl
theorem abF (dyn:Nat→List AV→Heap→Option (AV×Heap)) (hd:∀f,Sound Tryz.prog aF f (dyn (aF.getD f 0))):Sound Tryz.prog aF 156 (JY dyn):=abG dyn hd
theorem Un:Sound Tryz.prog aF 157 GO:=q2 [2] 8 (.s .n aU) aD.nil Tryz.func157 Tryz.call157 (fun a0 a1 σ=>by kernel_rfl) rfl rfl
noncomputable def ac4:Fx:=⟨Tryz.prog,aF,A.tab (fun _ _=>none) [(156,JY (A.tab (fun _ _=>none) [(64,GO)]))],(A.tab (fun _ _=>none) [(64,GO)]),[4],[],17,[]⟩
theorem ac2:Sound Tryz.prog aF 99 (A.wrap true [(.s 3)] (.t [(.a Dr),.k]) (A.cQ (Km))):=
 Sound.wrap (Sound.pI (X:=ac4) (fn:=Tryz.f99) (bL:=(.s .n (.s .n (.s bz aU)))) .F trivial (dD.of rfl (aD.cons (abF _ (sL (jj.cons (oJ Un (by kernel_rfl) rfl) jj.nil))) aD.nil) (sL (jj.cons (oJ Un (by kernel_rfl) rfl) jj.nil))) Tryz.func99 Tryz.call99 (fun a0 a1 σ=>by kernel_rfl)) _ _ _ rfl rfl
theorem UD:Sound Tryz.prog aF 99 Ki:=ac2
theorem acF:Sound Tryz.prog aF 154 EM:=q3 [] 32 (.s .n (.s bz (.s (.s .n (.b (.l [6,7] [.exit 0,.ret] (.s (.s .n dI) (.s (.b bz) .n))))) aU))) aD.nil Tryz.func154 Tryz.call154 (fun a0 a1 a2 σ=>by kernel_rfl) rfl rfl
noncomputable def adS:Fx:=⟨Tryz.prog,aF,A.tab (fun _ _=>none) [],(fun _ _ _=>none),[4],[15],33,[]⟩
theorem adQ:Sound Tryz.prog aF 155 (A.wrap false [] .k (A.lp (G5))):=
 Sound.wrap (Sound.IJ (X:=adS) (fn:=Tryz.f155) (bL:=(.s .n (.s (.s .n (.c [4] .n .n)) (.s .n (.b (.l [4,6] [.exit 0] (.s (.s .n dI) (.s (.b .n) .n)))))))) .K trivial (dD.of rfl aD.nil (fun _=>Sound.none)) Tryz.func155 Tryz.call155 (fun a0 a1 a2 σ=>by kernel_rfl)) _ _ _ rfl rfl
theorem adM:Sound Tryz.prog aF 155 Kp:=adQ
theorem Uw:Sound Tryz.prog aF 98 Kb:=q1 [1,6,7] 91 (.s .n (.s (.s .n bz) (.s bz (.s .n (.s (.s .n (.b (.l [1,2,23] [.exit 0,.ret] (.s .n (.s dI (.s (.b (.s .n (.s bz (.s bz (.s .n (.s bz (.s bz (.s bz .n)))))))) .n)))))) aU))))) (aD.cons acz (aD.cons rA (aD.cons UD (aD.cons acF (aD.cons adM aD.nil))))) Tryz.func98 Tryz.call98 (fun a0 σ=>by kernel_rfl) rfl rfl
theorem Bn:Sound Tryz.prog aF 41 rC:=q2 [] 7 (.s .n (.s bz aU)) aD.nil Tryz.func41 Tryz.call41 (fun a0 a1 σ=>by kernel_rfl) rfl rfl
theorem E1:Sound Tryz.prog aF 40 ya:=q1 [] 15 (.s .n (.s (.s .n (.b (.l [2,7] [.exit 0,.ret] (.s .n (.s dI (.s (.b (.s .n bz)) .n)))))) aU)) aD.nil Tryz.func40 Tryz.call40 (fun a0 σ=>by kernel_rfl) rfl rfl
theorem OD:Sound Tryz.prog aF 38 EV:=q1 [1,7,8,11] 50 (.s .n (.s (.s .n bz) (.s .n (.s (.s .n (.b (.l [1,5,20] [.exit 0] (.s .n (.s dI (.s (.b (.s .n (.s .n (.s .n (.b (.l [1,5,7,35] [.exit 2] (.s .n (.s dI (.s (.b aU) .n))))))))) .n)))))) aU)))) (aD.cons Uw (aD.cons UD aD.nil)) Tryz.func38 Tryz.call38 (fun a0 σ=>by kernel_rfl) rfl rfl
theorem afs:Sound Tryz.prog aF 147 O3:=q1 [1,7] 24 (.s .n (.s .n (.s .n (.s (.s .n (.b (.l [16] [.exit 0] (.s .n (.s dI (.s (.b aU) .n)))))) aU)))) (aD.cons OD aD.nil) Tryz.func147 Tryz.call147 (fun a0 σ=>by kernel_rfl) rfl rfl
theorem Vi:Sound Tryz.prog aF 194 KC:=q1 [] 40 (.s .n (.s (.s .n (.b (.l [2,6] [.exit 0,.ret] (.s .n (.s dI (.s (.b (.s .n bz)) .n)))))) aU)) aD.nil Tryz.func194 Tryz.call194 (fun a0 σ=>by kernel_rfl) rfl rfl
theorem aeH:Sound Tryz.prog aF 148 OM:=q1 [] 9 (.s .n aU) (aD.cons Vi aD.nil) Tryz.func148 Tryz.call148 (fun a0 σ=>by kernel_rfl) rfl rfl
theorem UX:Sound Tryz.prog aF 149 Kr:=q1 [] 5 (.s .n aU) (aD.cons rA aD.nil) Tryz.func149 Tryz.call149 (fun a0 σ=>by kernel_rfl) rfl rfl
theorem ad9:Sound Tryz.prog aF 150 OE:=q2 [2,3] 21 (.s .n (.s bz aU)) (aD.cons UF aD.nil) Tryz.func150 Tryz.call150 (fun a0 a1 σ=>by kernel_rfl) rfl rfl
theorem Uu:Sound Tryz.prog aF 88 J9:=q2 [2,8,10] 97 (.s .n (.s (.s .n bz) (.s .n (.s (.s .n (.b (.l [4,26] [.exit 0,.ret] (.s .n (.s dI (.s (.b (.s .n (.s (.b (.s .n (.j aU (.s .n (.j aU (.s .n (.j aU bz))))))) (.s .n (.b (.l [4,8,63] [.exit 3,.ret] (.s .n (.s dI (.s (.b (.s .n (.b (.s .n (.j aU (.s .n (.j aU bz))))))) .n))))))))) .n)))))) aU)))) (aD.cons Uw (aD.cons Bn (aD.cons E1 (aD.cons afs (aD.cons rA (aD.cons aeH (aD.cons UX (aD.cons ad9 aD.nil)))))))) Tryz.func88 Tryz.call88 (fun a0 a1 σ=>by kernel_rfl) rfl rfl
theorem Vg:Sound Tryz.prog aF 195 Bk:=q1 [] 5 (.s .n aU) (aD.cons rA aD.nil) Tryz.func195 Tryz.call195 (fun a0 σ=>by kernel_rfl) rfl rfl
theorem Ux:Sound Tryz.prog aF 196 Kc:=q1 [1,5] 90 (.s .n (.s bz (.s .n (.s bz (.s bz (.s bz (.s (.s .n (.b (.l [2,28] [.exit 0,.ret] (.s .n (.s dI (.s (.b (.s .n bz)) .n)))))) (.s bz (.s (.s .n (.b (.l [2,6] [.exit 2,.ret] (.s (.s .n dI) (.s (.b bz) .n))))) aU))))))))) (aD.cons rA (aD.cons Bn aD.nil)) Tryz.func196 Tryz.call196 (fun a0 σ=>by kernel_rfl) rfl rfl
theorem U4:Sound Tryz.prog aF 203 Kv:=q2 [2,3] 20 (.s .n (.s (.s .n (.j (.s bz aU) .n)) aU)) (aD.cons UF aD.nil) Tryz.func203 Tryz.call203 (fun a0 a1 σ=>by kernel_rfl) rfl rfl
theorem ac7:Sound Tryz.prog aF 197 Od:=q1 [4] 99 (.s .n (.s (.s .n (.b (.l [2,7] [.exit 0,.ret] (.s .n (.s dI (.s (.b (.s .n (.b (.s .n (.j aU (.s .n (.j aU (.s .n (.j aU (.s .n (.j aU (.s .n (.j aU (.s .n (.j aU bz))))))))))))))) .n)))))) aU)) (aD.cons rA (aD.cons Pg (aD.cons Vg (aD.cons U4 aD.nil)))) Tryz.func197 Tryz.call197 (fun a0 σ=>by kernel_rfl) rfl rfl
theorem Wg:Sound Tryz.prog aF 151 Hq:=q1 [5] 101 (.s .n (.s bz (.s .n (.s (.s .n (.b (.l [2,3,13] [.exit 0,.ret] (.s .n (.s dI (.s (.b (.s .n (.s (.b (.s .n (.j aU (.s .n (.j aU (.s .n (.j aU bz))))))) (.s (.s .n bz) (.s bz (.s (.s .n bz) .n)))))) .n)))))) aU)))) (aD.cons rA (aD.cons Vi (aD.cons Vg (aD.cons Ux (aD.cons ac7 (aD.cons Bn aD.nil)))))) Tryz.func151 Tryz.call151 (fun a0 σ=>by kernel_rfl) rfl rfl
theorem Vh:Sound Tryz.prog aF 152 CU:=q3 [4,5,9,11] 55 (.s .n (.s bz (.s bz (.s bz (.s (.s .n (.b (.l [4,5,6,7,31] [.exit 0,.ret] (.s .n (.s dI (.s (.b (.s .n (.s (.s .n dI) (.s (.s .n (.b (.l [4,6,7,43] [.exit 2,.ret] (.s .n (.s dI (.s (.b (.s .n bz)) .n)))))) .n)))) .n)))))) aU))))) (aD.cons UX aD.nil) Tryz.func152 Tryz.call152 (fun a0 a1 a2 σ=>by kernel_rfl) rfl rfl
theorem adq:Sound Tryz.prog aF 90 Oj:=q3 [3,12,14,16] 76 (.s .n (.s (.s .n bz) (.s .n (.s .n (.s (.s .n (.b (.l [37] [.exit 0] (.s .n (.s dI (.s (.b aU) .n)))))) (.s (.s .n (.b (.l [6,46] [.exit 2,.ret] (.s .n (.s dI (.s (.b (.s .n (.s .n (.b (.l [6,53] [.exit 4,.ret] (.s .n (.s dI (.s (.b (.s .n (.s bz (.s .n bz)))) .n)))))))) .n)))))) aU)))))) (aD.cons Uu (aD.cons Wg (aD.cons E1 (aD.cons OD (aD.cons Vh aD.nil))))) Tryz.func90 Tryz.call90 (fun a0 a1 a2 σ=>by kernel_rfl) rfl rfl
noncomputable def abT (dyn:Nat→List AV→Heap→Option (AV×Heap)):Fx:=⟨Tryz.prog,aF,A.tab (fun _ _=>none) [],dyn,[],[],19,[]⟩
theorem abQ (dyn:Nat→List AV→Heap→Option (AV×Heap)) (hd:∀f,Sound Tryz.prog aF f (dyn (aF.getD f 0))):Sound Tryz.prog aF 100 (A.wrap true [(.s 2)] .k (A.cQ (J5 dyn))):=
 Sound.wrap (Sound.pI (X:=abT dyn) (fn:=Tryz.f100) (bL:=(.s .n (.s (.s .n (.b (.l [4,8] [.exit 0,.ret] (.s .n (.s dI (.s (.b (.s .n bz)) .n)))))) aU))) .F trivial (dD.of rfl aD.nil (hd)) Tryz.func100 Tryz.call100 (fun a0 a1 σ=>by kernel_rfl)) _ _ _ rfl rfl
theorem abN (dyn:Nat→List AV→Heap→Option (AV×Heap)) (hd:∀f,Sound Tryz.prog aF f (dyn (aF.getD f 0))):Sound Tryz.prog aF 100 (J4 dyn):=abQ dyn hd
theorem UQ:Sound Tryz.prog aF 101 GY:=q2 [2] 8 (.s .n aU) aD.nil Tryz.func101 Tryz.call101 (fun a0 a1 σ=>by kernel_rfl) rfl rfl
noncomputable def afC:Fx:=⟨Tryz.prog,aF,A.tab (fun _ _=>none) [(100,J4 (A.tab (fun _ _=>none) [(127,GY)]))],(A.tab (fun _ _=>none) [(127,GY)]),[2,4],[],19,[]⟩
theorem afz:Sound Tryz.prog aF 39 (A.wrap true [yL] (.t [(.a [.k,(.e 11 uh)]),.k]) (A.cQ (KQ))):=
 Sound.wrap (Sound.pI (X:=afC) (fn:=Tryz.f39) (bL:=(.s .n (.s .n (.s bz aU)))) .F trivial (dD.of rfl (aD.cons (abN _ (sL (jj.cons (oJ UQ (by kernel_rfl) rfl) jj.nil))) aD.nil) (sL (jj.cons (oJ UQ (by kernel_rfl) rfl) jj.nil))) Tryz.func39 Tryz.call39 (fun a0 a1 σ=>by kernel_rfl)) _ _ _ rfl rfl
theorem VG:Sound Tryz.prog aF 39 Bm:=afz
theorem ac0:Sound Tryz.prog aF 36 Kk:=q1 [1,5,8,9] 107 (.s .n (.s (.s .n bz) (.s (.s .n (.b (.l [1,2,29] [.exit 0,.ret] (.s .n (.s dI (.s (.b (.s .n (.s bz (.s bz (.s .n bz))))) .n)))))) (.s bz (.s (.s .n (.b (.l [1,2,70] [.exit 2,.ret] (.s .n (.s dI (.s (.b (.s .n (.s bz (.s bz (.s (.s .n bz) bz))))) .n)))))) aU))))) (aD.cons Uu (aD.cons Bn (aD.cons E1 (aD.cons rA (aD.cons adq (aD.cons VG aD.nil)))))) Tryz.func36 Tryz.call36 (fun a0 σ=>by kernel_rfl) rfl rfl
noncomputable def abS:Fx:=⟨Tryz.prog,aF,A.tab (fun _ _=>none) [],(fun _ _ _=>none),[],[],8,[]⟩
theorem abP:Sound Tryz.prog aF 91 (A.wrap true [(.s 3)] .k (A.cK (ND))):=
 Sound.wrap (Sound.tY (X:=abS) (fn:=Tryz.f91) (bL:=(.s .n (.s bz aU))) .K trivial (dD.of rfl aD.nil (fun _=>Sound.none)) Tryz.func91 Tryz.call91 (fun a0 σ=>by kernel_rfl)) _ _ _ rfl rfl
theorem abM:Sound Tryz.prog aF 91 NC:=yc abP Tryz.call91 aeR
noncomputable def acw:Fx:=⟨Tryz.prog,aF,A.tab (fun _ _=>none) [],(fun _ _ _=>none),[],[],8,[]⟩
theorem acu:Sound Tryz.prog aF 92 (A.wrap true [(.s 4)] .k (A.cK (NN))):=
 Sound.wrap (Sound.tY (X:=acw) (fn:=Tryz.f92) (bL:=(.s .n (.s bz aU))) .K trivial (dD.of rfl aD.nil (fun _=>Sound.none)) Tryz.func92 Tryz.call92 (fun a0 σ=>by kernel_rfl)) _ _ _ rfl rfl
theorem acr:Sound Tryz.prog aF 92 NL:=yc acu Tryz.call92 ajJ
noncomputable def acn:Fx:=⟨Tryz.prog,aF,A.tab (fun _ _=>none) [],(fun _ _ _=>none),[],[],8,[]⟩
theorem aci:Sound Tryz.prog aF 93 (A.wrap true [(.s 7)] .k (A.cK (Uk))):=
 Sound.wrap (Sound.tY (X:=acn) (fn:=Tryz.f93) (bL:=(.s .n (.s bz aU))) .K trivial (dD.of rfl aD.nil (fun _=>Sound.none)) Tryz.func93 Tryz.call93 (fun a0 σ=>by kernel_rfl)) _ _ _ rfl rfl
theorem ace:Sound Tryz.prog aF 93 EL:=yc aci Tryz.call93 aie
noncomputable def acp:Fx:=⟨Tryz.prog,aF,A.tab (fun _ _=>none) [],(fun _ _ _=>none),[],[],8,[]⟩
theorem ack:Sound Tryz.prog aF 94 (A.wrap true [(.s 3)] .k (A.cK (NK))):=
 Sound.wrap (Sound.tY (X:=acp) (fn:=Tryz.f94) (bL:=(.s .n (.s bz aU))) .K trivial (dD.of rfl aD.nil (fun _=>Sound.none)) Tryz.func94 Tryz.call94 (fun a0 σ=>by kernel_rfl)) _ _ _ rfl rfl
theorem acg:Sound Tryz.prog aF 94 CG:=yc ack Tryz.call94 aih
noncomputable def ab0:Fx:=⟨Tryz.prog,aF,A.tab (fun _ _=>none) [],(fun _ _ _=>none),[],[],8,[]⟩
theorem abY:Sound Tryz.prog aF 95 (A.wrap true [(.s 3)] .k (A.cK (NF))):=
 Sound.wrap (Sound.tY (X:=ab0) (fn:=Tryz.f95) (bL:=(.s .n (.s bz aU))) .K trivial (dD.of rfl aD.nil (fun _=>Sound.none)) Tryz.func95 Tryz.call95 (fun a0 σ=>by kernel_rfl)) _ _ _ rfl rfl
theorem abV:Sound Tryz.prog aF 95 EH:=yc abY Tryz.call95 afO
noncomputable def acD:Fx:=⟨Tryz.prog,aF,A.tab (fun _ _=>none) [],(fun _ _ _=>none),[],[],8,[]⟩
theorem acC:Sound Tryz.prog aF 96 (A.wrap true [(.s 11)] .k (A.cK (Ul))):=
 Sound.wrap (Sound.tY (X:=acD) (fn:=Tryz.f96) (bL:=(.s .n (.s bz aU))) .K trivial (dD.of rfl aD.nil (fun _=>Sound.none)) Tryz.func96 Tryz.call96 (fun a0 σ=>by kernel_rfl)) _ _ _ rfl rfl
theorem acB:Sound Tryz.prog aF 96 CI:=yc acC Tryz.call96 ald
noncomputable def acv:Fx:=⟨Tryz.prog,aF,A.tab (fun _ _=>none) [],(fun _ _ _=>none),[],[],8,[]⟩
theorem acs:Sound Tryz.prog aF 97 (A.wrap true [(.s 8)] .k (A.cK (NM))):=
 Sound.wrap (Sound.tY (X:=acv) (fn:=Tryz.f97) (bL:=(.s .n (.s bz aU))) .K trivial (dD.of rfl aD.nil (fun _=>Sound.none)) Tryz.func97 Tryz.call97 (fun a0 σ=>by kernel_rfl)) _ _ _ rfl rfl
theorem acq:Sound Tryz.prog aF 97 CH:=yc acs Tryz.call97 ajI
end
end Go.Proofs.YtooknfkholjpbaaGreat
