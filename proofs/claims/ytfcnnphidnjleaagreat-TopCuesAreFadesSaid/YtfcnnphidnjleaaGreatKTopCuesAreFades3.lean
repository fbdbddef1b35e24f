/- Parts of the proof of TopCuesAreFades, in order. -/
import Derived.Orders
import Derived.Below
import Derived.WalkKit
import Derived.Laws.StructEq
import Derived.Laws.Append
import Derived.Laws.AppendOwn
import Derived.Test.YtfcnnphidnjleaaGreatRows
import Derived.KernelRfl
import Derived.Lib.Bytealg
import Derived.Sort.Defs
import Derived.Lib.BitFns
import Derived.Test.YtfcnnphidnjleaaGreatShelf
import Derived.Laws.Externs
import Derived.Lib.Overlaps
import Derived.IntWalk
import Derived.Sort.Statements
import Derived.Shelf.SlSortCmp.WholeK
import Derived.Shelf.SlSortCmp.NoneTotal
import Derived.Sort.AssemblyPlain
import Derived.Test.YtfcnnphidnjleaaGreatKTopCuesAreFades2
namespace Go.Proofs.YtfcnnphidnjleaaGreat
set_option linter.unusedVariables false
set_option linter.unusedSimpArgs false
set_option linter.unusedSectionVars false
section
set_option maxRecDepth 100000
noncomputable def KJ (dyn:Nat→List AV→Heap→Option (AV×Heap)) (a0 a1:AV) (σ:Heap):Option (AV×Heap):=
 (A.bK a0).bind fun x1=>
 (A.loop (fun v2 s3=>
   (A.lss (v2.getD 1 AV.undef) x1).bind fun x5=>
   A.cond x5 (
    (A.aW 3 a0 (v2.getD 1 AV.undef)).bind fun x6=>
    ((A.deref x6 s3).bind fun c7=>A.ay 0 3 c7).bind fun x8=>
    (A.fR dyn a1 [x8] s3).bind fun r9=>
    A.cond r9.1 (
     some (AX.ret,[(v2.getD 1 AV.undef),(v2.getD 1 AV.undef)],r9.2)) (
     (A.add (v2.getD 1 AV.undef) aH).bind fun bE=>
     some (AX.normal,[(v2.getD 0 AV.undef),bE],r9.2))) (
    some (AX.exit 0,[(v2.getD 0 AV.undef),(v2.getD 1 AV.undef)],s3))) [ah,ah] σ).bind fun cH=>
 bif cH.1==AX.exit 0 then(
  A.fin σ (AV.int .i64 (-1)) cH.2.2)else
 bif cH.1==AX.ret then(
  A.fin σ (cH.2.1.getD 0 AV.undef) cH.2.2)else
 none
noncomputable def KI (dyn:Nat→List AV→Heap→Option (AV×Heap)):List AV→Heap→Option (AV×Heap):=A.wrap true [(.s 3)] .k (A.bQ (KJ dyn))
noncomputable def KP (dyn:Nat→List AV→Heap→Option (AV×Heap)) (a0 a1:AV) (σ:Heap):Option (AV×Heap):=
 (A.bK a0).bind fun x1=>
 (A.loop (fun v2 s3=>
   (A.lss (v2.getD 1 AV.undef) x1).bind fun x5=>
   A.cond x5 (
    (A.aW 8 a0 (v2.getD 1 AV.undef)).bind fun x6=>
    ((A.deref x6 s3).bind fun c7=>A.ay 0 8 c7).bind fun x8=>
    (A.fR dyn a1 [x8] s3).bind fun r9=>
    A.cond r9.1 (
     some (AX.ret,[(v2.getD 1 AV.undef),(v2.getD 1 AV.undef)],r9.2)) (
     (A.add (v2.getD 1 AV.undef) aH).bind fun bE=>
     some (AX.normal,[(v2.getD 0 AV.undef),bE],r9.2))) (
    some (AX.exit 0,[(v2.getD 0 AV.undef),(v2.getD 1 AV.undef)],s3))) [ah,ah] σ).bind fun cH=>
 bif cH.1==AX.exit 0 then(
  A.fin σ (AV.int .i64 (-1)) cH.2.2)else
 bif cH.1==AX.ret then(
  A.fin σ (cH.2.1.getD 0 AV.undef) cH.2.2)else
 none
noncomputable def Hu (dyn:Nat→List AV→Heap→Option (AV×Heap)):List AV→Heap→Option (AV×Heap):=A.wrap true [(.s 8)] .k (A.bQ (KP dyn))
noncomputable def OA (a0:AV) (σ:Heap):Option (AV×Heap):=
 (A.tN a0 AV.aq).bind fun x1=>
 A.cond x1 (
  some (AV.aq,σ)) (
  (A.append 2 (140737488355328 / 16) AV.ez a0 σ).bind fun r2=>
  some (r2.1,r2.2))
noncomputable def Db:List AV→Heap→Option (AV×Heap):=A.ue (A.wrap true [(.s 2)] .k (A.dH OA))
noncomputable def OD (a0:AV) (σ:Heap):Option (AV×Heap):=
 (A.tN a0 AV.aq).bind fun x1=>
 A.cond x1 (
  some (AV.aq,σ)) (
  (A.append 8 (140737488355328 / 64) AV.ez a0 σ).bind fun r2=>
  some (r2.1,r2.2))
noncomputable def Dc:List AV→Heap→Option (AV×Heap):=A.ue (A.wrap true [(.s 8)] .k (A.dH OD))
noncomputable def Ff (dyn:Nat→List AV→Heap→Option (AV×Heap)) (a0 a1 a2:AV) (σ:Heap):Option (AV×Heap):=
 (A.bK a0).bind fun x1=>
 (A.loop (fun v2 s3=>
   (A.lss (v2.getD 0 AV.undef) (v2.getD 1 AV.undef)).bind fun x5=>
   A.cond x5 (
    (A.add (v2.getD 0 AV.undef) (v2.getD 1 AV.undef)).bind fun x6=>
    (A.conv .u64 x6).bind fun x7=>
    (A.shr x7 (AV.int .u64 1)).bind fun x8=>
    (A.conv .i64 x8).bind fun x9=>
    (A.aW 11 a0 x9).bind fun bE=>
    ((A.deref bE s3).bind fun fN=>A.ay 0 11 fN).bind fun ck=>
    (A.fR dyn a2 [ck,a1] s3).bind fun nK=>
    (A.lss nK.1 ah).bind fun cN=>
    (A.cond cN (
     (A.add x9 aH).bind fun cB=>
     some ([cB,(v2.getD 1 AV.undef)],nK.2)) (
     some ([(v2.getD 0 AV.undef),x9],nK.2))).bind fun pI=>
    some (AX.normal,[(pI.1.getD 0 AV.undef),(pI.1.getD 1 AV.undef)],pI.2)) (
    some (AX.exit 0,[(v2.getD 0 AV.undef),(v2.getD 1 AV.undef)],s3))) [ah,x1] σ).bind fun qw=>
 bif qw.1==AX.exit 0 then(
  (A.lss (qw.2.1.getD 0 AV.undef) x1).bind fun bF=>
  (A.guard bF true (some a2) an).bind fun bX=>
  (A.guard bF true (some a0) an).bind fun cR=>
  (A.guard bF true (some (qw.2.1.getD 0 AV.undef)) an).bind fun cr=>
  (A.guard bF true (A.aW 11 cR cr) an).bind fun cZ=>
  (A.guard bF true ((A.deref cZ qw.2.2).bind fun fk=>A.ay 0 11 fk) an).bind fun x24=>
  (A.guard bF true (some a1) an).bind fun x25=>
  (A.guard bF true (A.quiet (A.fR dyn bX [x24,x25] qw.2.2) qw.2.2) an).bind fun fK=>
  (A.guard bF true (A.eql .i fK ah) an).bind fun dL=>
  (A.pick bF dL aI).bind fun x28=>
  A.fin σ (AV.aF [(qw.2.1.getD 0 AV.undef),x28]) qw.2.2)else
 none
noncomputable def Fe (dyn:Nat→List AV→Heap→Option (AV×Heap)):List AV→Heap→Option (AV×Heap):=A.wrap true [(.s 11)] .k (A.ko (Ff dyn))
noncomputable def U9 (a0:AV) (σ:Heap):Option (AV×Heap):=
 (A.tN a0 AV.aq).bind fun x1=>
 A.cond x1 (
  some (AV.aq,σ)) (
  (A.append 11 (140737488355328 / 128) AV.ez a0 σ).bind fun r2=>
  some (r2.1,r2.2))
noncomputable def Dd:List AV→Heap→Option (AV×Heap):=A.ue (A.wrap true [(.s 11)] .k (A.dH U9))
noncomputable def KQ (dyn:Nat→List AV→Heap→Option (AV×Heap)) (a0 a1:AV) (σ:Heap):Option (AV×Heap):=
 (A.bK a0).bind fun x1=>
 (A.loop (fun v2 s3=>
   (A.lss (v2.getD 1 AV.undef) x1).bind fun x5=>
   A.cond x5 (
    (A.aW 11 a0 (v2.getD 1 AV.undef)).bind fun x6=>
    ((A.deref x6 s3).bind fun c7=>A.ay 0 11 c7).bind fun x8=>
    (A.fR dyn a1 [x8] s3).bind fun r9=>
    A.cond r9.1 (
     some (AX.ret,[(v2.getD 1 AV.undef),(v2.getD 1 AV.undef)],r9.2)) (
     (A.add (v2.getD 1 AV.undef) aH).bind fun bE=>
     some (AX.normal,[(v2.getD 0 AV.undef),bE],r9.2))) (
    some (AX.exit 0,[(v2.getD 0 AV.undef),(v2.getD 1 AV.undef)],s3))) [ah,ah] σ).bind fun cH=>
 bif cH.1==AX.exit 0 then(
  A.fin σ (AV.int .i64 (-1)) cH.2.2)else
 bif cH.1==AX.ret then(
  A.fin σ (cH.2.1.getD 0 AV.undef) cH.2.2)else
 none
noncomputable def Hv (dyn:Nat→List AV→Heap→Option (AV×Heap)):List AV→Heap→Option (AV×Heap):=A.wrap true [(.s 11)] .k (A.bQ (KQ dyn))
noncomputable def KO (dyn:Nat→List AV→Heap→Option (AV×Heap)) (a0 a1:AV) (σ:Heap):Option (AV×Heap):=
 (A.bK a0).bind fun x1=>
 (A.loop (fun v2 s3=>
   (A.lss (v2.getD 1 AV.undef) x1).bind fun x5=>
   A.cond x5 (
    (A.aW 2 a0 (v2.getD 1 AV.undef)).bind fun x6=>
    ((A.deref x6 s3).bind fun c7=>A.ay 0 2 c7).bind fun x8=>
    (A.fR dyn a1 [x8] s3).bind fun r9=>
    A.cond r9.1 (
     some (AX.ret,[(v2.getD 1 AV.undef),(v2.getD 1 AV.undef)],r9.2)) (
     (A.add (v2.getD 1 AV.undef) aH).bind fun bE=>
     some (AX.normal,[(v2.getD 0 AV.undef),bE],r9.2))) (
    some (AX.exit 0,[(v2.getD 0 AV.undef),(v2.getD 1 AV.undef)],s3))) [ah,ah] σ).bind fun cH=>
 bif cH.1==AX.exit 0 then(
  A.fin σ (AV.int .i64 (-1)) cH.2.2)else
 bif cH.1==AX.ret then(
  A.fin σ (cH.2.1.getD 0 AV.undef) cH.2.2)else
 none
noncomputable def KN (dyn:Nat→List AV→Heap→Option (AV×Heap)):List AV→Heap→Option (AV×Heap):=A.wrap true [(.s 2)] .k (A.bQ (KO dyn))
noncomputable def KH (dyn:Nat→List AV→Heap→Option (AV×Heap)) (a0 a1:AV) (σ:Heap):Option (AV×Heap):=
 (A.bK a0).bind fun x1=>
 (A.loop (fun v2 s3=>
   (A.lss (v2.getD 1 AV.undef) x1).bind fun x5=>
   A.cond x5 (
    (A.aW 3 a0 (v2.getD 1 AV.undef)).bind fun x6=>
    ((A.deref x6 s3).bind fun c7=>A.ay 0 3 c7).bind fun x8=>
    (A.fR dyn a1 [x8] s3).bind fun r9=>
    A.cond r9.1 (
     some (AX.ret,[(v2.getD 1 AV.undef),(v2.getD 1 AV.undef)],r9.2)) (
     (A.add (v2.getD 1 AV.undef) aH).bind fun bE=>
     some (AX.normal,[(v2.getD 0 AV.undef),bE],r9.2))) (
    some (AX.exit 0,[(v2.getD 0 AV.undef),(v2.getD 1 AV.undef)],s3))) [ah,ah] σ).bind fun cH=>
 bif cH.1==AX.exit 0 then(
  A.fin σ (AV.int .i64 (-1)) cH.2.2)else
 bif cH.1==AX.ret then(
  A.fin σ (cH.2.1.getD 0 AV.undef) cH.2.2)else
 none
noncomputable def KG (dyn:Nat→List AV→Heap→Option (AV×Heap)):List AV→Heap→Option (AV×Heap):=A.wrap true [(.s 3)] .k (A.bQ (KH dyn))
noncomputable def KF (dyn:Nat→List AV→Heap→Option (AV×Heap)) (a0 a1:AV) (σ:Heap):Option (AV×Heap):=
 (KG dyn [a0,a1] σ).bind fun r1=>
 (A.geq r1.1 ah).bind fun x2=>
 A.fin σ x2 r1.2
noncomputable def KE (dyn:Nat→List AV→Heap→Option (AV×Heap)):List AV→Heap→Option (AV×Heap):=A.wrap true [(.s 3)] .k (A.bQ (KF dyn))
noncomputable def Oy (a0:AV) (σ:Heap):Option (AV×Heap):=
 (A.tN a0 AV.aq).bind fun x1=>
 A.cond x1 (
  some (AV.aq,σ)) (
  (A.append 3 (140737488355328 / 24) AV.ez a0 σ).bind fun r2=>
  some (r2.1,r2.2))
noncomputable def Ox:List AV→Heap→Option (AV×Heap):=A.ue (A.wrap true [(.s 3)] .k (A.dH Oy))
noncomputable def OE (a0:AV) (σ:Heap):Option (AV×Heap):=
 (A.tN a0 AV.aq).bind fun x1=>
 A.cond x1 (
  some (AV.aq,σ)) (
  (A.append 4 (140737488355328 / 40) AV.ez a0 σ).bind fun r2=>
  some (r2.1,r2.2))
noncomputable def OB:List AV→Heap→Option (AV×Heap):=A.ue (A.wrap true [(.s 4)] .k (A.dH OE))
noncomputable def U6 (a0:AV) (σ:Heap):Option (AV×Heap):=
 (A.tN a0 AV.aq).bind fun x1=>
 A.cond x1 (
  some (AV.aq,σ)) (
  (A.append 7 (140737488355328 / 80) AV.ez a0 σ).bind fun r2=>
  some (r2.1,r2.2))
noncomputable def Fj:List AV→Heap→Option (AV×Heap):=A.ue (A.wrap true [(.s 7)] .k (A.dH U6))
noncomputable def KR (a0:AV) (σ:Heap):Option (AV×Heap):=
 (A.tN a0 AV.aq).bind fun x1=>
 A.cond x1 (
  some (AV.aq,σ)) (
  (A.append 3 (140737488355328 / 32) AV.ez a0 σ).bind fun r2=>
  some (r2.1,r2.2))
noncomputable def zU:List AV→Heap→Option (AV×Heap):=A.ue (A.wrap true [(.s 3)] .k (A.dH KR))
noncomputable def Oz (a0:AV) (σ:Heap):Option (AV×Heap):=
 (A.tN a0 AV.aq).bind fun x1=>
 A.cond x1 (
  some (AV.aq,σ)) (
  (A.append 3 (140737488355328 / 32) AV.ez a0 σ).bind fun r2=>
  some (r2.1,r2.2))
noncomputable def Fg:List AV→Heap→Option (AV×Heap):=A.ue (A.wrap true [(.s 3)] .k (A.dH Oz))
noncomputable def Fi (a0:AV) (σ:Heap):Option (AV×Heap):=
 (A.tN a0 AV.aq).bind fun x1=>
 A.cond x1 (
  some (AV.aq,σ)) (
  (A.append 10 (140737488355328 / 96) AV.ez a0 σ).bind fun r2=>
  some (r2.1,r2.2))
noncomputable def Fh:List AV→Heap→Option (AV×Heap):=A.ue (A.wrap false [] .k (A.dH Fi))
noncomputable def KK (dyn:Nat→List AV→Heap→Option (AV×Heap)) (a0 a1:AV) (σ:Heap):Option (AV×Heap):=
 (A.bK a0).bind fun x1=>
 (A.loop (fun v2 s3=>
   (A.lss (v2.getD 1 AV.undef) x1).bind fun x5=>
   A.cond x5 (
    (A.aW 10 a0 (v2.getD 1 AV.undef)).bind fun x6=>
    ((A.deref x6 s3).bind fun c7=>A.ay 0 10 c7).bind fun x8=>
    (A.fR dyn a1 [x8] s3).bind fun r9=>
    A.cond r9.1 (
     some (AX.ret,[(v2.getD 1 AV.undef),(v2.getD 1 AV.undef)],r9.2)) (
     (A.add (v2.getD 1 AV.undef) aH).bind fun bE=>
     some (AX.normal,[(v2.getD 0 AV.undef),bE],r9.2))) (
    some (AX.exit 0,[(v2.getD 0 AV.undef),(v2.getD 1 AV.undef)],s3))) [ah,ah] σ).bind fun cH=>
 bif cH.1==AX.exit 0 then(
  A.fin σ (AV.int .i64 (-1)) cH.2.2)else
 bif cH.1==AX.ret then(
  A.fin σ (cH.2.1.getD 0 AV.undef) cH.2.2)else
 none
noncomputable def Ht (dyn:Nat→List AV→Heap→Option (AV×Heap)):List AV→Heap→Option (AV×Heap):=A.wrap true [(.s 10)] .k (A.bQ (KK dyn))
noncomputable def Fc (dyn:Nat→List AV→Heap→Option (AV×Heap)) (a0 a1 a2:AV) (σ:Heap):Option (AV×Heap):=
 (A.bK a0).bind fun x1=>
 (A.loop (fun v2 s3=>
   (A.lss (v2.getD 0 AV.undef) (v2.getD 1 AV.undef)).bind fun x5=>
   A.cond x5 (
    (A.add (v2.getD 0 AV.undef) (v2.getD 1 AV.undef)).bind fun x6=>
    (A.conv .u64 x6).bind fun x7=>
    (A.shr x7 (AV.int .u64 1)).bind fun x8=>
    (A.conv .i64 x8).bind fun x9=>
    (A.aW 4 a0 x9).bind fun bE=>
    ((A.deref bE s3).bind fun fN=>A.ay 0 4 fN).bind fun ck=>
    (A.fR dyn a2 [ck,a1] s3).bind fun nK=>
    (A.lss nK.1 ah).bind fun cN=>
    (A.cond cN (
     (A.add x9 aH).bind fun cB=>
     some ([cB,(v2.getD 1 AV.undef)],nK.2)) (
     some ([(v2.getD 0 AV.undef),x9],nK.2))).bind fun pI=>
    some (AX.normal,[(pI.1.getD 0 AV.undef),(pI.1.getD 1 AV.undef)],pI.2)) (
    some (AX.exit 0,[(v2.getD 0 AV.undef),(v2.getD 1 AV.undef)],s3))) [ah,x1] σ).bind fun qw=>
 bif qw.1==AX.exit 0 then(
  (A.lss (qw.2.1.getD 0 AV.undef) x1).bind fun bF=>
  (A.guard bF true (some a2) an).bind fun bX=>
  (A.guard bF true (some a0) an).bind fun cR=>
  (A.guard bF true (some (qw.2.1.getD 0 AV.undef)) an).bind fun cr=>
  (A.guard bF true (A.aW 4 cR cr) an).bind fun cZ=>
  (A.guard bF true ((A.deref cZ qw.2.2).bind fun fk=>A.ay 0 4 fk) an).bind fun x24=>
  (A.guard bF true (some a1) an).bind fun x25=>
  (A.guard bF true (A.quiet (A.fR dyn bX [x24,x25] qw.2.2) qw.2.2) an).bind fun fK=>
  (A.guard bF true (A.eql .i fK ah) an).bind fun dL=>
  (A.pick bF dL aI).bind fun x28=>
  A.fin σ (AV.aF [(qw.2.1.getD 0 AV.undef),x28]) qw.2.2)else
 none
noncomputable def Fb (dyn:Nat→List AV→Heap→Option (AV×Heap)):List AV→Heap→Option (AV×Heap):=A.wrap true [(.s 4)] .k (A.ko (Fc dyn))
noncomputable def KM (dyn:Nat→List AV→Heap→Option (AV×Heap)) (a0 a1:AV) (σ:Heap):Option (AV×Heap):=
 (A.bK a0).bind fun x1=>
 (A.loop (fun v2 s3=>
   (A.lss (v2.getD 1 AV.undef) x1).bind fun x5=>
   A.cond x5 (
    (A.aW 7 a0 (v2.getD 1 AV.undef)).bind fun x6=>
    ((A.deref x6 s3).bind fun c7=>A.ay 0 7 c7).bind fun x8=>
    (A.fR dyn a1 [x8] s3).bind fun r9=>
    A.cond r9.1 (
     some (AX.ret,[(v2.getD 1 AV.undef),(v2.getD 1 AV.undef)],r9.2)) (
     (A.add (v2.getD 1 AV.undef) aH).bind fun bE=>
     some (AX.normal,[(v2.getD 0 AV.undef),bE],r9.2))) (
    some (AX.exit 0,[(v2.getD 0 AV.undef),(v2.getD 1 AV.undef)],s3))) [ah,ah] σ).bind fun cH=>
 bif cH.1==AX.exit 0 then(
  A.fin σ (AV.int .i64 (-1)) cH.2.2)else
 bif cH.1==AX.ret then(
  A.fin σ (cH.2.1.getD 0 AV.undef) cH.2.2)else
 none
noncomputable def KL (dyn:Nat→List AV→Heap→Option (AV×Heap)):List AV→Heap→Option (AV×Heap):=A.wrap true [(.s 7)] .k (A.bQ (KM dyn))
end
section
set_option maxRecDepth 100000
noncomputable def O3 (a0:AV) (σ:Heap):Option (AV×Heap):=
 (jG [a0,ah,(AV.int .i64 65535)] σ).bind fun r1=>
 A.fin σ r1.1 r1.2
noncomputable def HE:List AV→Heap→Option (AV×Heap):=A.wrap true [] .k (A.dH O3)
noncomputable def ON (a0:AV) (σ:Heap):Option (AV×Heap):=
 (A.bK a0).bind fun x1=>
 (A.gtr x1 (AV.int .i64 30)).bind fun x2=>
 A.cond x2 (
  A.fin σ (AV.int .i64 2) σ) (
  (A.bK a0).bind fun x3=>
  (A.loop (fun v4 s5=>
    (A.lss (v4.getD 1 AV.undef) x3).bind fun x7=>
    A.cond x7 (
     (A.aW 3 a0 (v4.getD 1 AV.undef)).bind fun x8=>
     ((A.deref x8 s5).bind fun c9=>A.ay 0 3 c9).bind fun bE=>
     (A.cells 3 bE).bind fun fN=>
     (A.splice 0 fN [ah,ah,bg]).bind fun dX=>
     (A.aj 0 dX).bind fun dh=>
     (HE [dh] s5).bind fun iL=>
     (A.not iL.1).bind fun dF=>
     (A.guard dF false (A.aj 1 dX) an).bind fun cB=>
     (A.guard dF false (A.quiet (HE [cB] iL.2) iL.2) an).bind fun cQ=>
     (A.guard dF false (A.not cQ) an).bind fun bF=>
     (A.pick dF cK bF).bind fun bX=>
     (A.guard bX false (A.aj 0 dX) an).bind fun cR=>
     (A.guard bX false (A.aj 1 dX) an).bind fun cr=>
     (A.guard bX false (A.gtr cR cr) an).bind fun cZ=>
     (A.pick bX cK cZ).bind fun eC=>
     A.cond eC (
      some (AX.ret,[aH,(v4.getD 1 AV.undef)],iL.2)) (
      (A.gtr (v4.getD 1 AV.undef) ah).bind fun x24=>
      (A.guard x24 true (A.aj 0 dX) an).bind fun x25=>
      (A.guard x24 true (some a0) an).bind fun fK=>
      (A.guard x24 true (some (v4.getD 1 AV.undef)) an).bind fun dL=>
      (A.guard x24 true (A.sub dL aH) an).bind fun x28=>
      (A.guard x24 true (A.aW 3 fK x28) an).bind fun x29=>
      (A.guard x24 true (A.aA 1 x29) an).bind fun cW=>
      (A.guard x24 true ((A.deref cW iL.2).bind fun ru=>A.aj 0 ru) an).bind fun x32=>
      (A.guard x24 true (A.leq x25 x32) an).bind fun ep=>
      (A.pick x24 ep aI).bind fun x34=>
      A.cond x34 (
       some (AX.ret,[(AV.int .i64 7),(v4.getD 1 AV.undef)],iL.2)) (
       (A.aj 2 dX).bind fun gy=>
       (FJ [gy] iL.2).bind fun Ki=>
       (A.not Ki.1).bind fun bR=>
       A.cond bR (
        some (AX.ret,[(AV.int .i64 5),(v4.getD 1 AV.undef)],Ki.2)) (
        (A.aj 2 dX).bind fun x38=>
        (A.look .z (AV.om σ.length) x38 aI Ki.2).bind fun fu=>
        A.cond fu (
         some (AX.ret,[(AV.int .i64 6),(v4.getD 1 AV.undef)],Ki.2)) (
         (A.aj 2 dX).bind fun dm=>
         (A.eA .z (AV.om σ.length) dm cK Ki.2).bind fun h41=>
         (A.add (v4.getD 1 AV.undef) aH).bind fun fP=>
         some (AX.normal,[(v4.getD 0 AV.undef),fP],h41)))))) (
     some (AX.exit 0,[(v4.getD 0 AV.undef),(v4.getD 1 AV.undef)],s5))) [ah,ah] (σ++[aK.map []])).bind fun iY=>
  bif iY.1==AX.exit 0 then(
   A.fin σ ah iY.2.2)else
  bif iY.1==AX.ret then(
   A.fin σ (iY.2.1.getD 0 AV.undef) iY.2.2)else
  none)
noncomputable def OM:List AV→Heap→Option (AV×Heap):=A.wrap true [(.s 3)] .k (A.dH ON)
noncomputable def OJ (a0:AV) (σ:Heap):Option (AV×Heap):=
 (A.cells 3 a0).bind fun c1=>
 (A.aj 0 c1).bind fun x2=>
 (FJ [x2] σ).bind fun r3=>
 (A.not r3.1).bind fun x4=>
 A.cond x4 (
  A.fin σ (AV.int .i64 5) r3.2) (
  (A.aj 1 c1).bind fun x5=>
  (jG [x5,aH,(AV.int .i64 512)] r3.2).bind fun r6=>
  (A.not r6.1).bind fun x7=>
  A.cond x7 (
   A.fin σ aH r6.2) (
   (A.aj 2 c1).bind fun x8=>
   (A.bK x8).bind fun x9=>
   (A.eql .i x9 ah).bind fun bE=>
   A.cond bE (
    A.fin σ (AV.int .i64 8) r6.2) (
    (A.aj 2 c1).bind fun cg=>
    (A.bK cg).bind fun ck=>
    (A.gtr ck (AV.int .i64 40)).bind fun dh=>
    A.cond dh (
     A.fin σ (AV.int .i64 2) r6.2) (
     (A.aj 2 c1).bind fun cN=>
     (A.bK cN).bind fun dF=>
     (A.loop (fun aZ lz=>
       (A.lss (aZ.getD 2 AV.undef) dF).bind fun bX=>
       A.cond bX (
        (A.aW 7 cN (aZ.getD 2 AV.undef)).bind fun cR=>
        ((A.deref cR lz).bind fun i7=>A.ay 0 7 i7).bind fun cZ=>
        (A.cells 7 cZ).bind fun fk=>
        (A.splice 0 fk [bg,ah,ah,ah,ah,aI,AV.aq]).bind fun iy=>
        (A.aj 0 iy).bind fun x25=>
        (FJ [x25] lz).bind fun kr=>
        (A.not kr.1).bind fun dL=>
        A.cond dL (
         some (AX.ret,[(aZ.getD 0 AV.undef),(AV.int .i64 5),(aZ.getD 2 AV.undef)],kr.2)) (
         (A.aj 0 iy).bind fun x28=>
         (A.look .z (AV.om r6.2.length) x28 aI kr.2).bind fun x29=>
         A.cond x29 (
          some (AX.ret,[(aZ.getD 0 AV.undef),(AV.int .i64 6),(aZ.getD 2 AV.undef)],kr.2)) (
          (A.aj 1 iy).bind fun cW=>
          (jG [cW,aH,(AV.int .i64 4)] kr.2).bind fun Ho=>
          (A.not Ho.1).bind fun x32=>
          A.cond x32 (
           some (AX.ret,[(aZ.getD 0 AV.undef),(AV.int .i64 4),(aZ.getD 2 AV.undef)],Ho.2)) (
           (A.aj 2 iy).bind fun ep=>
           ((A.lb (aZ.getD 0 AV.undef)).bind fun _=>some (1)).bind fun yh=>
           ((A.lb (aZ.getD 0 AV.undef)).bind fun gC=>A.aj yh gC).bind fun gX=>
           (jG [ep,aH,gX] Ho.2).bind fun mJ=>
           (A.not mJ.1).bind fun x38=>
           (A.guard x38 false (A.aj 3 iy) an).bind fun fu=>
           ((A.lb (aZ.getD 0 AV.undef)).bind fun _=>some (1)).bind fun p40=>
                      (A.guard x38 false ((A.lb (aZ.getD 0 AV.undef)).bind fun sI=>A.aj p40 sI) an).bind fun fP=>
           (A.guard x38 false (A.quiet (jG [fu,ah,fP] mJ.2) mJ.2) an).bind fun fL=>
           (A.guard x38 false (A.not fL) an).bind fun eO=>
           (A.pick x38 cK eO).bind fun dU=>
           (A.guard dU false (A.aj 4 iy) an).bind fun fM=>
           (A.guard dU false (A.quiet (HE [fM] mJ.2) mJ.2) an).bind fun iV=>
           (A.guard dU false (A.not iV) an).bind fun iC=>
           (A.pick dU cK iC).bind fun eP=>
           A.cond eP (
            some (AX.ret,[(aZ.getD 0 AV.undef),aH,(aZ.getD 2 AV.undef)],mJ.2)) (
            (A.aj 2 iy).bind fun lF=>
            (A.aj 3 iy).bind fun iN=>
            (A.eql .i lF iN).bind fun eD=>
            (A.guard eD false (some (AV.om (r6.2++[aK.map []]).length)) an).bind fun gP=>
            (A.guard eD false (A.aj 2 iy) an).bind fun gY=>
            (A.guard eD false (A.look .i gP gY aI mJ.2) an).bind fun lG=>
            (A.pick eD cK lG).bind fun gG=>
            (A.guard gG false (A.aj 3 iy) an).bind fun kC=>
            (A.guard gG false (A.gtr kC ah) an).bind fun gZ=>
            (A.guard gG false (some gZ) an).bind fun eW=>
            (A.guard eW true (some (AV.om (r6.2++[aK.map []]).length)) an).bind fun gz=>
            (A.guard eW true (A.aj 3 iy) an).bind fun jA=>
            (A.guard eW true (A.look .i gz jA aI mJ.2) an).bind fun eY=>
            (A.guard gG false (A.pick eW eY aI) an).bind fun eR=>
            (A.pick gG cK eR).bind fun mj=>
            A.cond mj (
             some (AX.ret,[(aZ.getD 0 AV.undef),(AV.int .i64 12),(aZ.getD 2 AV.undef)],mJ.2)) (
             (A.aj 6 iy).bind fun jf=>
             (OM [jf] mJ.2).bind fun Hq=>
             (A.neq .i Hq.1 ah).bind fun jX=>
             A.cond jX (
              some (AX.ret,[(aZ.getD 0 AV.undef),Hq.1,(aZ.getD 2 AV.undef)],Hq.2)) (
              (A.aj 0 iy).bind fun gI=>
              (A.aj 2 iy).bind fun fQ=>
              (A.eA .z (AV.om r6.2.length) gI cK Hq.2).bind fun h70=>
              (A.eA .i (AV.om (r6.2++[aK.map []]).length) fQ cK h70).bind fun N1=>
              (A.aj 3 iy).bind fun qy=>
              (A.gtr qy ah).bind fun hG=>
              (A.cond hG (
               (A.aj 3 iy).bind fun eu=>
               (A.eA .i (AV.om (r6.2++[aK.map []]).length) eu cK N1).bind fun h76=>
               some ([(aZ.getD 0 AV.undef)],h76)) (
               some ([(aZ.getD 0 AV.undef)],N1))).bind fun r74=>
              (A.add (aZ.getD 2 AV.undef) aH).bind fun vk=>
              some (AX.normal,[(r74.1.getD 0 AV.undef),(aZ.getD 1 AV.undef),vk],r74.2)))))))) (
        some (AX.exit 1,[(aZ.getD 0 AV.undef),(aZ.getD 1 AV.undef),(aZ.getD 2 AV.undef)],lz))) [(AV.lbx c1),ah,ah] ((r6.2++[aK.map []])++[aK.map []])).bind fun wB=>
     bif wB.1==AX.exit 1 then(
      A.fin σ ah wB.2.2)else
     bif wB.1==AX.ret then(
      A.fin σ (wB.2.1.getD 1 AV.undef) wB.2.2)else
     none))))
noncomputable def OH:List AV→Heap→Option (AV×Heap):=A.wrap true [(.a [.k,.k,(.s 7)])] .k (A.dH OJ)
noncomputable def OI (a0:AV) (σ:Heap):Option (AV×Heap):=
 (A.bK a0).bind fun x1=>
 (A.gtr x1 (AV.int .i64 60)).bind fun x2=>
 A.cond x2 (
  A.fin σ (AV.int .i64 2) σ) (
  (A.bK a0).bind fun x3=>
  (A.loop (fun v4 s5=>
    (A.lss (v4.getD 1 AV.undef) x3).bind fun x7=>
    A.cond x7 (
     (A.aW 3 a0 (v4.getD 1 AV.undef)).bind fun x8=>
     ((A.deref x8 s5).bind fun c9=>A.ay 0 3 c9).bind fun bE=>
     (A.cells 3 bE).bind fun fN=>
     (A.splice 0 fN [bg,ah,AV.aq]).bind fun dX=>
     (A.ay 0 3 dX).bind fun dh=>
     (OH [dh] s5).bind fun iL=>
     (A.neq .i iL.1 ah).bind fun dF=>
     A.cond dF (
      some (AX.ret,[iL.1,(v4.getD 1 AV.undef)],iL.2)) (
      (A.aj 0 dX).bind fun cB=>
      (A.look .z (AV.om σ.length) cB aI iL.2).bind fun cQ=>
      A.cond cQ (
       some (AX.ret,[(AV.int .i64 6),(v4.getD 1 AV.undef)],iL.2)) (
       (A.aj 0 dX).bind fun bF=>
       (A.eA .z (AV.om σ.length) bF cK iL.2).bind fun h19=>
       (A.add (v4.getD 1 AV.undef) aH).bind fun cR=>
       some (AX.normal,[(v4.getD 0 AV.undef),cR],h19)))) (
     some (AX.exit 0,[(v4.getD 0 AV.undef),(v4.getD 1 AV.undef)],s5))) [ah,ah] (σ++[aK.map []])).bind fun lS=>
  bif lS.1==AX.exit 0 then(
   A.fin σ ah lS.2.2)else
  bif lS.1==AX.ret then(
   A.fin σ (lS.2.1.getD 0 AV.undef) lS.2.2)else
  none)
noncomputable def OG:List AV→Heap→Option (AV×Heap):=A.wrap true [(.s 3)] .k (A.dH OI)
noncomputable def OO (a0 a1:AV) (σ:Heap):Option (AV×Heap):=
 (A.cells 3 a0).bind fun c1=>
 (A.aj 0 c1).bind fun x2=>
 ((A.deref a1 σ).bind fun c3=>A.aj 0 c3).bind fun x4=>
 (A.eql .z x2 x4).bind fun x5=>
 A.fin σ x5 σ
noncomputable def Hz:List AV→Heap→Option (AV×Heap):=A.wrap true [(.a [.k,.k,(.s 7)])] .k (A.bQ OO)
noncomputable def Lb (a0 a1:AV) (σ:Heap):Option (AV×Heap):=
 (((A.cell a1).bind fun v=>some [v]).bind fun cs=>some (AV.rp cs)).bind fun x1=>
 (KI (A.tab (fun _ _=>none) [(64,Hz)]) [a0,(AV.fn 64 [x1])] σ).bind fun r2=>
 (A.lss r2.1 ah).bind fun x3=>
 A.cond x3 (
  (A.cells 3 (AV.agg [bg,ah,AV.aq])).bind fun c4=>
  (A.splice 0 c4 [bg,ah,AV.aq]).bind fun c5=>
  (A.ay 0 3 c5).bind fun x6=>
  A.fin σ (AV.aF [x6,aI]) r2.2) (
  (A.aW 3 a0 r2.1).bind fun x7=>
  ((A.deref x7 r2.2).bind fun c8=>A.ay 0 3 c8).bind fun x9=>
  (A.cells 3 x9).bind fun dJ=>
  (A.splice 0 dJ [bg,ah,AV.aq]).bind fun fN=>
  (A.ay 0 3 fN).bind fun ck=>
  A.fin σ (AV.aF [ck,cK]) r2.2)
noncomputable def HF:List AV→Heap→Option (AV×Heap):=A.wrap true [(.s 3)] (.t [(.a [.k,.k,(.e 7 oV)]),.k]) (A.bQ Lb)
noncomputable def HA (a0 a1 a2:AV) (σ:Heap):Option (AV×Heap):=
 (A.eql .p a0 AV.np).bind fun x1=>
 A.cond x1 (
  (A.add a1 a2).bind fun x2=>
  (A.sub x2 aH).bind fun x3=>
  (A.leq x3 (AV.int .i64 512)).bind fun x4=>
  A.fin σ x4 σ) (
  (A.loop (fun v5 s6=>
    (A.add a1 a2).bind fun x8=>
    (A.lss (v5.getD 1 AV.undef) x8).bind fun x9=>
    A.cond x9 (
     (A.gtr (v5.getD 1 AV.undef) (AV.int .i64 512)).bind fun bE=>
     (A.guard bE false (some a0) an).bind fun cg=>
     (A.guard bE false (some (v5.getD 1 AV.undef)) an).bind fun ck=>
     (A.guard bE false (A.aN cg) an).bind fun dh=>
     (A.guard bE false (A.zh 513 1 dh ck) an).bind fun cN=>
     (A.guard bE false ((A.deref cN s6).bind fun gV=>A.aj 0 gV) an).bind fun cB=>
     (A.pick bE cK cB).bind fun cQ=>
     A.cond cQ (
      some (AX.ret,[aI,(v5.getD 1 AV.undef)],s6)) (
      (A.add (v5.getD 1 AV.undef) aH).bind fun bF=>
      some (AX.normal,[(v5.getD 0 AV.undef),bF],s6))) (
     some (AX.exit 0,[(v5.getD 0 AV.undef),(v5.getD 1 AV.undef)],s6))) [aI,a1] σ).bind fun kO=>
  bif kO.1==AX.exit 0 then(
   A.fin σ cK kO.2.2)else
  bif kO.1==AX.ret then(
   A.fin σ (kO.2.1.getD 0 AV.undef) kO.2.2)else
  none)
noncomputable def Fk:List AV→Heap→Option (AV×Heap):=A.wrap true [] .k (A.ko HA)
noncomputable def HQ (a0 a1 a2:AV) (σ:Heap):Option (AV×Heap):=
 (A.cells 4 a1).bind fun c1=>
 (A.aj 2 c1).bind fun x2=>
 (A.look .i a0 x2 AV.np σ).bind fun x3=>
 (A.eql .p x3 AV.np).bind fun x4=>
 (A.cond x4 (
  (A.aj 2 c1).bind fun x6=>
  (A.eA .i a0 x6 (AV.op σ.length 0) (σ++[aK.box (List.replicate 513 aI)])).bind fun h7=>
  some ([(AV.lbx c1)],h7)) (
  some ([(AV.lbx c1)],σ))).bind fun r5=>
 ((A.lb (r5.1.getD 0 AV.undef)).bind fun _=>some (3)).bind fun p8=>
 ((A.lb (r5.1.getD 0 AV.undef)).bind fun c9=>A.aj p8 c9).bind fun bE=>
 (A.loop (fun v11 BG=>
   ((A.lb (v11.getD 0 AV.undef)).bind fun _=>some (3)).bind fun p14=>
   ((A.lb (v11.getD 0 AV.undef)).bind fun gV=>A.aj p14 gV).bind fun cB=>
   (A.add cB a2).bind fun cQ=>
   (A.lss (v11.getD 1 AV.undef) cQ).bind fun bF=>
   A.cond bF (
    ((A.lb (v11.getD 0 AV.undef)).bind fun _=>some (2)).bind fun p19=>
    ((A.lb (v11.getD 0 AV.undef)).bind fun iJ=>A.aj p19 iJ).bind fun cr=>
    (A.look .i a0 cr AV.np BG).bind fun cZ=>
    (A.aN cZ).bind fun eC=>
    (A.zh 513 1 eC (v11.getD 1 AV.undef)).bind fun x24=>
    ((A.cell cK).bind fun v=>some [v]).bind fun iK=>
    (A.storeAt x24 iK BG).bind fun fW=>
    (A.add (v11.getD 1 AV.undef) aH).bind fun dL=>
    some (AX.normal,[(v11.getD 0 AV.undef),dL],fW)) (
    some (AX.exit 0,[(v11.getD 0 AV.undef),(v11.getD 1 AV.undef)],BG))) [(r5.1.getD 0 AV.undef),bE] r5.2).bind fun sR=>
 bif sR.1==AX.exit 0 then(
  some ((AV.aF []),sR.2.2))else
 none
noncomputable def Lf:List AV→Heap→Option (AV×Heap):=A.wrap false [] .k (A.ko HQ)
noncomputable def OW (a0:AV) (σ:Heap):Option (AV×Heap):=
 (A.cells 2 a0).bind fun c1=>
 (A.aj 0 c1).bind fun x2=>
 (OG [x2] σ).bind fun r3=>
 (A.neq .i r3.1 ah).bind fun x4=>
 A.cond x4 (
  A.fin σ r3.1 r3.2) (
  (A.aj 1 c1).bind fun x5=>
  (A.bK x5).bind fun x6=>
  (A.gtr x6 (AV.int .i64 400)).bind fun x7=>
  A.cond x7 (
   A.fin σ (AV.int .i64 2) r3.2) (
   (A.aj 1 c1).bind fun x8=>
   (A.bK x8).bind fun x9=>
   (A.loop (fun v10 tV=>
     (A.lss (v10.getD 2 AV.undef) x9).bind fun dh=>
     A.cond dh (
      (A.aW 4 x8 (v10.getD 2 AV.undef)).bind fun cN=>
      ((A.deref cN tV).bind fun gV=>A.ay 0 4 gV).bind fun cB=>
      (A.cells 4 cB).bind fun jP=>
      (A.splice 0 jP [ah,bg,ah,ah]).bind fun iT=>
      (A.aj 0 iT).bind fun bX=>
      (jG [bX,aH,(AV.int .i64 9999)] tV).bind fun wq=>
      (A.not wq.1).bind fun cr=>
      A.cond cr (
       some (AX.ret,[(v10.getD 0 AV.undef),aH,(v10.getD 2 AV.undef)],wq.2)) (
       (A.gtr (v10.getD 2 AV.undef) ah).bind fun cZ=>
       (A.guard cZ true (A.aj 0 iT) an).bind fun eC=>
       ((A.lb (v10.getD 0 AV.undef)).bind fun _ => some (1)).bind fun p24 =>
              (A.guard cZ true ((A.lb (v10.getD 0 AV.undef)).bind fun iK=>A.aj p24 iK) an).bind fun fK=>
       (A.guard cZ true (some (v10.getD 2 AV.undef)) an).bind fun dL=>
       (A.guard cZ true (A.sub dL aH) an).bind fun x28=>
       (A.guard cZ true (A.aW 4 fK x28) an).bind fun x29=>
       (A.guard cZ true (A.aA 0 x29) an).bind fun cW=>
       (A.guard cZ true ((A.deref cW wq.2).bind fun ru=>A.aj 0 ru) an).bind fun x32=>
       (A.guard cZ true (A.leq eC x32) an).bind fun ep=>
       (A.pick cZ ep aI).bind fun x34=>
       A.cond x34 (
        some (AX.ret,[(v10.getD 0 AV.undef),(AV.int .i64 7),(v10.getD 2 AV.undef)],wq.2)) (
        ((A.lb (v10.getD 0 AV.undef)).bind fun _=>some (0)).bind fun p35=>
        ((A.lb (v10.getD 0 AV.undef)).bind fun gD=>A.aj p35 gD).bind fun bR=>
        (A.aj 1 iT).bind fun x38=>
        (HF [bR,x38] wq.2).bind fun Oi=>
        (A.ext 0 Oi.1).bind fun dm=>
        (A.ext 1 Oi.1).bind fun ef=>
        (A.cells 3 dm).bind fun l5=>
        (A.splice 0 l5 [bg,ah,AV.aq]).bind fun qo=>
        (A.not ef).bind fun eO=>
        A.cond eO (
         some (AX.ret,[(v10.getD 0 AV.undef),(AV.int .i64 5),(v10.getD 2 AV.undef)],Oi.2)) (
         (A.aj 2 iT).bind fun dU=>
         (jG [dU,aH,(AV.int .i64 64)] Oi.2).bind fun oA=>
         (A.not oA.1).bind fun iV=>
         (A.guard iV false (A.aj 3 iT) an).bind fun iC=>
         (A.guard iV false (A.quiet (jG [iC,aH,(AV.int .i64 512)] oA.2) oA.2) an).bind fun eP=>
         (A.guard iV false (A.not eP) an).bind fun lF=>
         (A.pick iV cK lF).bind fun iN=>
         (A.guard iN false (A.aj 3 iT) an).bind fun eD=>
         (A.guard iN false (A.aj 1 qo) an).bind fun gP=>
         (A.guard iN false (A.add eD gP) an).bind fun gY=>
         (A.guard iN false (A.sub gY aH) an).bind fun lG=>
         (A.guard iN false (A.gtr lG (AV.int .i64 512)) an).bind fun gG=>
         (A.pick iN cK gG).bind fun kC=>
         A.cond kC (
          some (AX.ret,[(v10.getD 0 AV.undef),aH,(v10.getD 2 AV.undef)],oA.2)) (
          (A.aj 2 iT).bind fun gZ=>
          (A.look .i (AV.om r3.2.length) gZ AV.np oA.2).bind fun eW=>
          (A.aj 3 iT).bind fun gz=>
          (A.aj 1 qo).bind fun jA=>
          (Fk [eW,gz,jA] oA.2).bind fun UQ=>
          (A.not UQ.1).bind fun eR=>
          A.cond eR (
           some (AX.ret,[(v10.getD 0 AV.undef),(AV.int .i64 12),(v10.getD 2 AV.undef)],UQ.2)) (
           (A.ay 0 4 iT).bind fun mj=>
           (A.aj 1 qo).bind fun jf=>
           (Lf [(AV.om r3.2.length),mj,jf] UQ.2).bind fun Hq=>
           (A.add (v10.getD 2 AV.undef) aH).bind fun jX=>
           some (AX.normal,[(v10.getD 0 AV.undef),(v10.getD 1 AV.undef),jX],Hq.2))))))) (
      some (AX.exit 0,[(v10.getD 0 AV.undef),(v10.getD 1 AV.undef),(v10.getD 2 AV.undef)],tV))) [(AV.lbx c1),ah,ah] (r3.2++[aK.map []])).bind fun BF=>
   bif BF.1==AX.exit 0 then(
    A.fin σ ah BF.2.2)else
   bif BF.1==AX.ret then(
    A.fin σ (BF.2.1.getD 1 AV.undef) BF.2.2)else
   none))
noncomputable def HD:List AV→Heap→Option (AV×Heap):=A.wrap true [(.a [(.s 3),(.s 4)])] .k (A.dH OW)
noncomputable def HO (a0:AV) (σ:Heap):Option (AV×Heap):=
 (A.cells 2 a0).bind fun c1=>
 (A.ay 0 2 c1).bind fun x2=>
 (HD [x2] σ).bind fun r3=>
 (A.neq .i r3.1 ah).bind fun x4=>
 A.cond x4 (
  A.fin σ (AV.aF [AV.aq,r3.1]) r3.2) (
  (A.aj 1 c1).bind fun x5=>
  (A.bK x5).bind fun x6=>
  (A.loop (fun v7 s8=>
    (A.lss (v7.getD 2 AV.undef) x6).bind fun bE=>
    A.cond bE (
     (A.aW 4 x5 (v7.getD 2 AV.undef)).bind fun cg=>
     ((A.deref cg s8).bind fun dX=>A.ay 0 4 dX).bind fun dh=>
     (A.cells 4 dh).bind fun i6=>
     (A.splice 0 i6 [ah,bg,ah,ah]).bind fun gV=>
     ((A.lb (v7.getD 0 AV.undef)).bind fun _=>some (0)).bind fun p16=>
     ((A.lb (v7.getD 0 AV.undef)).bind fun jP=>A.aj p16 jP).bind fun bF=>
     (A.aj 1 gV).bind fun bX=>
     (HF [bF,bX] s8).bind fun wq=>
     (A.ext 0 wq.1).bind fun cr=>
     (A.ext 1 wq.1).bind fun cZ=>
     (A.cells 3 cr).bind fun fk=>
     (A.splice 0 fk [bg,ah,AV.aq]).bind fun iy=>
     (A.aj 2 iy).bind fun x25=>
     (A.bK x25).bind fun fK=>
     (A.loop (fun wE UT=>
       (A.lss (wE.getD 3 AV.undef) fK).bind fun cW=>
       A.cond cW (
        (A.aW 7 x25 (wE.getD 3 AV.undef)).bind fun x31=>
        ((A.deref x31 UT).bind fun vW=>A.ay 0 7 vW).bind fun ep=>
        (A.cells 7 ep).bind fun sH=>
        (A.splice 0 sH [bg,ah,ah,ah,ah,aI,AV.aq]).bind fun gC=>
        ((A.lb (wE.getD 2 AV.undef)).bind fun _=>some (0)).bind fun p36=>
        ((A.lb (wE.getD 2 AV.undef)).bind fun fJ=>A.aj p36 fJ).bind fun x38=>
        (A.aj 0 gC).bind fun fu=>
        ((((A.cell x38).bind fun v=>some [v]).bind fun tM=>(A.splice 0 tM [ah,bg]).bind fun sI=>((A.cell fu).bind fun v=>some [v]).bind fun l5=>(A.splice 1 l5 sI).bind fun qo=>some qo).bind fun cs=>some (AV.agg cs)).bind fun eO=>
        (((A.cells 2 eO).bind fun Ex=>(A.splice 0 Ex [ah,bg]).bind fun Ey=>some Ey).bind fun cs=>some (AV.sl 2 (chunks 2 1 cs))).bind fun iV=>
        (A.append 2 (140737488355328 / 24) (wE.getD 1 AV.undef) iV UT).bind fun kP=>
        (A.add (wE.getD 3 AV.undef) aH).bind fun eP=>
        some (AX.normal,[(wE.getD 0 AV.undef),kP.1,(wE.getD 2 AV.undef),eP],kP.2)) (
        some (AX.exit 2,[(wE.getD 0 AV.undef),(wE.getD 1 AV.undef),(wE.getD 2 AV.undef),(wE.getD 3 AV.undef)],UT))) [(v7.getD 0 AV.undef),(v7.getD 1 AV.undef),(AV.lbx gV),ah] wq.2).bind fun cV=>
     bif cV.1==AX.exit 2 then(
      (A.add (v7.getD 2 AV.undef) aH).bind fun iN=>
      some (AX.normal,[(cV.2.1.getD 0 AV.undef),(cV.2.1.getD 1 AV.undef),iN],cV.2.2))else
     none) (
     some (AX.exit 0,[(v7.getD 0 AV.undef),(v7.getD 1 AV.undef),(v7.getD 2 AV.undef)],s8))) [(AV.lbx c1),AV.aq,ah] r3.2).bind fun E6=>
  bif E6.1==AX.exit 0 then(
   A.fin σ (AV.aF [(E6.2.1.getD 1 AV.undef),ah]) E6.2.2)else
  none)
noncomputable def Fw:List AV→Heap→Option (AV×Heap):=A.wrap true [(.a [(.s 3),(.s 4)])] (.t [(.s 2),.k]) (A.dH HO)
noncomputable def Vk (a0 a1:AV) (σ:Heap):Option (AV×Heap):=
 (A.cells 4 a0).bind fun c1=>
 (A.aj 0 c1).bind fun x2=>
 (A.sub x2 a1).bind fun x3=>
 A.fin σ x3 σ
noncomputable def Df:List AV→Heap→Option (AV×Heap):=A.wrap true [] .k (A.bQ Vk)
noncomputable def Pw (a0 a1:AV) (σ:Heap):Option (AV×Heap):=
 (A.cells 2 a0).bind fun c1=>
 (A.aj 1 c1).bind fun x2=>
 (Fb (A.tab (fun _ _=>none) [(428,Df)]) [x2,a1,(AV.fn 428 [])] σ).bind fun r3=>
 (A.ext 0 r3.1).bind fun x4=>
 (A.ext 1 r3.1).bind fun x5=>
 A.fin σ (AV.aF [x4,x5]) r3.2
noncomputable def HN:List AV→Heap→Option (AV×Heap):=A.wrap true [(.a [(.s 3),(.s 4)])] .k (A.bQ Pw)
noncomputable def OC (a0 a1:AV) (σ:Heap):Option (AV×Heap):=
 (A.cells 7 a0).bind fun c1=>
 (A.aj 0 c1).bind fun x2=>
 ((A.deref a1 σ).bind fun c3=>A.aj 0 c3).bind fun x4=>
 (A.eql .z x2 x4).bind fun x5=>
 A.fin σ x5 σ
noncomputable def Hw:List AV→Heap→Option (AV×Heap):=A.wrap true [(.a oV)] .k (A.bQ OC)
noncomputable def KT (a0 a1:AV) (σ:Heap):Option (AV×Heap):=
 (A.cells 3 a0).bind fun c1=>
 (((A.cell a1).bind fun v=>some [v]).bind fun cs=>some (AV.rp cs)).bind fun x2=>
 (A.aj 2 c1).bind fun x3=>
 (KL (A.tab (fun _ _=>none) [(430,Hw)]) [x3,(AV.fn 430 [x2])] σ).bind fun r4=>
 (A.lss r4.1 ah).bind fun x5=>
 A.cond x5 (
  (A.cells 7 (AV.agg [bg,ah,ah,ah,ah,aI,AV.aq])).bind fun c6=>
  (A.splice 0 c6 [bg,ah,ah,ah,ah,aI,AV.aq]).bind fun c7=>
  (A.ay 0 7 c7).bind fun x8=>
  A.fin σ (AV.aF [x8,aI]) r4.2) (
  (A.aj 2 c1).bind fun x9=>
  (A.aW 7 x9 r4.1).bind fun bE=>
  ((A.deref bE r4.2).bind fun fN=>A.ay 0 7 fN).bind fun ck=>
  (A.cells 7 ck).bind fun fV=>
  (A.splice 0 fV [bg,ah,ah,ah,ah,aI,AV.aq]).bind fun i6=>
  (A.ay 0 7 i6).bind fun dF=>
  A.fin σ (AV.aF [dF,cK]) r4.2)
noncomputable def OP:List AV→Heap→Option (AV×Heap):=A.wrap true [(.a [.k,.k,(.s 7)])] (.t [(.a oV),.k]) (A.bQ KT)
noncomputable def Pv (a0 a1:AV) (σ:Heap):Option (AV×Heap):=
 (A.cells 2 a0).bind fun c1=>
 (A.cells 2 a1).bind fun c2=>
 (A.ay 0 2 c1).bind fun x3=>
 (A.aj 0 c2).bind fun x4=>
 (HN [x3,x4] σ).bind fun r5=>
 (A.ext 0 r5.1).bind fun x6=>
 (A.ext 1 r5.1).bind fun x7=>
 (A.not x7).bind fun x8=>
 A.cond x8 (
  (A.cells 7 (AV.agg [bg,ah,ah,ah,ah,aI,AV.aq])).bind fun c9=>
  (A.splice 0 c9 [bg,ah,ah,ah,ah,aI,AV.aq]).bind fun dJ=>
  (A.ay 0 7 dJ).bind fun cg=>
  A.fin σ (AV.aF [cg,aI]) r5.2) (
  (A.aj 0 c1).bind fun ck=>
  (A.aj 1 c1).bind fun dh=>
  (A.aW 4 dh x6).bind fun cN=>
  (A.aA 1 cN).bind fun dF=>
  ((A.deref dF r5.2).bind fun jO=>A.aj 0 jO).bind fun cQ=>
  (A.quiet (HF [ck,cQ] r5.2) r5.2).bind fun bF=>
  (A.ext 0 bF).bind fun bX=>
  (A.ext 1 bF).bind fun cR=>
  (A.cells 3 bX).bind fun i7=>
  (A.splice 0 i7 [bg,ah,AV.aq]).bind fun gB=>
  (A.ay 0 3 gB).bind fun eC=>
  (A.aj 1 c2).bind fun x24=>
  (OP [eC,x24] r5.2).bind fun jV=>
  (A.ext 0 jV.1).bind fun fK=>
  (A.ext 1 jV.1).bind fun dL=>
  (A.cells 7 fK).bind fun qm=>
  (A.splice 0 qm [bg,ah,ah,ah,ah,aI,AV.aq]).bind fun tL=>
  (A.ay 0 7 tL).bind fun cW=>
  A.fin σ (AV.aF [cW,dL]) jV.2)
noncomputable def Pq:List AV→Heap→Option (AV×Heap):=A.wrap true [(.a [(.s 3),(.s 4)])] (.t [(.a oV),.k]) (A.bQ Pv)
noncomputable def Pu (a0 a1:AV) (σ:Heap):Option (AV×Heap):=
 (A.cells 2 a0).bind fun c1=>
 (A.cells 2 a1).bind fun c2=>
 (A.ay 0 2 c1).bind fun x3=>
 (HD [x3] σ).bind fun r4=>
 (A.neq .i r4.1 ah).bind fun x5=>
 A.cond x5 (
  (A.cells 7 (AV.agg [bg,ah,ah,ah,ah,aI,AV.aq])).bind fun c6=>
  (A.splice 0 c6 [bg,ah,ah,ah,ah,aI,AV.aq]).bind fun c7=>
  (A.ay 0 7 c7).bind fun x8=>
  A.fin σ (AV.aF [x8,r4.1]) r4.2) (
  (A.ay 0 2 c1).bind fun x9=>
  (A.ay 0 2 c2).bind fun bE=>
  (Pq [x9,bE] r4.2).bind fun cH=>
  (A.ext 0 cH.1).bind fun ck=>
  (A.ext 1 cH.1).bind fun dh=>
  (A.cells 7 ck).bind fun i6=>
  (A.splice 0 i6 [bg,ah,ah,ah,ah,aI,AV.aq]).bind fun gV=>
  (A.not dh).bind fun cB=>
  A.cond cB (
   (A.cells 7 (AV.agg [bg,ah,ah,ah,ah,aI,AV.aq])).bind fun jP=>
   (A.splice 0 jP [bg,ah,ah,ah,ah,aI,AV.aq]).bind fun iT=>
   (A.ay 0 7 iT).bind fun bX=>
   A.fin σ (AV.aF [bX,(AV.int .i64 8)]) cH.2) (
   (A.aj 6 gV).bind fun cR=>
   (zU [cR] cH.2).bind fun lS=>
   ((A.cell lS.1).bind fun v=>some [v]).bind fun gB=>
   (A.splice 6 gB gV).bind fun fk=>
   (A.ay 0 7 fk).bind fun x24=>
   (A.cells 7 x24).bind fun iK=>
   (A.splice 0 iK [bg,ah,ah,ah,ah,aI,AV.aq]).bind fun fW=>
   (A.ay 0 7 fW).bind fun dL=>
   A.fin σ (AV.aF [dL,ah]) lS.2))
noncomputable def Pp:List AV→Heap→Option (AV×Heap):=A.wrap true [(.a [(.s 3),(.s 4)])] (.t [(.a oV),.k]) (A.bQ Pu)
end
section
set_option maxRecDepth 100000
noncomputable def P9 (a0:AV) (σ:Heap):Option (AV×Heap):=
 (A.cells 2 a0).bind fun c1=>
 (A.ay 0 2 c1).bind fun x2=>
 (Fw [x2] σ).bind fun r3=>
 (A.ext 0 r3.1).bind fun x4=>
 (A.ext 1 r3.1).bind fun x5=>
 (A.bK x4).bind fun x6=>
 (A.loop (fun v7 s8=>
   (A.lss (v7.getD 0 AV.undef) x6).bind fun bE=>
   A.cond bE (
    (A.aW 2 x4 (v7.getD 0 AV.undef)).bind fun cg=>
    ((A.deref cg s8).bind fun dX=>A.ay 0 2 dX).bind fun dh=>
    (A.cells 2 dh).bind fun i6=>
    (A.splice 0 i6 [ah,bg]).bind fun gV=>
    (A.ay 0 2 gV).bind fun cB=>
    (A.eA (.s [0,2]) (AV.om r3.2.length) cB cK s8).bind fun h17=>
    (A.add (v7.getD 0 AV.undef) aH).bind fun bF=>
    some (AX.normal,[bF],h17)) (
    some (AX.exit 0,[(v7.getD 0 AV.undef)],s8))) [ah] (r3.2++[aK.map []])).bind fun kO=>
 bif kO.1==AX.exit 0 then(
  A.fin σ (AV.om r3.2.length) kO.2.2)else
 none
noncomputable def P7:List AV→Heap→Option (AV×Heap):=A.wrap true [(.a [(.s 3),(.s 4)])] .k (A.dH P9)
noncomputable def PV (a0:AV) (σ:Heap):Option (AV×Heap):=
 (A.eql .z a0 bg).bind fun x1=>
 (A.guard x1 false (some a0) an).bind fun x2=>
 (A.guard x1 false (A.quiet (Lp [x2] σ) σ) an).bind fun x3=>
 (A.pick x1 cK x3).bind fun x4=>
 A.fin σ x4 σ
noncomputable def PM:List AV→Heap→Option (AV×Heap):=A.wrap true [] .k (A.dH PV)
noncomputable def PA (a0:AV) (σ:Heap):Option (AV×Heap):=
 (jG [a0,ah,(AV.int .i64 65535)] σ).bind fun r1=>
 A.fin σ r1.1 r1.2
noncomputable def Lh:List AV→Heap→Option (AV×Heap):=A.wrap true [] .k (A.dH PA)
noncomputable def PI (a0 a1:AV) (σ:Heap):Option (AV×Heap):=
 (A.cells 2 a0).bind fun c1=>
 (A.cells 2 a1).bind fun c2=>
 (A.aj 0 c1).bind fun x3=>
 (A.aj 0 c2).bind fun x4=>
 (A.neq .i x3 x4).bind fun x5=>
 A.cond x5 (
  (A.aj 0 c1).bind fun x6=>
  (A.aj 0 c2).bind fun x7=>
  (A.lss x6 x7).bind fun x8=>
  A.fin σ x8 σ) (
  (A.aj 1 c1).bind fun x9=>
  (A.aj 1 c2).bind fun bE=>
  (La [x9,bE] σ).bind fun cH=>
  (A.lss cH.1 ah).bind fun ck=>
  A.fin σ ck cH.2)
noncomputable def PE:List AV→Heap→Option (AV×Heap):=A.wrap true [] .k (A.bQ PI)
noncomputable def OQ (a0 a1:AV) (σ:Heap):Option (AV×Heap):=
 (A.cells 2 a0).bind fun c1=>
 (A.ay 0 2 c1).bind fun x2=>
 (HD [x2] σ).bind fun r3=>
 (A.bK a1).bind fun x4=>
 (A.gtr x4 (AV.int .i64 200)).bind fun x5=>
 (qE [x5,(AV.int .i64 2)] r3.2).bind fun r6=>
 ((((A.cell r3.1).bind fun v=>some [v]).bind fun c7=>(A.splice 0 c7 [ah,ah]).bind fun c8=>((A.cell r6.1).bind fun v=>some [v]).bind fun c9=>(A.splice 1 c9 c8).bind fun dJ=>some dJ).bind fun cs=>some (AV.sl 1 (chunks 1 2 cs))).bind fun cg=>
 (wI [cg] r6.2).bind fun ga=>
 (A.neq .i ga.1 ah).bind fun dh=>
 A.cond dh (
  A.fin σ ga.1 ga.2) (
  (A.ay 0 2 c1).bind fun cN=>
  (P7 [cN] ga.2).bind fun pI=>
  (A.bK a1).bind fun cB=>
  (A.loop (fun v17 wC=>
    (A.lss (v17.getD 1 AV.undef) cB).bind fun cR=>
    A.cond cR (
     (A.aW 3 a1 (v17.getD 1 AV.undef)).bind fun cr=>
     ((A.deref cr wC).bind fun gB=>A.ay 0 3 gB).bind fun eC=>
     (A.cells 3 eC).bind fun iy=>
     (A.splice 0 iy [ah,bg,AV.aq]).bind fun iK=>
     (A.aj 0 iK).bind fun fK=>
     (jG [fK,aH,(AV.int .i64 999)] wC).bind fun yl=>
     (A.not yl.1).bind fun x28=>
     A.cond x28 (
      some (AX.ret,[aH,(v17.getD 1 AV.undef)],yl.2)) (
      (A.gtr (v17.getD 1 AV.undef) ah).bind fun x29=>
      (A.guard x29 true (A.aj 0 iK) an).bind fun cW=>
      (A.guard x29 true (some a1) an).bind fun x31=>
      (A.guard x29 true (some (v17.getD 1 AV.undef)) an).bind fun x32=>
      (A.guard x29 true (A.sub x32 aH) an).bind fun ep=>
      (A.guard x29 true (A.aW 3 x31 ep) an).bind fun x34=>
      (A.guard x29 true (A.aA 0 x34) an).bind fun gy=>
      (A.guard x29 true ((A.deref gy yl.2).bind fun gD=>A.aj 0 gD) an).bind fun bR=>
      (A.guard x29 true (A.leq cW bR) an).bind fun x38=>
      (A.pick x29 x38 aI).bind fun fu=>
      A.cond fu (
       some (AX.ret,[(AV.int .i64 7),(v17.getD 1 AV.undef)],yl.2)) (
       (A.aj 1 iK).bind fun dm=>
       (PM [dm] yl.2).bind fun E5=>
       (A.not E5.1).bind fun fP=>
       A.cond fP (
        some (AX.ret,[(AV.int .i64 3),(v17.getD 1 AV.undef)],E5.2)) (
        (A.aj 2 iK).bind fun fL=>
        (A.bK fL).bind fun eO=>
        (A.gtr eO (AV.int .i64 2000)).bind fun dU=>
        A.cond dU (
         some (AX.ret,[(AV.int .i64 2),(v17.getD 1 AV.undef)],E5.2)) (
         (A.aj 2 iK).bind fun fM=>
         (A.bK fM).bind fun iV=>
         (A.loop (fun pJ Ko=>
           (A.lss (pJ.getD 2 AV.undef) iV).bind fun iN=>
           A.cond iN (
            (A.aW 3 fM (pJ.getD 2 AV.undef)).bind fun eD=>
            ((A.deref eD Ko).bind fun oc=>A.ay 0 3 oc).bind fun gY=>
            (A.cells 3 gY).bind fun gM=>
            (A.splice 0 gM [ah,bg,ah]).bind fun mU=>
            (A.ay 0 2 mU).bind fun kC=>
            (A.look (.s [0,2]) pI.1 kC aI Ko).bind fun gZ=>
            (A.not gZ).bind fun eW=>
            A.cond eW (
             some (AX.ret,[(AV.int .i64 8),(pJ.getD 1 AV.undef),(pJ.getD 2 AV.undef)],Ko)) (
             (A.aj 2 mU).bind fun gz=>
             (Lh [gz] Ko).bind fun tU=>
             (A.not tU.1).bind fun eY=>
             A.cond eY (
              some (AX.ret,[aH,(pJ.getD 1 AV.undef),(pJ.getD 2 AV.undef)],tU.2)) (
              (A.gtr (pJ.getD 2 AV.undef) ah).bind fun eR=>
              ((A.lb (pJ.getD 1 AV.undef)).bind fun _=>some (2)).bind fun p64=>
                            (A.guard eR true ((A.lb (pJ.getD 1 AV.undef)).bind fun sK=>A.aj p64 sK) an).bind fun gH=>
              (A.guard eR true (some (pJ.getD 2 AV.undef)) an).bind fun jX=>
              (A.guard eR true (A.sub jX aH) an).bind fun gI=>
              (A.guard eR true (A.aW 3 gH gI) an).bind fun fQ=>
              (A.guard eR true (A.aA 0 fQ) an).bind fun eZ=>
              (A.guard eR true ((A.deref eZ tU.2).bind fun lR=>A.ay 0 2 lR) an).bind fun qy=>
              (A.guard eR true (A.ay 0 2 mU) an).bind fun hG=>
              (A.guard eR true (A.quiet (PE [qy,hG] tU.2) tU.2) an).bind fun iq=>
              (A.guard eR true (A.not iq) an).bind fun eu=>
              (A.pick eR eu aI).bind fun iD=>
              A.cond iD (
               some (AX.ret,[(AV.int .i64 7),(pJ.getD 1 AV.undef),(pJ.getD 2 AV.undef)],tU.2)) (
               (A.add (pJ.getD 2 AV.undef) aH).bind fun vk=>
               some (AX.normal,[(pJ.getD 0 AV.undef),(pJ.getD 1 AV.undef),vk],tU.2))))) (
            some (AX.exit 3,[(pJ.getD 0 AV.undef),(pJ.getD 1 AV.undef),(pJ.getD 2 AV.undef)],Ko))) [(v17.getD 0 AV.undef),(AV.lbx iK),ah] E5.2).bind fun wB=>
         bif wB.1==AX.exit 3 then(
          (A.add (v17.getD 1 AV.undef) aH).bind fun jF=>
          some (AX.normal,[(wB.2.1.getD 0 AV.undef),jF],wB.2.2))else
         bif wB.1==AX.ret then(
          some (AX.ret,[(wB.2.1.getD 0 AV.undef),(v17.getD 1 AV.undef)],wB.2.2))else
         none))))) (
     some (AX.exit 0,[(v17.getD 0 AV.undef),(v17.getD 1 AV.undef)],wC))) [ah,ah] pI.2).bind fun Kk=>
  bif Kk.1==AX.exit 0 then(
   A.fin σ ah Kk.2.2)else
  bif Kk.1==AX.ret then(
   A.fin σ (Kk.2.1.getD 0 AV.undef) Kk.2.2)else
  none)
noncomputable def KS:List AV→Heap→Option (AV×Heap):=A.wrap true [(.a [(.s 3),(.s 4)]),(.s 3)] .k (A.bQ OQ)
noncomputable def PU (a0 a1 a2:AV) (σ:Heap):Option (AV×Heap):=
 (A.cells 2 a1).bind fun c1=>
 (A.cells 2 a2).bind fun c2=>
 (A.aj 0 c2).bind fun x3=>
 (A.neq .i x3 ah).bind fun x4=>
 (A.guard x4 true (A.aj 1 c2) an).bind fun x5=>
 (A.guard x4 true (A.neq .i x5 ah) an).bind fun x6=>
 (A.pick x4 x6 aI).bind fun x7=>
 A.cond x7 (
  A.fin σ (AV.aF [ah,(AV.int .i64 3)]) σ) (
  (A.aj 0 c2).bind fun x8=>
  (Lh [x8] σ).bind fun r9=>
  (A.not r9.1).bind fun bE=>
  A.cond bE (
   A.fin σ (AV.aF [ah,aH]) r9.2) (
   (A.aj 1 c2).bind fun cg=>
   (A.eql .i cg ah).bind fun ck=>
   A.cond ck (
    (A.aj 0 c2).bind fun dh=>
    A.fin σ (AV.aF [dh,ah]) r9.2) (
    (A.bK a0).bind fun cN=>
    (A.loop (fun dI kQ=>
      (A.lss (dI.getD 4 AV.undef) cN).bind fun bF=>
      A.cond bF (
       (A.aW 3 a0 (dI.getD 4 AV.undef)).bind fun bX=>
       ((A.deref bX kQ).bind fun iJ=>A.ay 0 3 iJ).bind fun cr=>
       (A.cells 3 cr).bind fun gB=>
       (A.splice 0 gB [ah,bg,AV.aq]).bind fun fk=>
       (A.aj 0 fk).bind fun x24=>
       ((A.lb (dI.getD 1 AV.undef)).bind fun _=>some (1)).bind fun p25=>
       ((A.lb (dI.getD 1 AV.undef)).bind fun fW=>A.aj p25 fW).bind fun dL=>
       (A.neq .i x24 dL).bind fun x28=>
       A.cond x28 (
        (A.add (dI.getD 4 AV.undef) aH).bind fun x29=>
        some (AX.normal,[(dI.getD 0 AV.undef),(dI.getD 1 AV.undef),(dI.getD 2 AV.undef),(dI.getD 3 AV.undef),x29],kQ)) (
        (A.aj 2 fk).bind fun cW=>
        (A.bK cW).bind fun x31=>
        (A.loop (fun v32 Oo=>
          (A.lss (v32.getD 3 AV.undef) x31).bind fun gy=>
          A.cond gy (
           (A.aW 3 cW (v32.getD 3 AV.undef)).bind fun gX=>
           ((A.deref gX Oo).bind fun fJ=>A.ay 0 3 fJ).bind fun x38=>
           (A.cells 3 x38).bind fun lp=>
           (A.splice 0 lp [ah,bg,ah]).bind fun tM=>
           (A.ay 0 2 tM).bind fun ef=>
           ((A.lb (v32.getD 0 AV.undef)).bind fun l5=>A.ay 0 2 l5).bind fun fL=>
           (A.eql (.s [0,2]) ef fL).bind fun eO=>
           A.cond eO (
            (A.aj 2 tM).bind fun dU=>
            some (AX.ret,[(v32.getD 0 AV.undef),dU,ah,(v32.getD 3 AV.undef)],Oo)) (
            (A.add (v32.getD 3 AV.undef) aH).bind fun fM=>
            some (AX.normal,[(v32.getD 0 AV.undef),(v32.getD 1 AV.undef),(v32.getD 2 AV.undef),fM],Oo))) (
           some (AX.exit 2,[(v32.getD 0 AV.undef),(v32.getD 1 AV.undef),(v32.getD 2 AV.undef),(v32.getD 3 AV.undef)],Oo))) [(dI.getD 0 AV.undef),(dI.getD 2 AV.undef),(dI.getD 3 AV.undef),ah] kQ).bind fun oB=>
        bif oB.1==AX.exit 2 then(
         some (AX.exit 0,[(oB.2.1.getD 0 AV.undef),AV.undef,(oB.2.1.getD 1 AV.undef),(oB.2.1.getD 2 AV.undef),(dI.getD 4 AV.undef)],oB.2.2))else
        bif oB.1==AX.ret then(
         some (AX.ret,[(oB.2.1.getD 0 AV.undef),AV.undef,(oB.2.1.getD 1 AV.undef),(oB.2.1.getD 2 AV.undef),(dI.getD 4 AV.undef)],oB.2.2))else
        none)) (
       some (AX.exit 0,[(dI.getD 0 AV.undef),(dI.getD 1 AV.undef),(dI.getD 2 AV.undef),(dI.getD 3 AV.undef),(dI.getD 4 AV.undef)],kQ))) [(AV.lbx c1),(AV.lbx c2),ah,ah,ah] r9.2).bind fun kP=>
    bif kP.1==AX.exit 0 then(
     A.fin σ (AV.aF [ah,(AV.int .i64 8)]) kP.2.2)else
    bif kP.1==AX.ret then(
     A.fin σ (AV.aF [(kP.2.1.getD 2 AV.undef),(kP.2.1.getD 3 AV.undef)]) kP.2.2)else
    none)))
noncomputable def Dn:List AV→Heap→Option (AV×Heap):=A.wrap true [(.s 3)] .k (A.ko PU)
end
section
set_option maxRecDepth 100000
noncomputable def PT (a0:AV) (σ:Heap):Option (AV×Heap):=
 (jG [a0,ah,(AV.int .i64 36000000)] σ).bind fun r1=>
 A.fin σ r1.1 r1.2
noncomputable def BR:List AV→Heap→Option (AV×Heap):=A.wrap true [] .k (A.dH PT)
noncomputable def PF (a0 a1:AV) (σ:Heap):Option (AV×Heap):=
 (A.cells 2 a0).bind fun c1=>
 (A.cells 2 a1).bind fun c2=>
 (A.aj 0 c1).bind fun x3=>
 (A.aj 0 c2).bind fun x4=>
 (A.neq .i x3 x4).bind fun x5=>
 A.cond x5 (
  (A.aj 0 c1).bind fun x6=>
  (A.aj 0 c2).bind fun x7=>
  (A.lss x6 x7).bind fun x8=>
  A.cond x8 (
   A.fin σ (AV.int .i64 (-1)) σ) (
   A.fin σ aH σ)) (
  (A.aj 1 c1).bind fun x9=>
  (A.aj 1 c2).bind fun bE=>
  (La [x9,bE] σ).bind fun cH=>
  A.fin σ cH.1 cH.2)
noncomputable def Lk:List AV→Heap→Option (AV×Heap):=A.wrap true [] .k (A.bQ PF)
noncomputable def Pb (a0:AV) (σ:Heap):Option (AV×Heap):=
 (A.bK a0).bind fun x1=>
 (A.loop (fun v2 s3=>
   (A.lss (v2.getD 1 AV.undef) x1).bind fun x5=>
   A.cond x5 (
    (A.aW 8 a0 (v2.getD 1 AV.undef)).bind fun x6=>
    ((A.deref x6 s3).bind fun c7=>A.ay 0 8 c7).bind fun x8=>
    (A.cells 8 x8).bind fun c9=>
    (A.splice 0 c9 [ah,bg,ah,ah,aI,aI,ah,ah]).bind fun dJ=>
    (A.aj 0 dJ).bind fun cg=>
    (jG [cg,aH,(AV.int .i64 9999)] s3).bind fun ga=>
    (A.not ga.1).bind fun dh=>
    A.cond dh (
     some (AX.ret,[aH,(v2.getD 1 AV.undef)],ga.2)) (
     (A.aj 1 dJ).bind fun cN=>
     (FJ [cN] ga.2).bind fun pI=>
     (A.not pI.1).bind fun cB=>
     A.cond cB (
      some (AX.ret,[(AV.int .i64 5),(v2.getD 1 AV.undef)],pI.2)) (
      (A.aj 4 dJ).bind fun cQ=>
      (A.guard cQ true (A.ay 2 2 dJ) an).bind fun bF=>
      (A.guard cQ true (some (AV.agg [ah,ah])) an).bind fun bX=>
      (A.guard cQ true (A.neq (.s [0,0]) bF bX) an).bind fun cR=>
      (A.pick cQ cR aI).bind fun cr=>
      (A.guard cr false (A.aj 2 dJ) an).bind fun cZ=>
      (A.guard cr false (A.neq .i cZ ah) an).bind fun eC=>
      (A.guard cr false (some eC) an).bind fun x24=>
      (A.guard x24 true (A.aj 3 dJ) an).bind fun x25=>
      (A.guard x24 true (A.neq .i x25 ah) an).bind fun fK=>
      (A.guard cr false (A.pick x24 fK aI) an).bind fun dL=>
      (A.pick cr cK dL).bind fun x28=>
      A.cond x28 (
       some (AX.ret,[(AV.int .i64 3),(v2.getD 1 AV.undef)],pI.2)) (
       (A.aj 2 dJ).bind fun x29=>
       (jG [x29,ah,(AV.int .i64 65535)] pI.2).bind fun BE=>
       (A.not BE.1).bind fun x31=>
       (A.guard x31 false (A.aj 3 dJ) an).bind fun x32=>
       (A.guard x31 false (A.quiet (jG [x32,ah,(AV.int .i64 999)] BE.2) BE.2) an).bind fun ep=>
       (A.guard x31 false (A.not ep) an).bind fun x34=>
       (A.pick x31 cK x34).bind fun gy=>
       A.cond gy (
        some (AX.ret,[aH,(v2.getD 1 AV.undef)],BE.2)) (
        (A.aj 5 dJ).bind fun gX=>
        (A.not gX).bind fun bR=>
        (A.guard bR true (A.aj 6 dJ) an).bind fun x38=>
        (A.guard bR true (A.neq .i x38 ah) an).bind fun fu=>
        (A.guard bR true (some fu) an).bind fun dm=>
        (A.guard dm false (A.aj 7 dJ) an).bind fun ef=>
        (A.guard dm false (A.neq .i ef ah) an).bind fun fP=>
        (A.guard bR true (A.pick dm cK fP) an).bind fun fL=>
        (A.pick bR fL aI).bind fun eO=>
        A.cond eO (
         some (AX.ret,[(AV.int .i64 3),(v2.getD 1 AV.undef)],BE.2)) (
         (A.aj 6 dJ).bind fun dU=>
         (BR [dU] BE.2).bind fun oA=>
         (A.not oA.1).bind fun iV=>
         (A.guard iV false (A.aj 7 dJ) an).bind fun iC=>
         (A.guard iV false (A.quiet (BR [iC] oA.2) oA.2) an).bind fun eP=>
         (A.guard iV false (A.not eP) an).bind fun lF=>
         (A.pick iV cK lF).bind fun iN=>
         A.cond iN (
          some (AX.ret,[aH,(v2.getD 1 AV.undef)],oA.2)) (
          (A.gtr (v2.getD 1 AV.undef) ah).bind fun eD=>
          (A.guard eD true (some a0) an).bind fun gP=>
          (A.guard eD true (some (v2.getD 1 AV.undef)) an).bind fun gY=>
          (A.guard eD true (A.sub gY aH) an).bind fun lG=>
          (A.guard eD true (A.aW 8 gP lG) an).bind fun gG=>
          (A.guard eD true (A.aA 0 gG) an).bind fun kC=>
          (A.guard eD true ((A.deref kC oA.2).bind fun ig=>A.ay 0 2 ig) an).bind fun eW=>
          (A.guard eD true (A.ay 0 2 dJ) an).bind fun gz=>
          (A.guard eD true (A.quiet (Lk [eW,gz] oA.2) oA.2) an).bind fun jA=>
          (A.guard eD true (A.geq jA ah) an).bind fun eY=>
          (A.pick eD eY aI).bind fun eR=>
          A.cond eR (
           some (AX.ret,[(AV.int .i64 7),(v2.getD 1 AV.undef)],oA.2)) (
           (A.add (v2.getD 1 AV.undef) aH).bind fun mj=>
           some (AX.normal,[(v2.getD 0 AV.undef),mj],oA.2))))))))) (
    some (AX.exit 0,[(v2.getD 0 AV.undef),(v2.getD 1 AV.undef)],s3))) [ah,ah] σ).bind fun wz=>
 bif wz.1==AX.exit 0 then(
  A.fin σ ah wz.2.2)else
 bif wz.1==AX.ret then(
  A.fin σ (wz.2.1.getD 0 AV.undef) wz.2.2)else
 none
noncomputable def O9:List AV→Heap→Option (AV×Heap):=A.wrap true [(.s 8)] .k (A.dH Pb)
noncomputable def Qw (a0:AV) (σ:Heap):Option (AV×Heap):=
 (A.bK a0).bind fun x1=>
 (A.gtr x1 (AV.int .i64 300)).bind fun x2=>
 A.cond x2 (
  A.fin σ (AV.int .i64 2) σ) (
  (A.bK a0).bind fun x3=>
  (A.loop (fun v4 s5=>
    (A.lss (v4.getD 2 AV.undef) x3).bind fun x7=>
    A.cond x7 (
     (A.aW 11 a0 (v4.getD 2 AV.undef)).bind fun x8=>
     ((A.deref x8 s5).bind fun c9=>A.ay 0 11 c9).bind fun bE=>
     (A.cells 11 bE).bind fun fN=>
     (A.splice 0 fN [ah,bg,ah,ah,ah,ah,ah,AV.aq,aI,ah,AV.aq]).bind fun dX=>
     (A.aj 0 dX).bind fun dh=>
     (jG [dh,aH,(AV.int .i64 9999999)] s5).bind fun iL=>
     (A.not iL.1).bind fun dF=>
     A.cond dF (
      some (AX.ret,[aH,(v4.getD 1 AV.undef),(v4.getD 2 AV.undef)],iL.2)) (
      (A.gtr (v4.getD 2 AV.undef) ah).bind fun cB=>
      (A.guard cB true (A.aj 0 dX) an).bind fun cQ=>
      (A.guard cB true (some a0) an).bind fun bF=>
      (A.guard cB true (some (v4.getD 2 AV.undef)) an).bind fun bX=>
      (A.guard cB true (A.sub bX aH) an).bind fun cR=>
      (A.guard cB true (A.aW 11 bF cR) an).bind fun cr=>
      (A.guard cB true (A.aA 0 cr) an).bind fun cZ=>
      (A.guard cB true ((A.deref cZ iL.2).bind fun fk=>A.aj 0 fk) an).bind fun x24=>
      (A.guard cB true (A.leq cQ x24) an).bind fun x25=>
      (A.pick cB x25 aI).bind fun fK=>
      A.cond fK (
       some (AX.ret,[(AV.int .i64 7),(v4.getD 1 AV.undef),(v4.getD 2 AV.undef)],iL.2)) (
       (A.aj 1 dX).bind fun dL=>
       (A.neq .z dL bg).bind fun x28=>
       (A.guard x28 true (A.aj 1 dX) an).bind fun x29=>
       (A.guard x28 true (A.quiet (Lp [x29] iL.2) iL.2) an).bind fun cW=>
       (A.guard x28 true (A.not cW) an).bind fun x31=>
       (A.pick x28 x31 aI).bind fun x32=>
       A.cond x32 (
        some (AX.ret,[(AV.int .i64 3),(v4.getD 1 AV.undef),(v4.getD 2 AV.undef)],iL.2)) (
        (A.aj 2 dX).bind fun ep=>
        (BR [ep] iL.2).bind fun nM=>
        (A.not nM.1).bind fun gy=>
        (A.guard gy false (A.aj 3 dX) an).bind fun gX=>
        (A.guard gy false (A.quiet (BR [gX] nM.2) nM.2) an).bind fun bR=>
        (A.guard gy false (A.not bR) an).bind fun x38=>
        (A.pick gy cK x38).bind fun fu=>
        (A.guard fu false (A.aj 4 dX) an).bind fun dm=>
        (A.guard fu false (A.quiet (BR [dm] nM.2) nM.2) an).bind fun ef=>
        (A.guard fu false (A.not ef) an).bind fun fP=>
        (A.pick fu cK fP).bind fun fL=>
        (A.guard fL false (A.aj 5 dX) an).bind fun eO=>
        (A.guard fL false (A.quiet (BR [eO] nM.2) nM.2) an).bind fun dU=>
        (A.guard fL false (A.not dU) an).bind fun fM=>
        (A.pick fL cK fM).bind fun iV=>
        (A.guard iV false (A.aj 9 dX) an).bind fun iC=>
        (A.guard iV false (A.quiet (jG [iC,(AV.int .i64 (-1)),(AV.int .i64 36000000)] nM.2) nM.2) an).bind fun eP=>
        (A.guard iV false (A.not eP) an).bind fun lF=>
        (A.pick iV cK lF).bind fun iN=>
        A.cond iN (
         some (AX.ret,[aH,(v4.getD 1 AV.undef),(v4.getD 2 AV.undef)],nM.2)) (
         (A.ay 6 2 dX).bind fun eD=>
         (KU [eD] nM.2).bind fun cq=>
         (A.neq .i cq.1 ah).bind fun gY=>
         A.cond gY (
          some (AX.ret,[cq.1,(v4.getD 1 AV.undef),(v4.getD 2 AV.undef)],cq.2)) (
          (A.aj 10 dX).bind fun lG=>
          (A.bK lG).bind fun gG=>
          (A.gtr gG (AV.int .i64 2000)).bind fun kC=>
          A.cond kC (
           some (AX.ret,[(AV.int .i64 2),(v4.getD 1 AV.undef),(v4.getD 2 AV.undef)],cq.2)) (
           (A.aj 10 dX).bind fun gZ=>
           (O9 [gZ] cq.2).bind fun Ol=>
           (A.neq .i Ol.1 ah).bind fun gz=>
           A.cond gz (
            some (AX.ret,[Ol.1,(v4.getD 1 AV.undef),(v4.getD 2 AV.undef)],Ol.2)) (
            (A.aj 10 dX).bind fun jA=>
            (A.bK jA).bind fun eY=>
            (A.add (v4.getD 1 AV.undef) eY).bind fun eR=>
            (A.add (v4.getD 2 AV.undef) aH).bind fun mj=>
            some (AX.normal,[(v4.getD 0 AV.undef),eR,mj],Ol.2))))))))) (
     some (AX.exit 0,[(v4.getD 0 AV.undef),(v4.getD 1 AV.undef),(v4.getD 2 AV.undef)],s5))) [ah,ah,ah] σ).bind fun wz=>
  bif wz.1==AX.exit 0 then(
   (A.gtr (wz.2.1.getD 1 AV.undef) (AV.int .i64 10000)).bind fun gH=>
   (qE [gH,(AV.int .i64 2)] wz.2.2).bind fun eU=>
   A.fin σ eU.1 eU.2)else
  bif wz.1==AX.ret then(
   A.fin σ (wz.2.1.getD 0 AV.undef) wz.2.2)else
  none)
noncomputable def Ig:List AV→Heap→Option (AV×Heap):=A.wrap true [(.e 11 tK)] .k (A.dH Qw)
noncomputable def Ph (a0 a1 a2:AV) (σ:Heap):Option (AV×Heap):=
 (A.cells 2 a0).bind fun c1=>
 (A.ay 0 2 c1).bind fun x2=>
 (KS [x2,a1] σ).bind fun r3=>
 (Ig [a2] r3.2).bind fun r4=>
 ((((A.cell r3.1).bind fun v=>some [v]).bind fun c5=>(A.splice 0 c5 [ah,ah]).bind fun c6=>((A.cell r4.1).bind fun v=>some [v]).bind fun c7=>(A.splice 1 c7 c6).bind fun c8=>some c8).bind fun cs=>some (AV.sl 1 (chunks 1 2 cs))).bind fun x9=>
 (wI [x9] r4.2).bind fun kN=>
 (A.neq .i kN.1 ah).bind fun cg=>
 A.cond cg (
  A.fin σ kN.1 kN.2) (
  (A.ay 0 2 c1).bind fun ck=>
  (Fw [ck] kN.2).bind fun nK=>
  (A.ext 0 nK.1).bind fun cN=>
  (A.ext 1 nK.1).bind fun dF=>
  (A.bK cN).bind fun cB=>
  (A.loop (fun v17 wC=>
    (A.lss (v17.getD 0 AV.undef) cB).bind fun cR=>
    A.cond cR (
     (A.aW 2 cN (v17.getD 0 AV.undef)).bind fun cr=>
     ((A.deref cr wC).bind fun gB=>A.ay 0 2 gB).bind fun eC=>
     (A.cells 2 eC).bind fun iy=>
     (A.splice 0 iy [ah,bg]).bind fun iK=>
     (A.ay 0 2 iK).bind fun fK=>
     (A.eA (.s [0,2]) (AV.om nK.2.length) fK cK wC).bind fun h27=>
     (A.add (v17.getD 0 AV.undef) aH).bind fun x28=>
     some (AX.normal,[x28],h27)) (
     some (AX.exit 0,[(v17.getD 0 AV.undef)],wC))) [ah] (nK.2++[aK.map []])).bind fun gr=>
  bif gr.1==AX.exit 0 then(
   (A.bK a2).bind fun cW=>
   (A.loop (fun v31 sW=>
     (A.lss (v31.getD 1 AV.undef) cW).bind fun x34=>
     A.cond x34 (
      (A.aW 11 a2 (v31.getD 1 AV.undef)).bind fun gy=>
      ((A.deref gy sW).bind fun gD=>A.ay 0 11 gD).bind fun bR=>
      (A.cells 11 bR).bind fun jS=>
      (A.splice 0 jS [ah,bg,ah,ah,ah,ah,ah,AV.aq,aI,ah,AV.aq]).bind fun lp=>
      (A.aj 10 lp).bind fun dm=>
      (A.bK dm).bind fun ef=>
      (A.loop (fun C8 Kn=>
        (A.lss (C8.getD 1 AV.undef) ef).bind fun dU=>
        A.cond dU (
         (A.aW 8 dm (C8.getD 1 AV.undef)).bind fun fM=>
         ((A.deref fM Kn).bind fun iz=>A.ay 0 8 iz).bind fun iC=>
         (A.cells 8 iC).bind fun uO=>
         (A.splice 0 uO [ah,bg,ah,ah,aI,aI,ah,ah]).bind fun oa=>
         (A.ay 0 2 oa).bind fun iN=>
         (A.look (.s [0,2]) (AV.om nK.2.length) iN aI Kn).bind fun eD=>
         (A.not eD).bind fun gP=>
         A.cond gP (
          some (AX.ret,[(AV.int .i64 8),(C8.getD 1 AV.undef)],Kn)) (
          (A.ay 0 2 oa).bind fun gY=>
          (A.ay 2 2 oa).bind fun lG=>
          (Dn [a1,gY,lG] Kn).bind fun Oj=>
          (A.ext 0 Oj.1).bind fun kC=>
          (A.ext 1 Oj.1).bind fun gZ=>
          (A.neq .i gZ ah).bind fun eW=>
          A.cond eW (
           some (AX.ret,[gZ,(C8.getD 1 AV.undef)],Oj.2)) (
           (A.add (C8.getD 1 AV.undef) aH).bind fun gz=>
           some (AX.normal,[(C8.getD 0 AV.undef),gz],Oj.2)))) (
         some (AX.exit 4,[(C8.getD 0 AV.undef),(C8.getD 1 AV.undef)],Kn))) [(v31.getD 0 AV.undef),ah] sW).bind fun tU=>
      bif tU.1==AX.exit 4 then(
       (A.add (v31.getD 1 AV.undef) aH).bind fun eY=>
       some (AX.normal,[(tU.2.1.getD 0 AV.undef),eY],tU.2.2))else
      bif tU.1==AX.ret then(
       some (AX.ret,[(tU.2.1.getD 0 AV.undef),(v31.getD 1 AV.undef)],tU.2.2))else
      none) (
      some (AX.exit 2,[(v31.getD 0 AV.undef),(v31.getD 1 AV.undef)],sW))) [ah,ah] gr.2.2).bind fun C5=>
   bif C5.1==AX.exit 2 then(
    A.fin σ ah C5.2.2)else
   bif C5.1==AX.ret then(
    A.fin σ (C5.2.1.getD 0 AV.undef) C5.2.2)else
   none)else
  none)
noncomputable def Pf:List AV→Heap→Option (AV×Heap):=A.wrap true [(.a [(.e 3 [.k,.k,(.e 7 oV)]),(.s 4)]),(.e 3 [.k,.k,(.s 3)]),(.e 11 tK)] .k (A.ko Ph)
noncomputable def P8 (a0:AV) (σ:Heap):Option (AV×Heap):=
 (A.bK a0).bind fun x1=>
 (A.loop (fun v2 s3=>
   (A.lss (v2.getD 0 AV.undef) x1).bind fun x5=>
   A.cond x5 (
    (A.aW 11 a0 (v2.getD 0 AV.undef)).bind fun x6=>
    ((A.deref x6 s3).bind fun c7=>A.ay 0 11 c7).bind fun x8=>
    (A.cells 11 x8).bind fun c9=>
    (A.splice 0 c9 [ah,bg,ah,ah,ah,ah,ah,AV.aq,aI,ah,AV.aq]).bind fun dJ=>
    (A.aj 10 dJ).bind fun cg=>
    (A.bK cg).bind fun ck=>
    (A.loop (fun lB yy=>
      (A.lss (lB.getD 1 AV.undef) ck).bind fun cB=>
      A.cond cB (
       (A.aW 8 cg (lB.getD 1 AV.undef)).bind fun cQ=>
       ((A.deref cQ yy).bind fun iT=>A.ay 0 8 iT).bind fun bX=>
       (A.cells 8 bX).bind fun iJ=>
       (A.splice 0 iJ [ah,bg,ah,ah,aI,aI,ah,ah]).bind fun i7=>
       (A.aj 4 i7).bind fun cZ=>
       (A.cond cZ (
        (A.ay 0 2 i7).bind fun x24=>
        (A.Ec (.s [0,2]) (AV.om σ.length) x24 yy).bind fun h25=>
        some ([(lB.getD 0 AV.undef)],h25)) (
        (A.ay 0 2 i7).bind fun fK=>
        (A.ay 0 2 i7).bind fun dL=>
        (A.ay 2 2 i7).bind fun x28=>
        ((A.lb (lB.getD 0 AV.undef)).bind fun _=>some (0)).bind fun p29=>
        ((A.lb (lB.getD 0 AV.undef)).bind fun qn=>A.aj p29 qn).bind fun x31=>
        (((A.cells 2 dL).bind fun vW=>(A.splice 0 vW [ah,bg,ah,ah,ah]).bind fun Ev=>(A.cells 2 x28).bind fun sH=>(A.splice 2 sH Ev).bind fun gC=>((A.cell x31).bind fun v=>some [v]).bind fun gD=>(A.splice 4 gD gC).bind fun fJ=>some fJ).bind fun cs=>some (AV.agg cs)).bind fun x38=>
        (A.eA (.s [0,2]) (AV.om σ.length) fK x38 yy).bind fun rC=>
        some ([(lB.getD 0 AV.undef)],rC))).bind fun nL=>
       (A.add (lB.getD 1 AV.undef) aH).bind fun dm=>
       some (AX.normal,[(nL.1.getD 0 AV.undef),dm],nL.2)) (
       some (AX.exit 2,[(lB.getD 0 AV.undef),(lB.getD 1 AV.undef)],yy))) [(AV.lbx dJ),ah] s3).bind fun E5=>
    bif E5.1==AX.exit 2 then(
     (A.add (v2.getD 0 AV.undef) aH).bind fun fP=>
     some (AX.normal,[fP],E5.2.2))else
    none) (
    some (AX.exit 0,[(v2.getD 0 AV.undef)],s3))) [ah] (σ++[aK.map []])).bind fun iY=>
 bif iY.1==AX.exit 0 then(
  A.fin σ (AV.om σ.length) iY.2.2)else
 none
noncomputable def HZ:List AV→Heap→Option (AV×Heap):=A.wrap true [(.e 11 tK)] .k (A.dH P8)
noncomputable def Pj (a0 a1:AV) (σ:Heap):Option (AV×Heap):=
 (A.cells 11 a0).bind fun c1=>
 (A.aj 0 c1).bind fun x2=>
 (A.sub x2 a1).bind fun x3=>
 A.fin σ x3 σ
noncomputable def Di:List AV→Heap→Option (AV×Heap):=A.wrap true [(.a tK)] .k (A.bQ Pj)
noncomputable def LJ (a0 a1:AV) (σ:Heap):Option (AV×Heap):=
 (Fe (A.tab (fun _ _=>none) [(177,Di)]) [a0,a1,(AV.fn 177 [])] σ).bind fun r1=>
 (A.ext 0 r1.1).bind fun x2=>
 (A.ext 1 r1.1).bind fun x3=>
 A.fin σ (AV.aF [x2,x3]) r1.2
noncomputable def FI:List AV→Heap→Option (AV×Heap):=A.wrap true [(.e 11 tK)] .k (A.bQ LJ)
noncomputable def aea (a0 a1:AV) (σ:Heap):Option (AV×Heap):=
 (A.cells 5 a0).bind fun c1=>
 (A.cells 5 a1).bind fun c2=>
 (A.ay 0 2 c1).bind fun x3=>
 (A.ay 0 2 c2).bind fun x4=>
 (Lk [x3,x4] σ).bind fun r5=>
 A.fin σ r5.1 r5.2
noncomputable def VD:List AV→Heap→Option (AV×Heap):=A.wrap true [] .k (A.bQ aea)
noncomputable def LI (a0 a1:AV) (σ:Heap):Option (AV×Heap):=
 (Ig [a0] σ).bind fun r1=>
 (A.neq .i r1.1 ah).bind fun x2=>
 A.cond x2 (
  (A.fin σ (AV.aF [AV.aq,r1.1]) r1.2).map fun p=>(A.nn (.t [(.s 5),.k]) p.1,p.2)) (
  (FI [a0,a1] r1.2).bind fun r3=>
  (A.ext 0 r3.1).bind fun x4=>
  (A.ext 1 r3.1).bind fun x5=>
  (A.not x5).bind fun x6=>
  A.cond x6 (
   (A.fin σ (AV.aF [AV.aq,(AV.int .i64 8)]) r3.2).map fun p=>(A.nn (.t [(.s 5),.k]) p.1,p.2)) (
   (A.add x4 aH).bind fun x7=>
   (A.DK 11 a0 none (some x7) r3.2).bind fun x8=>
   (HZ [x8] r3.2).bind fun r9=>
   (A.Cj r9.1).bind fun aog=>
   A.AE (fun v11 BG Oe=>
     A.tC (AV.op r9.2.length 0) BG fun cN BH=>
     (A.ext 0 cN).bind fun cB=>
     A.cond cB (
      (A.vD (AV.op r9.2.length 0) BH).bind fun cQ=>
      (A.ext 1 cQ).bind fun bF=>
      (A.cells 5 bF).bind fun jQ=>
      (A.splice 0 jQ [ah,bg,ah,ah,ah]).bind fun iJ=>
      (A.ay 0 5 iJ).bind fun cr=>
      (((A.cells 5 cr).bind fun gB=>(A.splice 0 gB [ah,bg,ah,ah,ah]).bind fun fk=>some fk).bind fun cs=>some (AV.sl 5 (chunks 5 1 cs))).bind fun x24=>
      (A.append 5 (140737488355328 / 48) (v11.getD 0 AV.undef) x24 BH).bind fun jV=>
      Oe (AX.normal,[jV.1],jV.2)) (
      Oe (AX.exit 0,[(v11.getD 0 AV.undef)],BH))) [AV.aq] (r9.2++[aK.it [] aog]) fun kr=>
   bif kr.1==AX.exit 0 then(
    (Hx [(kr.2.1.getD 0 AV.undef),(AV.fn 297 [])] kr.2.2).bind fun yl=>
    (A.fin σ (AV.aF [(kr.2.1.getD 0 AV.undef),ah]) yl.2).map fun p=>(A.nn (.t [(.s 5),.k]) p.1,p.2))else
   none))
noncomputable def Lw:List AV→Heap→Option (AV×Heap):=A.wrap true [(.e 11 tK)] (.t [(.s 5),.k]) (A.bQ LI)
end
section
set_option maxRecDepth 100000
noncomputable def Pm (a0 a1:AV) (σ:Heap):Option (AV×Heap):=
 (A.cells 2 a0).bind fun c1=>
 (A.aj 0 c1).bind fun x2=>
 ((A.deref a1 σ).bind fun c3=>A.aj 0 c3).bind fun x4=>
 (A.eql .i x2 x4).bind fun x5=>
 A.fin σ x5 σ
noncomputable def HL:List AV→Heap→Option (AV×Heap):=A.wrap true [(.a [.k,(.s 11)])] .k (A.bQ Pm)
noncomputable def LL (a0 a1:AV) (σ:Heap):Option (AV×Heap):=
 (A.cells 5 a0).bind fun c1=>
 (((A.cell a1).bind fun v=>some [v]).bind fun cs=>some (AV.rp cs)).bind fun x2=>
 (A.aj 3 c1).bind fun x3=>
 (KN (A.tab (fun _ _=>none) [(127,HL)]) [x3,(AV.fn 127 [x2])] σ).bind fun r4=>
 (A.lss r4.1 ah).bind fun x5=>
 A.cond x5 (
  (A.cells 2 (AV.agg [ah,AV.aq])).bind fun c6=>
  (A.splice 0 c6 [ah,AV.aq]).bind fun c7=>
  (A.ay 0 2 c7).bind fun x8=>
  A.fin σ (AV.aF [x8,aI]) r4.2) (
  (A.aj 3 c1).bind fun x9=>
  (A.aW 2 x9 r4.1).bind fun bE=>
  ((A.deref bE r4.2).bind fun fN=>A.ay 0 2 fN).bind fun ck=>
  (A.cells 2 ck).bind fun fV=>
  (A.splice 0 fV [ah,AV.aq]).bind fun i6=>
  (A.ay 0 2 i6).bind fun dF=>
  A.fin σ (AV.aF [dF,cK]) r4.2)
noncomputable def BS:List AV→Heap→Option (AV×Heap):=A.wrap true Cw (.t [(.a [.k,(.e 11 tK)]),.k]) (A.bQ LL)
noncomputable def O7 (a0:AV) (σ:Heap):Option (AV×Heap):=
 (A.cells 5 a0).bind fun c1=>
 (A.ay 0 2 c1).bind fun x2=>
 (A.aj 2 c1).bind fun x3=>
 (A.quiet (KS [x2,x3] σ) σ).bind fun x4=>
 (A.aj 3 c1).bind fun x5=>
 (A.bK x5).bind fun x6=>
 (A.gtr x6 (AV.int .i64 30)).bind fun x7=>
 (A.quiet (qE [x7,(AV.int .i64 2)] σ) σ).bind fun x8=>
 ((((A.cell x4).bind fun v=>some [v]).bind fun c9=>(A.splice 0 c9 [ah,ah]).bind fun dJ=>((A.cell x8).bind fun v=>some [v]).bind fun fN=>(A.splice 1 fN dJ).bind fun dX=>some dX).bind fun cs=>some (AV.sl 1 (chunks 1 2 cs))).bind fun dh=>
 (A.quiet (wI [dh] σ) σ).bind fun cN=>
 (A.neq .i cN ah).bind fun dF=>
 A.cond dF (
  A.fin σ cN σ) (
  (A.aj 3 c1).bind fun cB=>
  (A.bK cB).bind fun cQ=>
  (A.loop (fun mK US=>
    (A.lss (mK.getD 2 AV.undef) cQ).bind fun cr=>
    A.cond cr (
     (A.aW 2 cB (mK.getD 2 AV.undef)).bind fun cZ=>
     ((A.deref cZ US).bind fun fk=>A.ay 0 2 fk).bind fun x24=>
     (A.cells 2 x24).bind fun iK=>
     (A.splice 0 iK [ah,AV.aq]).bind fun fW=>
     (A.aj 0 fW).bind fun dL=>
     (jG [dL,aH,(AV.int .i64 999)] US).bind fun sR=>
     (A.not sR.1).bind fun x29=>
     A.cond x29 (
      some (AX.ret,[(mK.getD 0 AV.undef),aH,(mK.getD 2 AV.undef)],sR.2)) (
      (A.gtr (mK.getD 2 AV.undef) ah).bind fun cW=>
      (A.guard cW true (A.aj 0 fW) an).bind fun x31=>
      ((A.lb (mK.getD 0 AV.undef)).bind fun _=>some (3)).bind fun p32=>
            (A.guard cW true ((A.lb (mK.getD 0 AV.undef)).bind fun Ev=>A.aj p32 Ev) an).bind fun x34=>
      (A.guard cW true (some (mK.getD 2 AV.undef)) an).bind fun gy=>
      (A.guard cW true (A.sub gy aH) an).bind fun gX=>
      (A.guard cW true (A.aW 2 x34 gX) an).bind fun bR=>
      (A.guard cW true (A.aA 0 bR) an).bind fun x38=>
      (A.guard cW true ((A.deref x38 sR.2).bind fun lp=>A.aj 0 lp) an).bind fun dm=>
      (A.guard cW true (A.leq x31 dm) an).bind fun ef=>
      (A.pick cW ef aI).bind fun fP=>
      A.cond fP (
       some (AX.ret,[(mK.getD 0 AV.undef),(AV.int .i64 7),(mK.getD 2 AV.undef)],sR.2)) (
       ((A.lb (mK.getD 0 AV.undef)).bind fun _=>some (0)).bind fun p43=>
       ((A.lb (mK.getD 0 AV.undef)).bind fun Ew=>A.ay p43 2 Ew).bind fun dU=>
       ((A.lb (mK.getD 0 AV.undef)).bind fun _=>some (2)).bind fun Kc=>
       ((A.lb (mK.getD 0 AV.undef)).bind fun iz=>A.aj Kc iz).bind fun iC=>
       (A.aj 1 fW).bind fun eP=>
       (Pf [dU,iC,eP] sR.2).bind fun cV=>
       (A.neq .i cV.1 ah).bind fun iN=>
       A.cond iN (
        some (AX.ret,[(mK.getD 0 AV.undef),cV.1,(mK.getD 2 AV.undef)],cV.2)) (
        (A.add (mK.getD 2 AV.undef) aH).bind fun eD=>
        some (AX.normal,[(mK.getD 0 AV.undef),(mK.getD 1 AV.undef),eD],cV.2))))) (
     some (AX.exit 0,[(mK.getD 0 AV.undef),(mK.getD 1 AV.undef),(mK.getD 2 AV.undef)],US))) [(AV.lbx c1),ah,ah] σ).bind fun cq=>
  bif cq.1==AX.exit 0 then(
   ((A.lb (cq.2.1.getD 0 AV.undef)).bind fun _=>some (4)).bind fun p54=>
   ((A.lb (cq.2.1.getD 0 AV.undef)).bind fun gM=>A.aj p54 gM).bind fun gG=>
   (A.bK gG).bind fun kC=>
   (A.gtr kC (AV.int .i64 40)).bind fun gZ=>
   A.cond gZ (
    A.fin σ (AV.int .i64 2) cq.2.2) (
    ((A.lb (cq.2.1.getD 0 AV.undef)).bind fun _=>some (4)).bind fun p59=>
    ((A.lb (cq.2.1.getD 0 AV.undef)).bind fun Bj=>A.aj p59 Bj).bind fun jA=>
    (A.bK jA).bind fun eY=>
    (A.loop (fun nj UU=>
      (A.lss (nj.getD 2 AV.undef) eY).bind fun gH=>
      A.cond gH (
       (A.aW 3 jA (nj.getD 2 AV.undef)).bind fun jX=>
       ((A.deref jX UU).bind fun JA=>A.ay 0 3 JA).bind fun fQ=>
       (A.cells 3 fQ).bind fun EB=>
       (A.splice 0 EB [ah,ah,ah]).bind fun lR=>
       (A.aj 0 lR).bind fun qy=>
       (jG [qy,aH,(AV.int .i64 40)] UU).bind fun Kj=>
       (A.not Kj.1).bind fun iq=>
       A.cond iq (
        some (AX.ret,[(nj.getD 0 AV.undef),aH,(nj.getD 2 AV.undef)],Kj.2)) (
        (A.gtr (nj.getD 2 AV.undef) ah).bind fun eu=>
        (A.guard eu true (A.aj 0 lR) an).bind fun iD=>
        ((A.lb (nj.getD 0 AV.undef)).bind fun _=>some (4)).bind fun sQ=>
                (A.guard eu true ((A.lb (nj.getD 0 AV.undef)).bind fun oh=>A.aj sQ oh) an).bind fun jF=>
        (A.guard eu true (some (nj.getD 2 AV.undef)) an).bind fun fA=>
        (A.guard eu true (A.sub fA aH) an).bind fun oC=>
        (A.guard eu true (A.aW 3 jF oC) an).bind fun oD=>
        (A.guard eu true (A.aA 0 oD) an).bind fun pK=>
        (A.guard eu true ((A.deref pK Kj.2).bind fun jc=>A.aj 0 jc) an).bind fun iE=>
        (A.guard eu true (A.leq iD iE) an).bind fun jh=>
        (A.pick eu jh aI).bind fun mo=>
        A.cond mo (
         some (AX.ret,[(nj.getD 0 AV.undef),(AV.int .i64 7),(nj.getD 2 AV.undef)],Kj.2)) (
         ((A.lb (nj.getD 0 AV.undef)).bind fun Bm=>A.ay 0 5 Bm).bind fun BK=>
         (A.aj 1 lR).bind fun x90=>
         (BS [BK,x90] Kj.2).bind fun zO=>
         (A.ext 0 zO.1).bind fun oF=>
         (A.ext 1 zO.1).bind fun x93=>
         (A.cells 2 oF).bind fun oo=>
         (A.splice 0 oo [ah,AV.aq]).bind fun iU=>
         (A.not x93).bind fun x96=>
         A.cond x96 (
          some (AX.ret,[(nj.getD 0 AV.undef),(AV.int .i64 8),(nj.getD 2 AV.undef)],zO.2)) (
          (A.aj 2 lR).bind fun yC=>
          (jG [yC,ah,(AV.int .i64 100)] zO.2).bind fun zP=>
          (A.not zP.1).bind fun x99=>
          A.cond x99 (
           some (AX.ret,[(nj.getD 0 AV.undef),aH,(nj.getD 2 AV.undef)],zP.2)) (
           (A.add (nj.getD 2 AV.undef) aH).bind fun nX=>
           some (AX.normal,[(nj.getD 0 AV.undef),(nj.getD 1 AV.undef),nX],zP.2)))))) (
       some (AX.exit 2,[(nj.getD 0 AV.undef),(nj.getD 1 AV.undef),(nj.getD 2 AV.undef)],UU))) [(cq.2.1.getD 0 AV.undef),(cq.2.1.getD 1 AV.undef),ah] cq.2.2).bind fun vS=>
    bif vS.1==AX.exit 2 then(
     A.fin σ ah vS.2.2)else
    bif vS.1==AX.ret then(
     A.fin σ (vS.2.1.getD 1 AV.undef) vS.2.2)else
    none))else
  bif cq.1==AX.ret then(
   A.fin σ (cq.2.1.getD 1 AV.undef) cq.2.2)else
  none)
noncomputable def KZ:List AV→Heap→Option (AV×Heap):=A.wrap true Cw .k (A.dH O7)
noncomputable def OZ (a0:AV) (σ:Heap):Option (AV×Heap):=
 (A.cells 5 a0).bind fun c1=>
 (A.aj 1 c1).bind fun x2=>
 (jG [x2,aH,(AV.int .i64 9)] σ).bind fun r3=>
 (A.not r3.1).bind fun x4=>
 A.cond x4 (
  A.fin σ (AV.int .i64 4) r3.2) (
  (A.aj 1 c1).bind fun x5=>
  (A.eql .i x5 (AV.int .i64 8)).bind fun x6=>
  (A.guard x6 false (A.aj 1 c1) an).bind fun x7=>
  (A.guard x6 false (A.eql .i x7 (AV.int .i64 9)) an).bind fun x8=>
  (A.pick x6 cK x8).bind fun x9=>
  (A.guard x9 false (A.aj 1 c1) an).bind fun bE=>
  (A.guard x9 false (A.eql .i bE (AV.int .i64 6)) an).bind fun cg=>
  (A.pick x9 cK cg).bind fun ck=>
  (A.guard ck false (A.aj 1 c1) an).bind fun dh=>
  (A.guard ck false (A.eql .i dh (AV.int .i64 7)) an).bind fun cN=>
  (A.pick ck cK cN).bind fun dF=>
  (A.guard x9 true (A.aj 2 c1) an).bind fun cB=>
  (A.guard x9 true (A.neq .i cB ah) an).bind fun cQ=>
  (A.pick x9 cQ aI).bind fun bF=>
  (A.guard bF false (A.aj 1 c1) an).bind fun bX=>
  (A.guard bF false (A.neq .i bX (AV.int .i64 3)) an).bind fun cR=>
  (A.guard bF false (some cR) an).bind fun cr=>
  (A.guard cr true (A.aj 3 c1) an).bind fun cZ=>
  (A.guard cr true (A.neq .i cZ ah) an).bind fun eC=>
  (A.guard bF false (A.pick cr eC aI) an).bind fun x24=>
  (A.pick bF cK x24).bind fun x25=>
  (A.guard x25 false (some dF) an).bind fun fK=>
  (A.guard x25 false (A.not fK) an).bind fun dL=>
  (A.guard x25 false (some dL) an).bind fun x28=>
  (A.guard x28 true (A.aj 4 c1) an).bind fun x29=>
  (A.guard x28 true (A.neq .i x29 ah) an).bind fun cW=>
  (A.guard x25 false (A.pick x28 cW aI) an).bind fun x31=>
  (A.pick x25 cK x31).bind fun x32=>
  A.cond x32 (
   A.fin σ (AV.int .i64 3) r3.2) (
   A.fin σ ah r3.2))
noncomputable def KV:List AV→Heap→Option (AV×Heap):=A.wrap true [] .k (A.dH OZ)
noncomputable def OK (a0 a1:AV) (σ:Heap):Option (AV×Heap):=
 (A.cells 3 a0).bind fun c1=>
 (A.aj 0 c1).bind fun x2=>
 (A.aA 2 a1).bind fun x3=>
 ((A.deref x3 σ).bind fun c4=>A.aj 0 c4).bind fun x5=>
 (A.eql .i x2 x5).bind fun x6=>
 A.fin σ x6 σ
noncomputable def Hy:List AV→Heap→Option (AV×Heap):=A.wrap true [] .k (A.bQ OK)
noncomputable def KX (a0 a1:AV) (σ:Heap):Option (AV×Heap):=
 (A.cells 5 a0).bind fun c1=>
 ((A.cells 5 a1).bind fun cs=>some (AV.rp cs)).bind fun x2=>
 (A.aA 1 x2).bind fun x3=>
 ((A.deref x3 σ).bind fun c4=>A.aj 0 c4).bind fun x5=>
 (A.eql .i x5 (AV.int .i64 8)).bind fun x6=>
 (A.guard x6 false (A.aA 1 x2) an).bind fun x7=>
 (A.guard x6 false ((A.deref x7 σ).bind fun c8=>A.aj 0 c8) an).bind fun x9=>
 (A.guard x6 false (A.eql .i x9 (AV.int .i64 9)) an).bind fun bE=>
 (A.pick x6 cK bE).bind fun cg=>
 (A.not cg).bind fun ck=>
 (A.guard ck true (A.aj 4 c1) an).bind fun dh=>
 (A.guard ck true (some (AV.fn 152 [x2])) an).bind fun cN=>
 (A.guard ck true (A.quiet (KE (A.tab (fun _ _=>none) [(152,Hy)]) [dh,cN] σ) σ) an).bind fun dF=>
 (A.guard ck true (A.not dF) an).bind fun cB=>
 (A.pick ck cB aI).bind fun cQ=>
 A.cond cQ (
  A.fin σ (AV.int .i64 8) σ) (
  (A.aA 1 x2).bind fun bF=>
  ((A.deref bF σ).bind fun jQ=>A.aj 0 jQ).bind fun cR=>
  (A.eql .i cR (AV.int .i64 6)).bind fun cr=>
  (A.cond cr (
   some ([(AV.int .i64 36000000)],σ)) (
   (A.eql .i cR (AV.int .i64 9)).bind fun eC=>
   (A.cond eC (
    some ([aH],σ)) (
    some ([(AV.int .i64 65535)],σ))).bind fun tT=>
   some ([(tT.1.getD 0 AV.undef)],tT.2))).bind fun E4=>
  (A.aA 4 x2).bind fun x25=>
  ((A.deref x25 E4.2).bind fun fW=>A.aj 0 fW).bind fun dL=>
  (jG [dL,ah,(E4.1.getD 0 AV.undef)] E4.2).bind fun sR=>
  (A.not sR.1).bind fun x29=>
  (qE [x29,aH] sR.2).bind fun BE=>
  A.fin σ BE.1 BE.2)
noncomputable def KW:List AV→Heap→Option (AV×Heap):=A.wrap true Cw .k (A.bQ KX)
noncomputable def VS (a0:AV) (σ:Heap):Option (AV×Heap):=
 (jG [a0,ah,(AV.int .i64 36000000)] σ).bind fun r1=>
 A.fin σ r1.1 r1.2
noncomputable def HS:List AV→Heap→Option (AV×Heap):=A.wrap true [] .k (A.dH VS)
noncomputable def Vx (a0:AV) (σ:Heap):Option (AV×Heap):=
 (A.aN a0).bind fun x1=>
 (A.aA 11 x1).bind fun x2=>
 ((A.deref x2 σ).bind fun c3=>A.aj 0 c3).bind fun x4=>
 (A.bK x4).bind fun x5=>
 (A.eql .i x5 ah).bind fun x6=>
 A.cond x6 (
  A.fin σ ah σ) (
  (A.aN a0).bind fun x7=>
  (A.aA 11 x7).bind fun x8=>
  ((A.deref x8 σ).bind fun c9=>A.aj 0 c9).bind fun bE=>
  (A.aN a0).bind fun cg=>
  (A.aA 11 cg).bind fun ck=>
  ((A.deref ck σ).bind fun fV=>A.aj 0 fV).bind fun cN=>
  (A.bK cN).bind fun dF=>
  (A.sub dF aH).bind fun cB=>
  (A.aW 5 bE cB).bind fun cQ=>
  (A.aA 0 cQ).bind fun bF=>
  ((A.deref bF σ).bind fun jQ=>A.aj 0 jQ).bind fun cR=>
  A.fin σ cR σ)
noncomputable def Fp:List AV→Heap→Option (AV×Heap):=A.wrap true [(.p CV)] .k (A.dH Vx)
noncomputable def Vz (a0:AV) (σ:Heap):Option (AV×Heap):=
 (A.aN a0).bind fun x1=>
 (A.aA 8 x1).bind fun x2=>
 ((A.deref x2 σ).bind fun c3=>A.aj 0 c3).bind fun x4=>
 (A.lss x4 ah).bind fun x5=>
 (A.guard x5 false (some a0) an).bind fun x6=>
 (A.guard x5 false (A.aN x6) an).bind fun x7=>
 (A.guard x5 false (A.aA 0 x7) an).bind fun x8=>
 (A.guard x5 false (A.aA 2 x8) an).bind fun x9=>
 (A.guard x5 false ((A.deref x9 σ).bind fun dJ=>A.aj 0 dJ) an).bind fun cg=>
 (A.pick x5 cK cg).bind fun ck=>
 A.cond ck (
  A.fin σ (AV.int .i64 (-1)) σ) (
  (A.aN a0).bind fun dh=>
  (A.aA 0 dh).bind fun cN=>
  (A.aA 1 cN).bind fun dF=>
  ((A.deref dF σ).bind fun jO=>A.aj 0 jO).bind fun cQ=>
  (A.aN a0).bind fun bF=>
  (A.aA 8 bF).bind fun bX=>
  ((A.deref bX σ).bind fun iJ=>A.aj 0 iJ).bind fun cr=>
  (A.add cQ cr).bind fun cZ=>
  (A.aN a0).bind fun eC=>
  (A.aA 0 eC).bind fun x24=>
  (A.aA 0 x24).bind fun x25=>
  ((A.deref x25 σ).bind fun fW=>A.aj 0 fW).bind fun dL=>
  (A.sub cZ dL).bind fun x28=>
  A.fin σ x28 σ)
noncomputable def BP:List AV→Heap→Option (AV×Heap):=A.wrap true [(.p [.k,.k,.k,.k,.k,(.s 11),.k,.k,.k,.k])] .k (A.dH Vz)
noncomputable def VF (a0 a1:AV) (σ:Heap):Option (AV×Heap):=
 (A.cells 3 a0).bind fun c1=>
 (A.aj 2 c1).bind fun x2=>
 A.cond x2 (
  (A.aj 0 c1).bind fun x3=>
  A.fin σ x3 σ) (
  (A.aj 0 c1).bind fun x4=>
  (A.add x4 a1).bind fun x5=>
  (A.aj 1 c1).bind fun x6=>
  (A.sub x5 x6).bind fun x7=>
  A.fin σ x7 σ)
noncomputable def wF:List AV→Heap→Option (AV×Heap):=A.wrap true [] .k (A.bQ VF)
noncomputable def VL (a0:AV) (σ:Heap):Option (AV×Heap):=
 (A.cells 9 a0).bind fun c1=>
 (A.aj 2 c1).bind fun x2=>
 (A.aj 3 c1).bind fun x3=>
 (A.add x2 x3).bind fun x4=>
 (A.aj 4 c1).bind fun x5=>
 (A.add x4 x5).bind fun x6=>
 A.fin σ x6 σ
noncomputable def Pt:List AV→Heap→Option (AV×Heap):=A.wrap true [(.a [.k,.k,.k,.k,.k,.k,(.s 2),.k,.k])] .k (A.dH VL)
noncomputable def OS (a0 a1 a2:AV) (σ:Heap):Option (AV×Heap):=
 (A.cells 2 a1).bind fun c1=>
 (A.aN a0).bind fun x2=>
 (A.aA 9 x2).bind fun x3=>
 ((A.deref x3 σ).bind fun c4=>A.aj 0 c4).bind fun x5=>
 (A.ay 0 2 c1).bind fun x6=>
 (A.Cg (.s [0,2]) x5 x6 (AV.agg [ah,ah,ah,ah,ah,ah,AV.aq,ah,aI]) σ).bind fun x7=>
 (A.ext 0 x7).bind fun x8=>
 (A.ext 1 x7).bind fun x9=>
 (A.cells 9 x8).bind fun dJ=>
 (A.splice 0 dJ [ah,ah,ah,ah,ah,ah,AV.aq,ah,aI]).bind fun fN=>
 (A.ay 0 9 fN).bind fun ck=>
 (A.guard x9 true (A.aj 8 fN) an).bind fun dh=>
 (A.guard x9 true (some dh) an).bind fun cN=>
 (A.guard cN true (some a2) an).bind fun dF=>
 (A.guard cN true (A.ay 0 9 fN) an).bind fun cB=>
 (A.guard cN true (A.quiet (Pt [cB] σ) σ) an).bind fun cQ=>
 (A.guard cN true (A.geq dF cQ) an).bind fun bF=>
 (A.guard x9 true (A.pick cN bF aI) an).bind fun bX=>
 (A.guard x9 true (A.not bX) an).bind fun cR=>
 (A.pick x9 cR aI).bind fun cr=>
 (A.cells 9 ck).bind fun gB=>
 (A.splice 0 gB [ah,ah,ah,ah,ah,ah,AV.aq,ah,aI]).bind fun fk=>
 (A.ay 0 9 fk).bind fun x24=>
 A.fin σ (AV.aF [x24,cr]) σ
noncomputable def qA:List AV→Heap→Option (AV×Heap):=A.wrap false [] (.t [(.a [.k,.k,.k,.k,.k,.k,(.s 2),.k,.k]),.k]) (A.ko OS)
noncomputable def VA (a0 a1:AV) (σ:Heap):Option (AV×Heap):=
 (A.cells 9 a0).bind fun c1=>
 (A.ay 0 7 c1).bind fun x2=>
 (A.min a1 (AV.int .i64 36000000)).bind fun x3=>
 (Ih [x2,x3] σ).bind fun r4=>
 (A.ext 0 r4.1).bind fun x5=>
 (A.ext 1 r4.1).bind fun x6=>
 A.fin σ x5 r4.2
noncomputable def vn:List AV→Heap→Option (AV×Heap):=A.wrap true [(.a [.k,.k,.k,.k,.k,.k,(.s 2),.k,.k])] .k (A.bQ VA)
noncomputable def Vl (a0 a1 a2 a3:AV) (σ:Heap):Option (AV×Heap):=
 (A.cells 2 a2).bind fun c1=>
 (A.aN a0).bind fun x2=>
 (A.aA 10 x2).bind fun x3=>
 ((A.deref x3 σ).bind fun c4=>A.aj 0 c4).bind fun x5=>
 (A.ay 0 2 c1).bind fun x6=>
 (A.look (.s [0,2]) x5 x6 (AV.agg [bg,ah,ah,ah,ah,aI,AV.aq]) σ).bind fun x7=>
 (A.cells 7 x7).bind fun c8=>
 (A.splice 0 c8 [bg,ah,ah,ah,ah,aI,AV.aq]).bind fun c9=>
 (A.aj 4 c9).bind fun bE=>
 (A.aN a1).bind fun cg=>
 (A.aA 0 cg).bind fun ck=>
 ((A.deref ck σ).bind fun fV=>A.aj 0 fV).bind fun cN=>
 (A.bK cN).bind fun dF=>
 (A.loop (fun aZ lz=>
   (A.lss (aZ.getD 6 AV.undef) dF).bind fun bX=>
   A.cond bX (
    (A.aN a1).bind fun cR=>
    (A.aA 0 cR).bind fun cr=>
    ((A.deref cr lz).bind fun gB=>A.aj 0 gB).bind fun eC=>
    (A.aW 10 eC (aZ.getD 6 AV.undef)).bind fun x24=>
    (A.aN x24).bind fun x25=>
    (A.aA 0 x25).bind fun fK=>
    ((A.deref fK lz).bind fun jR=>A.ay 0 3 jR).bind fun x28=>
    (wF [x28,a3] lz).bind fun gr=>
    ((A.lb (aZ.getD 0 AV.undef)).bind fun qn=>A.ay 0 2 qn).bind fun x31=>
    (qA [x24,x31,gr.1] gr.2).bind fun r32=>
    (A.ext 0 r32.1).bind fun ep=>
    (A.ext 1 r32.1).bind fun x34=>
    (A.cells 9 ep).bind fun gC=>
    (A.splice 0 gC [ah,ah,ah,ah,ah,ah,AV.aq,ah,aI]).bind fun gD=>
    (A.not x34).bind fun bR=>
    (A.guard bR false (some x24) an).bind fun x38=>
    (A.guard bR false (A.aN x38) an).bind fun fu=>
    (A.guard bR false (A.aA 4 fu) an).bind fun dm=>
    (A.guard bR false ((A.deref dm r32.2).bind fun sI=>A.aj 0 sI) an).bind fun fP=>
    (A.guard bR false (some (aZ.getD 4 AV.undef)) an).bind fun fL=>
    (A.guard bR false (A.lss fP fL) an).bind fun eO=>
    (A.pick bR cK eO).bind fun dU=>
    A.cond dU (
     (A.add (aZ.getD 6 AV.undef) aH).bind fun fM=>
     some (AX.normal,[(aZ.getD 0 AV.undef),(aZ.getD 1 AV.undef),(aZ.getD 2 AV.undef),(aZ.getD 3 AV.undef),(aZ.getD 4 AV.undef),(aZ.getD 5 AV.undef),fM],r32.2)) (
     (A.ay 0 9 gD).bind fun iV=>
     (vn [iV,gr.1] r32.2).bind fun kP=>
     ((A.lb (aZ.getD 1 AV.undef)).bind fun _=>some (1)).bind fun Ke=>
     ((A.lb (aZ.getD 1 AV.undef)).bind fun oa=>A.aj Ke oa).bind fun iN=>
     (A.eql .i iN aH).bind fun eD=>
     (A.cond eD (
      (A.aN x24).bind fun gY=>
      (A.aA 7 gY).bind fun lG=>
      ((A.deref lG kP.2).bind fun mU=>A.aj 0 mU).bind fun kC=>
      (Dl [kP.1,kC] kP.2).bind fun ym=>
      (A.ext 0 ym.1).bind fun eW=>
      (A.ext 1 ym.1).bind fun gz=>
      some ([(aZ.getD 0 AV.undef),(aZ.getD 1 AV.undef),(AV.lbx gD),eW],ym.2)) (
      some ([(aZ.getD 0 AV.undef),(aZ.getD 1 AV.undef),(AV.lbx gD),kP.1],kP.2))).bind fun cq=>
     (A.aN x24).bind fun jA=>
     (A.aA 4 jA).bind fun eY=>
     ((A.deref eY cq.2).bind fun uP=>A.aj 0 uP).bind fun mj=>
     (A.gtr mj (aZ.getD 4 AV.undef)).bind fun jf=>
     ((A.lb (cq.1.getD 1 AV.undef)).bind fun _=>some (1)).bind fun Kf=>
          (A.guard jf false ((A.lb (cq.1.getD 1 AV.undef)).bind fun sL=>A.aj Kf sL) an).bind fun gI=>
     (A.guard jf false (A.eql .i gI aH) an).bind fun fQ=>
     (A.guard jf false (some fQ) an).bind fun eZ=>
     (A.guard eZ true (some (cq.1.getD 3 AV.undef)) an).bind fun mm=>
     (A.guard eZ true (some (aZ.getD 2 AV.undef)) an).bind fun qy=>
     (A.guard eZ true (A.gtr mm qy) an).bind fun hG=>
     (A.guard jf false (A.pick eZ hG aI) an).bind fun iq=>
     (A.pick jf cK iq).bind fun eu=>
     ((A.lb (cq.1.getD 1 AV.undef)).bind fun _=>some (1)).bind fun EX=>
          (A.guard eu false ((A.lb (cq.1.getD 1 AV.undef)).bind fun l7=>A.aj EX l7) an).bind fun jg=>
     (A.guard eu false (A.neq .i jg aH) an).bind fun jF=>
     (A.guard eu false (some jF) an).bind fun fA=>
     ((A.lb (cq.1.getD 2 AV.undef)).bind fun _=>some (7)).bind fun Kg=>
          (A.guard fA true ((A.lb (cq.1.getD 2 AV.undef)).bind fun lE=>A.aj Kg lE) an).bind fun pK=>
     (A.guard fA true (some (aZ.getD 5 AV.undef)) an).bind fun yB=>
     (A.guard fA true (A.gtr pK yB) an).bind fun iE=>
     (A.guard eu false (A.pick fA iE aI) an).bind fun jh=>
     (A.pick eu cK jh).bind fun mo=>
     (A.cond mo (
      (A.aN x24).bind fun BK=>
      (A.aA 3 BK).bind fun x90=>
      ((A.deref x90 cq.2).bind fun Bn=>A.aj 0 Bn).bind fun oF=>
      (A.aN x24).bind fun x93=>
      (A.aA 4 x93).bind fun rK=>
      ((A.deref rK cq.2).bind fun iU=>A.aj 0 iU).bind fun x96=>
      ((A.lb (cq.1.getD 2 AV.undef)).bind fun _=>some (7)).bind fun Kh=>
      ((A.lb (cq.1.getD 2 AV.undef)).bind fun mY=>A.aj Kh mY).bind fun x99=>
      some ([(cq.1.getD 0 AV.undef),(cq.1.getD 1 AV.undef),(cq.1.getD 3 AV.undef),oF,x96,x99],cq.2)) (
      some ([(cq.1.getD 0 AV.undef),(cq.1.getD 1 AV.undef),(aZ.getD 2 AV.undef),(aZ.getD 3 AV.undef),(aZ.getD 4 AV.undef),(aZ.getD 5 AV.undef)],cq.2))).bind fun mh=>
     (A.add (aZ.getD 6 AV.undef) aH).bind fun nX=>
     some (AX.normal,[(mh.1.getD 0 AV.undef),(mh.1.getD 1 AV.undef),(mh.1.getD 2 AV.undef),(mh.1.getD 3 AV.undef),(mh.1.getD 4 AV.undef),(mh.1.getD 5 AV.undef),nX],mh.2))) (
    some (AX.exit 0,[(aZ.getD 0 AV.undef),(aZ.getD 1 AV.undef),(aZ.getD 2 AV.undef),(aZ.getD 3 AV.undef),(aZ.getD 4 AV.undef),(aZ.getD 5 AV.undef),(aZ.getD 6 AV.undef)],lz))) [(AV.lbx c1),(AV.lbx c9),bE,ah,(AV.int .i64 (-1)),ah,ah] σ).bind fun vS=>
 bif vS.1==AX.exit 0 then(
  A.fin σ (AV.aF [(vS.2.1.getD 2 AV.undef),(vS.2.1.getD 3 AV.undef)]) vS.2.2)else
 none
noncomputable def BN:List AV→Heap→Option (AV×Heap):=A.wrap true [(.p CV),(.p [(.s 10),.k,.k,.k])] .k (A.vV Vl)
noncomputable def Ve (a0 a1:AV) (σ:Heap):Option (AV×Heap):=
 (A.cells 8 a0).bind fun c1=>
 (A.ay 0 2 c1).bind fun x2=>
 ((A.deref a1 σ).bind fun c3=>A.ay 0 2 c3).bind fun x4=>
 (A.eql (.s [0,2]) x2 x4).bind fun x5=>
 A.fin σ x5 σ
noncomputable def Fl:List AV→Heap→Option (AV×Heap):=A.wrap true [] .k (A.bQ Ve)
noncomputable def W7 (a0:AV) (σ:Heap):Option (AV×Heap):=
 (A.cells 7 a0).bind fun c1=>
 (A.aj 2 c1).bind fun x2=>
 (A.min x2 (AV.int .i64 36000000)).bind fun x3=>
 ((A.cell x3).bind fun v=>some [v]).bind fun c4=>
 (A.splice 2 c4 c1).bind fun c5=>
 (A.aj 3 c5).bind fun x6=>
 (A.aj 2 c5).bind fun x7=>
 (A.sub (AV.int .i64 36000000) x7).bind fun x8=>
 (A.min x6 x8).bind fun x9=>
 ((A.cell x9).bind fun v=>some [v]).bind fun dJ=>
 (A.splice 3 dJ c5).bind fun fN=>
 (A.aj 4 fN).bind fun ck=>
 (A.aj 2 fN).bind fun dh=>
 (A.sub (AV.int .i64 36000000) dh).bind fun cN=>
 (A.aj 3 fN).bind fun dF=>
 (A.sub cN dF).bind fun cB=>
 (A.min ck cB).bind fun cQ=>
 ((A.cell cQ).bind fun v=>some [v]).bind fun iT=>
 (A.splice 4 iT fN).bind fun jQ=>
 (A.ay 0 7 jQ).bind fun cR=>
 (A.cells 7 cR).bind fun i7=>
 (A.splice 0 i7 [ah,ah,ah,ah,ah,ah,AV.aq]).bind fun gB=>
 (A.ay 0 7 gB).bind fun eC=>
 A.fin σ eC σ
noncomputable def vr:List AV→Heap→Option (AV×Heap):=A.wrap true [DQ] DQ (A.dH W7)
noncomputable def Pc (a0 a1 a2 a3 a4 a5:AV) (σ:Heap):Option (AV×Heap):=
 (A.cells 11 a1).bind fun c1=>
 ((A.cells 2 a2).bind fun cs=>some (AV.rp cs)).bind fun x2=>
 (A.aj 2 c1).bind fun x3=>
 (A.aj 5 c1).bind fun x4=>
 (A.ay 6 2 c1).bind fun x5=>
 ((((A.cell a3).bind fun v=>some [v]).bind fun c6=>(A.splice 0 c6 [ah,ah,ah,ah,ah,ah,AV.aq]).bind fun c7=>((A.cell a4).bind fun v=>some [v]).bind fun c8=>(A.splice 1 c8 c7).bind fun c9=>((A.cell a5).bind fun v=>some [v]).bind fun dJ=>(A.splice 2 dJ c9).bind fun fN=>((A.cell x3).bind fun v=>some [v]).bind fun dX=>(A.splice 3 dX fN).bind fun fV=>((A.cell x4).bind fun v=>some [v]).bind fun i6=>(A.splice 4 i6 fV).bind fun gV=>(A.cells 2 x5).bind fun jO=>(A.splice 5 jO gV).bind fun jP=>some jP).bind fun cs=>some (AV.agg cs)).bind fun bF=>
 (A.cells 7 bF).bind fun jQ=>
 (A.splice 0 jQ [ah,ah,ah,ah,ah,ah,AV.aq]).bind fun iJ=>
 (A.aN a0).bind fun cr=>
 (A.aA 10 cr).bind fun cZ=>
 ((A.deref cZ σ).bind fun fk=>A.aj 0 fk).bind fun x24=>
 ((A.deref x2 σ).bind fun iK=>A.ay 0 2 iK).bind fun fK=>
 (A.look (.s [0,2]) x24 fK (AV.agg [bg,ah,ah,ah,ah,aI,AV.aq]) σ).bind fun dL=>
 (A.cells 7 dL).bind fun qm=>
 (A.splice 0 qm [bg,ah,ah,ah,ah,aI,AV.aq]).bind fun tL=>
 (A.aj 1 tL).bind fun cW=>
 (A.eql .i cW aH).bind fun x31=>
 (A.cond x31 (
  (A.aj 3 c1).bind fun ep=>
  ((A.cell ep).bind fun v=>some [v]).bind fun sH=>
  (A.splice 4 sH iJ).bind fun gC=>
  (A.lss a4 a3).bind fun gX=>
  (A.cond gX (
   (A.aj 4 c1).bind fun x38=>
   ((A.cell x38).bind fun v=>some [v]).bind fun lp=>
   (A.splice 4 lp gC).bind fun tM=>
   some ([(AV.lbx c1),(AV.lbx [ah,ah,ah,ah,ah,ah,AV.aq]),(AV.lbx tM),(AV.lbx tL)],σ)) (
   some ([(AV.lbx c1),(AV.lbx [ah,ah,ah,ah,ah,ah,AV.aq]),(AV.lbx gC),(AV.lbx tL)],σ))).bind fun mJ=>
  some ([(mJ.1.getD 0 AV.undef),(mJ.1.getD 1 AV.undef),(mJ.1.getD 2 AV.undef),(mJ.1.getD 3 AV.undef)],mJ.2)) (
  some ([(AV.lbx c1),(AV.lbx [ah,ah,ah,ah,ah,ah,AV.aq]),(AV.lbx iJ),(AV.lbx tL)],σ))).bind fun r32=>
 ((A.lb (r32.1.getD 0 AV.undef)).bind fun _=>some (10)).bind fun p41=>
 ((A.lb (r32.1.getD 0 AV.undef)).bind fun l5=>A.aj p41 l5).bind fun fL=>
 (Hu (A.tab (fun _ _=>none) [(349,Fl)]) [fL,(AV.fn 349 [x2])] r32.2).bind fun dY=>
 (A.geq dY.1 ah).bind fun dU=>
 ((A.lb (r32.1.getD 0 AV.undef)).bind fun _=>some (10)).bind fun Kc=>
  (A.guard dU true ((A.lb (r32.1.getD 0 AV.undef)).bind fun iz=>A.aj Kc iz) an).bind fun iC=>
 (A.guard dU true (some dY.1) an).bind fun eP=>
 (A.guard dU true (A.aW 8 iC eP) an).bind fun lF=>
 (A.guard dU true (A.aA 5 lF) an).bind fun iN=>
 (A.guard dU true ((A.deref iN dY.2).bind fun Bi=>A.aj 0 Bi) an).bind fun gP=>
 (A.pick dU gP aI).bind fun gY=>
 (A.cond gY (
  ((A.lb (r32.1.getD 0 AV.undef)).bind fun _=>some (10)).bind fun p56=>
  ((A.lb (r32.1.getD 0 AV.undef)).bind fun iA=>A.aj p56 iA).bind fun gZ=>
  (A.aW 8 gZ dY.1).bind fun eW=>
  (A.aA 6 eW).bind fun gz=>
  ((A.deref gz dY.2).bind fun l6=>A.aj 0 l6).bind fun eY=>
  ((A.lb (r32.1.getD 0 AV.undef)).bind fun _=>some (10)).bind fun p63=>
  ((A.lb (r32.1.getD 0 AV.undef)).bind fun mV=>A.aj p63 mV).bind fun jf=>
  (A.aW 8 jf dY.1).bind fun gH=>
  (A.aA 7 gH).bind fun jX=>
  ((A.deref jX dY.2).bind fun JA=>A.aj 0 JA).bind fun fQ=>
  ((A.lb (r32.1.getD 2 AV.undef)).bind fun _=>some (3)).bind fun p70=>
  (A.lb (r32.1.getD 2 AV.undef)).bind fun JB=>
  ((A.cell eY).bind fun v=>some [v]).bind fun lR=>
  (A.splice p70 lR JB).bind fun jK=>
  ((A.cell fQ).bind fun v=>some [v]).bind fun Uc=>
  (A.splice 4 Uc jK).bind fun qp=>
  some ([(r32.1.getD 1 AV.undef),(AV.lbx qp),(r32.1.getD 3 AV.undef)],dY.2)) (
  some ([(r32.1.getD 1 AV.undef),(r32.1.getD 2 AV.undef),(r32.1.getD 3 AV.undef)],dY.2))).bind fun wv=>
 ((A.lb (wv.1.getD 2 AV.undef)).bind fun _=>some (5)).bind fun EX=>
 ((A.lb (wv.1.getD 2 AV.undef)).bind fun l7=>A.aj EX l7).bind fun jg=>
 (A.cond jg (
  ((A.lb (wv.1.getD 1 AV.undef)).bind fun _=>some (4)).bind fun p80=>
  (A.lb (wv.1.getD 1 AV.undef)).bind fun kI=>
  ((A.cell ah).bind fun v=>some [v]).bind fun mX=>
  (A.splice p80 mX kI).bind fun lE=>
  some ([(wv.1.getD 0 AV.undef),(AV.lbx lE)],wv.2)) (
  some ([(wv.1.getD 0 AV.undef),(wv.1.getD 1 AV.undef)],wv.2))).bind fun ku=>
 ((A.lb (ku.1.getD 1 AV.undef)).bind fun jc=>A.ay 0 7 jc).bind fun iE=>
 (vr [iE] ku.2).bind fun yu=>
 (A.lb (ku.1.getD 0 AV.undef)).bind fun l8=>
 (A.cells 7 yu.1).bind fun sM=>
 (A.splice 0 sM l8).bind fun Bm=>
 (A.ay 0 7 Bm).bind fun x90=>
 A.fin σ x90 yu.2
noncomputable def BO:List AV→Heap→Option (AV×Heap):=A.wrap false [] DQ (A.En Pc)
noncomputable def Pd (a0 a1 a2 a3 a4:AV) (σ:Heap):Option (AV×Heap):=
 (A.aN a1).bind fun x1=>
 (A.aA 0 x1).bind fun x2=>
 ((A.deref x2 σ).bind fun c3=>A.aj 0 c3).bind fun x4=>
 (A.aW 10 x4 a2).bind fun x5=>
 (A.aN x5).bind fun x6=>
 (A.aA 5 x6).bind fun x7=>
 ((A.deref x7 σ).bind fun c8=>A.aj 0 c8).bind fun x9=>
 (A.aW 11 x9 a3).bind fun bE=>
 ((A.deref bE σ).bind fun fN=>A.ay 0 11 fN).bind fun ck=>
 (A.cells 11 ck).bind fun fV=>
 (A.splice 0 fV [ah,bg,ah,ah,ah,ah,ah,AV.aq,aI,ah,AV.aq]).bind fun i6=>
 (A.aN x5).bind fun dF=>
 (A.aA 0 dF).bind fun cB=>
 ((A.deref cB σ).bind fun jP=>A.ay 0 3 jP).bind fun bF=>
 (wF [bF,a4] σ).bind fun kO=>
 (A.aN x5).bind fun cR=>
 (A.aA 5 cR).bind fun cr=>
 ((A.deref cr kO.2).bind fun gB=>A.aj 0 gB).bind fun eC=>
 (A.aj 0 i6).bind fun x24=>
 (A.quiet (Lw [eC,x24] kO.2) kO.2).bind fun x25=>
 (A.ext 0 x25).bind fun fK=>
 (A.ext 1 x25).bind fun dL=>
 (A.bK fK).bind fun x28=>
 (A.loop (fun jx yz=>
   (A.lss (jx.getD 1 AV.undef) x28).bind fun x32=>
   A.cond x32 (
    (A.aW 5 fK (jx.getD 1 AV.undef)).bind fun ep=>
    ((A.deref ep yz).bind fun sH=>A.ay 0 5 sH).bind fun gy=>
    (A.cells 5 gy).bind fun gD=>
    (A.splice 0 gD [ah,bg,ah,ah,ah]).bind fun fJ=>
    (A.ay 0 2 fJ).bind fun x38=>
    (A.eA (.s [0,2]) (AV.om (kO.2++[aK.map []]).length) x38 cK yz).bind fun rC=>
    (A.aN a0).bind fun dm=>
    (A.aA 4 dm).bind fun ef=>
    (A.aA 2 ef).bind fun fP=>
    ((A.deref fP rC).bind fun qo=>A.aj 0 qo).bind fun eO=>
    (A.ay 0 2 fJ).bind fun dU=>
    (A.ay 2 2 fJ).bind fun fM=>
    (A.quiet (Dn [eO,dU,fM] rC) rC).bind fun iV=>
    (A.ext 0 iV).bind fun iC=>
    (A.ext 1 iV).bind fun eP=>
    (A.ay 0 2 fJ).bind fun lF=>
    (qA [x5,lF,kO.1] rC).bind fun lu=>
    (A.ext 0 lu.1).bind fun eD=>
    (A.ext 1 lu.1).bind fun gP=>
    (A.cells 9 eD).bind fun rz=>
    (A.splice 0 rz [ah,ah,ah,ah,ah,ah,AV.aq,ah,aI]).bind fun gM=>
    (A.guard gP true (A.aj 8 gM) an).bind fun gG=>
    (A.guard gP true (A.not gG) an).bind fun kC=>
    (A.pick gP kC aI).bind fun gZ=>
    (A.guard gZ true (A.aj 1 gM) an).bind fun eW=>
    (A.guard gZ true (some iC) an).bind fun gz=>
    (A.guard gZ true (A.eql .i eW gz) an).bind fun jA=>
    (A.pick gZ jA aI).bind fun eY=>
    A.cond eY (
     (A.ay 0 2 fJ).bind fun eR=>
     (A.ay 0 9 gM).bind fun mj=>
     (A.eA (.s [0,2]) (AV.om kO.2.length) eR mj lu.2).bind fun JJ=>
     (A.add (jx.getD 1 AV.undef) aH).bind fun gH=>
     some (AX.normal,[(jx.getD 0 AV.undef),gH],JJ)) (
     (A.cond gP (
      (A.ay 0 9 gM).bind fun gI=>
      (vn [gI,kO.1] lu.2).bind fun C6=>
      some ([(jx.getD 0 AV.undef),(AV.lbx fJ),C6.1],C6.2)) (
      (A.aN a0).bind fun eZ=>
      (A.aA 10 eZ).bind fun mm=>
      ((A.deref mm lu.2).bind fun jK=>A.aj 0 jK).bind fun hG=>
      (A.ay 0 2 fJ).bind fun iq=>
      (A.look (.s [0,2]) hG iq (AV.agg [bg,ah,ah,ah,ah,aI,AV.aq]) lu.2).bind fun eu=>
      ((A.cells 7 eu).bind fun EC=>A.aj 1 EC).bind fun vk=>
      (A.neq .i vk aH).bind fun jg=>
      (A.cond jg (
       (A.ay 0 2 fJ).bind fun fA=>
       (BN [a0,a1,fA,a4] lu.2).bind fun yq=>
       (A.ext 0 yq.1).bind fun oD=>
       (A.ext 1 yq.1).bind fun pK=>
       some ([(jx.getD 0 AV.undef),(AV.lbx fJ),oD],yq.2)) (
       some ([(jx.getD 0 AV.undef),(AV.lbx fJ),ah],lu.2))).bind fun ku=>
      some ([(ku.1.getD 0 AV.undef),(ku.1.getD 1 AV.undef),(ku.1.getD 2 AV.undef)],ku.2))).bind fun eU=>
     ((A.lb (eU.1.getD 1 AV.undef)).bind fun _=>some (0)).bind fun EY=>
     ((A.lb (eU.1.getD 1 AV.undef)).bind fun Bl=>A.ay EY 2 Bl).bind fun jh=>
     ((A.lb (eU.1.getD 0 AV.undef)).bind fun sM=>A.ay 0 11 sM).bind fun iF=>
     ((A.lb (eU.1.getD 1 AV.undef)).bind fun _=>some (0)).bind fun E0=>
     ((A.lb (eU.1.getD 1 AV.undef)).bind fun l9=>A.ay E0 2 l9).bind fun x91=>
     (A.quiet (BO [a0,iF,x91,(eU.1.getD 2 AV.undef),iC,kO.1] eU.2) eU.2).bind fun oF=>
     (A.aN a1).bind fun x93=>
     (A.aA 1 x93).bind fun rK=>
     ((A.deref rK eU.2).bind fun iU=>A.aj 0 iU).bind fun x96=>
     (((A.cells 7 oF).bind fun sN=>(A.splice 0 sN [ah,ah,ah,ah,ah,ah,AV.aq,ah,aI]).bind fun mY=>((A.cell x96).bind fun v=>some [v]).bind fun xW=>(A.splice 7 xW mY).bind fun ux=>((A.cell aI).bind fun v=>some [v]).bind fun nC=>(A.splice 8 nC ux).bind fun AK=>some AK).bind fun cs=>some (AV.agg cs)).bind fun uH=>
     (A.eA (.s [0,2]) (AV.om kO.2.length) jh uH eU.2).bind fun D7=>
     (A.add (jx.getD 1 AV.undef) aH).bind fun uI=>
     some (AX.normal,[(eU.1.getD 0 AV.undef),uI],D7))) (
    some (AX.exit 0,[(jx.getD 0 AV.undef),(jx.getD 1 AV.undef)],yz))) [(AV.lbx i6),ah] ((kO.2++[aK.map []])++[aK.map []])).bind fun GS=>
 bif GS.1==AX.exit 0 then(
  (A.aN x5).bind fun nZ=>
  (A.aA 9 nZ).bind fun Ju=>
  ((A.deref Ju GS.2.2).bind fun I2=>A.aj 0 I2).bind fun Bc=>
  (A.Cj Bc).bind fun amF=>
  A.AE (fun zD apf Tw=>
    A.tC (AV.op GS.2.2.length 0) apf fun x115 TF=>
    (A.ext 0 x115).bind fun qi=>
    A.cond qi (
     (A.vD (AV.op GS.2.2.length 0) TF).bind fun xL=>
     (A.ext 0 xL).bind fun Bd=>
     (A.cells 2 Bd).bind fun SP=>
     (A.splice 0 SP [ah,bg]).bind fun p7=>
     (A.ay 0 2 p7).bind fun Jv=>
     (qA [x5,Jv,kO.1] TF).bind fun pq=>
     (A.ext 0 pq.1).bind fun sD=>
     (A.ext 1 pq.1).bind fun jJ=>
     (A.cells 9 sD).bind fun sw=>
     (A.splice 0 sw [ah,ah,ah,ah,ah,ah,AV.aq,ah,aI]).bind fun qV=>
     (A.not jJ).bind fun NV=>
     (A.guard NV false (some (AV.om (kO.2++[aK.map []]).length)) an).bind fun mF=>
     (A.guard NV false (A.ay 0 2 p7) an).bind fun qj=>
     (A.guard NV false (A.look (.s [0,2]) mF qj aI pq.2) an).bind fun uK=>
     (A.pick NV cK uK).bind fun lY=>
     (A.guard lY false (some a0) an).bind fun n5=>
     (A.guard lY false (A.aN n5) an).bind fun Jw=>
     (A.guard lY false (A.aA 10 Jw) an).bind fun sE=>
     (A.guard lY false ((A.deref sE pq.2).bind fun anu=>A.aj 0 anu) an).bind fun sF=>
     (A.guard lY false (A.ay 0 2 p7) an).bind fun lZ=>
     (A.guard lY false (A.look (.s [0,2]) sF lZ (AV.agg [bg,ah,ah,ah,ah,aI,AV.aq]) pq.2) an).bind fun xQ=>
     (A.guard lY false ((A.cells 7 xQ).bind fun xx=>A.aj 1 xx) an).bind fun uL=>
     (A.guard lY false (A.neq .i uL aH) an).bind fun xS=>
     (A.pick lY cK xS).bind fun mQ=>
     A.cond mQ (
      Tw (AX.normal,[(zD.getD 0 AV.undef)],pq.2)) (
      (A.aj 8 qV).bind fun TK=>
      (A.not TK).bind fun TL=>
      (A.cond TL (
       (A.ay 0 9 qV).bind fun TM=>
       (A.quiet (vn [TM,kO.1] pq.2) pq.2).bind fun apj=>
       ((A.lb (zD.getD 0 AV.undef)).bind fun _=>some (2)).bind fun aoY=>
       ((A.lb (zD.getD 0 AV.undef)).bind fun I3=>A.aj aoY I3).bind fun x151=>
       ((A.lb (zD.getD 0 AV.undef)).bind fun _=>some (4)).bind fun aoZ=>
       ((A.lb (zD.getD 0 AV.undef)).bind fun uy=>A.aj aoZ uy).bind fun TN=>
       ((A.lb (zD.getD 0 AV.undef)).bind fun _=>some (6)).bind fun ao0=>
       ((A.lb (zD.getD 0 AV.undef)).bind fun anw=>A.ay ao0 2 anw).bind fun x157=>
       ((((A.cell apj).bind fun v=>some [v]).bind fun tE=>(A.splice 0 tE [ah,ah,ah,ah,ah,ah,AV.aq]).bind fun xA=>((A.cell kO.1).bind fun v=>some [v]).bind fun xB=>(A.splice 2 xB xA).bind fun I4=>((A.cell x151).bind fun v=>some [v]).bind fun SS=>(A.splice 3 SS I4).bind fun I5=>((A.cell TN).bind fun v=>some [v]).bind fun SU=>(A.splice 4 SU I5).bind fun I6=>(A.cells 2 x157).bind fun D2=>(A.splice 5 D2 I6).bind fun AW=>some AW).bind fun cs=>some (AV.agg cs)).bind fun x168=>
       (A.cells 7 x168).bind fun anz=>
       (A.splice 0 anz [ah,ah,ah,ah,ah,ah,AV.aq]).bind fun anA=>
       (A.ay 0 7 anA).bind fun apq=>
       (A.quiet (vr [apq] pq.2) pq.2).bind fun TP=>
       (A.aN a1).bind fun apr=>
       (A.aA 1 apr).bind fun TQ=>
       ((A.deref TQ pq.2).bind fun I7=>A.aj 0 I7).bind fun TR=>
       (((A.cells 7 TP).bind fun anC=>(A.splice 0 anC [ah,ah,ah,ah,ah,ah,AV.aq,ah,aI]).bind fun SV=>((A.cell TR).bind fun v=>some [v]).bind fun anD=>(A.splice 7 anD SV).bind fun anE=>((A.cell cK).bind fun v=>some [v]).bind fun anF=>(A.splice 8 anF anE).bind fun anG=>some anG).bind fun cs=>some (AV.agg cs)).bind fun TS=>
       (A.cells 9 TS).bind fun SX=>
       (A.splice 0 SX qV).bind fun anH=>
       some ([(zD.getD 0 AV.undef),(AV.lbx p7),(AV.lbx anH)],pq.2)) (
       some ([(zD.getD 0 AV.undef),(AV.lbx p7),(AV.lbx qV)],pq.2))).bind fun NQ=>
      ((A.lb (NQ.1.getD 1 AV.undef)).bind fun anI=>A.ay 0 2 anI).bind fun apA=>
      ((A.lb (NQ.1.getD 2 AV.undef)).bind fun anK=>A.ay 0 9 anK).bind fun apC=>
      (A.eA (.s [0,2]) (AV.om kO.2.length) apA apC NQ.2).bind fun S9=>
      Tw (AX.normal,[(NQ.1.getD 0 AV.undef)],S9))) (
     Tw (AX.exit 2,[(zD.getD 0 AV.undef)],TF))) [(GS.2.1.getD 0 AV.undef)] (GS.2.2++[aK.it [] amF]) fun GV=>
  bif GV.1==AX.exit 2 then(
   ((((A.cell kO.1).bind fun v=>some [v]).bind fun D3=>(A.splice 0 D3 [ah,ah,aI]).bind fun D4=>((A.cell a4).bind fun v=>some [v]).bind fun D5=>(A.splice 1 D5 D4).bind fun I8=>((A.cell aI).bind fun v=>some [v]).bind fun I9=>(A.splice 2 I9 I8).bind fun Ja=>some Ja).bind fun cs=>some (AV.agg cs)).bind fun apG=>
   (A.aN x5).bind fun apH=>
   (A.aA 0 apH).bind fun TT=>
   (A.cells 3 apG).bind fun anP=>
   (A.storeAt TT anP GV.2.2).bind fun SY=>
   (A.aN x5).bind fun TU=>
   (A.aA 6 TU).bind fun TV=>
   ((A.cell a3).bind fun v=>some [v]).bind fun anQ=>
   (A.storeAt TV anQ SY).bind fun anR=>
   (A.aN x5).bind fun apL=>
   (A.aA 9 apL).bind fun apM=>
   ((A.cell (AV.om kO.2.length)).bind fun v=>some [v]).bind fun anT=>
   (A.storeAt apM anT anR).bind fun anU=>
   (A.aN x5).bind fun TW=>
   (A.aA 8 TW).bind fun apO=>
   ((A.cell (AV.int .i64 (-1))).bind fun v=>some [v]).bind fun anW=>
   (A.storeAt apO anW anU).bind fun S2=>
   ((A.lb (GV.2.1.getD 0 AV.undef)).bind fun _=>some (9)).bind fun ao1=>
   ((A.lb (GV.2.1.getD 0 AV.undef)).bind fun anX=>A.aj ao1 anX).bind fun TX=>
   (A.geq TX ah).bind fun Bg=>
   (A.guard Bg true (some a3) an).bind fun TY=>
   (A.guard Bg true (A.add TY aH) an).bind fun TZ=>
   (A.guard Bg true (some x5) an).bind fun T0=>
   (A.guard Bg true (A.aN T0) an).bind fun T3=>
   (A.guard Bg true (A.aA 5 T3) an).bind fun apS=>
   (A.guard Bg true ((A.deref apS S2).bind fun S3=>A.aj 0 S3) an).bind fun T4=>
   (A.guard Bg true (A.bK T4) an).bind fun T5=>
   (A.guard Bg true (A.lss TZ T5) an).bind fun T6=>
   (A.pick Bg T6 aI).bind fun apU=>
   (A.cond apU (
    ((A.lb (GV.2.1.getD 0 AV.undef)).bind fun _=>some (9)).bind fun ao2=>
    ((A.lb (GV.2.1.getD 0 AV.undef)).bind fun an2=>A.aj ao2 an2).bind fun apW=>
    (A.add kO.1 apW).bind fun T7=>
    (A.aN x5).bind fun apX=>
    (A.aA 8 apX).bind fun T8=>
    ((A.cell T7).bind fun v=>some [v]).bind fun S4=>
    (A.storeAt T8 S4 S2).bind fun an3=>
    some (([]:List AV),an3)) (
    some (([]:List AV),S2))).bind fun ao8=>
   A.A0 σ (AV.aF []) ao8.2)else
  none)else
 none
noncomputable def tc:List AV→Heap→Option (AV×Heap):=A.wrap false [] .k (A.Bh Pd)
noncomputable def Ld (a0 a1:AV) (σ:Heap):Option (AV×Heap):=
 (A.aN a0).bind fun x1=>
 (A.aA 0 x1).bind fun x2=>
 ((A.deref x2 σ).bind fun c3=>A.ay 0 4 c3).bind fun x4=>
 (A.cells 4 x4).bind fun c5=>
 (A.storeAt (AV.op σ.length 0) c5 (σ++[aK.box [AV.aq,ah,ah,aI]])).bind fun c6=>
 (A.aA 0 (AV.op σ.length 0)).bind fun x7=>
 ((A.deref x7 c6).bind fun c8=>A.aj 0 c8).bind fun x9=>
 (Fh [x9] c6).bind fun kN=>
 (A.aA 0 (AV.op σ.length 0)).bind fun cg=>
 ((A.cell kN.1).bind fun v=>some [v]).bind fun dX=>
 (A.storeAt cg dX kN.2).bind fun fV=>
 (A.loop (fun UW BH=>
   (A.aA 0 (AV.op σ.length 0)).bind fun cQ=>
   ((A.deref cQ BH).bind fun iT=>A.aj 0 iT).bind fun bX=>
   (A.bK bX).bind fun cR=>
   (A.loop (fun v21 sV=>
     (A.lss (v21.getD 3 AV.undef) cR).bind fun x24=>
     A.cond x24 (
      (A.aA 0 (AV.op σ.length 0)).bind fun x25=>
      ((A.deref x25 sV).bind fun fW=>A.aj 0 fW).bind fun dL=>
      (A.aW 10 dL (v21.getD 3 AV.undef)).bind fun x28=>
      (BP [x28] sV).bind fun gr=>
      (A.geq gr.1 ah).bind fun cW=>
      (A.guard cW true (some gr.1) an).bind fun x31=>
      (A.guard cW true (some a1) an).bind fun x32=>
      (A.guard cW true (A.leq x31 x32) an).bind fun ep=>
      (A.pick cW ep aI).bind fun x34=>
      (A.guard x34 true (some (v21.getD 1 AV.undef)) an).bind fun gy=>
      (A.guard x34 true (A.lss gy ah) an).bind fun gX=>
      (A.guard x34 true (some gX) an).bind fun bR=>
      (A.guard bR false (some gr.1) an).bind fun x38=>
      (A.guard bR false (some (v21.getD 2 AV.undef)) an).bind fun fu=>
      (A.guard bR false (A.lss x38 fu) an).bind fun dm=>
      (A.guard x34 true (A.pick bR cK dm) an).bind fun ef=>
      (A.pick x34 ef aI).bind fun fP=>
      (A.cond fP (
       some ([(v21.getD 0 AV.undef),(v21.getD 3 AV.undef),gr.1],gr.2)) (
       some ([(v21.getD 0 AV.undef),(v21.getD 1 AV.undef),(v21.getD 2 AV.undef)],gr.2))).bind fun iY=>
      (A.add (v21.getD 3 AV.undef) aH).bind fun eO=>
      some (AX.normal,[(iY.1.getD 0 AV.undef),(iY.1.getD 1 AV.undef),(iY.1.getD 2 AV.undef),eO],iY.2)) (
      some (AX.exit 2,[(v21.getD 0 AV.undef),(v21.getD 1 AV.undef),(v21.getD 2 AV.undef),(v21.getD 3 AV.undef)],sV))) [(UW.getD 0 AV.undef),(AV.int .i64 (-1)),ah,ah] BH).bind fun mg=>
   bif mg.1==AX.exit 2 then(
    (A.lss (mg.2.1.getD 1 AV.undef) ah).bind fun fM=>
    A.cond fM (
     ((A.deref (AV.op σ.length 0) mg.2.2).bind fun iz=>A.ay 0 4 iz).bind fun iC=>
     (A.lb (mg.2.1.getD 0 AV.undef)).bind fun sJ=>
     (A.cells 4 iC).bind fun uO=>
     (A.splice 0 uO sJ).bind fun oa=>
     some (AX.ret,[(AV.lbx oa)],mg.2.2)) (
     (A.aA 1 (AV.op σ.length 0)).bind fun eD=>
     ((A.deref eD mg.2.2).bind fun oc=>A.aj 0 oc).bind fun gY=>
     (A.add gY aH).bind fun lG=>
     (A.aA 1 (AV.op σ.length 0)).bind fun gG=>
     ((A.cell lG).bind fun v=>some [v]).bind fun iA=>
     (A.storeAt gG iA mg.2.2).bind fun ig=>
     (A.aA 0 (AV.op σ.length 0)).bind fun eW=>
     ((A.deref eW ig).bind fun Bj=>A.aj 0 Bj).bind fun jA=>
     (A.aW 10 jA (mg.2.1.getD 1 AV.undef)).bind fun eY=>
     (A.aA 6 eY).bind fun eR=>
     ((A.deref eR ig).bind fun mV=>A.aj 0 mV).bind fun jf=>
     (A.add jf aH).bind fun gH=>
     (tc [a0,(AV.op σ.length 0),(mg.2.1.getD 1 AV.undef),gH,(mg.2.1.getD 2 AV.undef)] ig).bind fun eU=>
     some (AX.normal,[(mg.2.1.getD 0 AV.undef)],eU.2)))else
   none) [(AV.lbx [AV.aq,ah,ah,aI])] fV).bind fun BF=>
 bif BF.1==AX.ret then(
  ((A.lb (BF.2.1.getD 0 AV.undef)).bind fun EB=>A.ay 0 4 EB).bind fun fQ=>
  some (fQ,BF.2.2))else
 none
noncomputable def Fo:List AV→Heap→Option (AV×Heap):=A.wrap false [] .k (A.bQ Ld)
noncomputable def Vh (a0 a1:AV) (σ:Heap):Option (AV×Heap):=
 (A.cells 10 a0).bind fun c1=>
 (A.aj 3 c1).bind fun x2=>
 (A.aA 2 a1).bind fun x3=>
 ((A.deref x3 σ).bind fun c4=>A.aj 0 c4).bind fun x5=>
 (A.eql .i x2 x5).bind fun x6=>
 A.fin σ x6 σ
noncomputable def BL:List AV→Heap→Option (AV×Heap):=A.wrap true [(.a [.k,.k,.k,.k,.k,(.s 11),.k,.k,.k,.k])] .k (A.bQ Vh)
noncomputable def Vi (a0 a1:AV) (σ:Heap):Option (AV×Heap):=
 (A.cells 11 a0).bind fun c1=>
 (A.aj 0 c1).bind fun x2=>
 (A.aA 3 a1).bind fun x3=>
 ((A.deref x3 σ).bind fun c4=>A.aj 0 c4).bind fun x5=>
 (A.eql .i x2 x5).bind fun x6=>
 A.fin σ x6 σ
noncomputable def BM:List AV→Heap→Option (AV×Heap):=A.wrap true [(.a tK)] .k (A.bQ Vi)
noncomputable def OR (a0 a1 a2 a3:AV) (σ:Heap):Option (AV×Heap):=
 (A.cells 5 a3).bind fun c1=>
 (A.aN a2).bind fun x2=>
 (A.aA 0 x2).bind fun x3=>
 ((A.deref x3 σ).bind fun c4=>A.ay 0 3 c4).bind fun x5=>
 (A.aj 0 c1).bind fun x6=>
 (A.quiet (wF [x5,x6] σ) σ).bind fun x7=>
 (A.aN a2).bind fun x8=>
 (A.aA 9 x8).bind fun x9=>
 ((A.deref x9 (σ++[aK.map []])).bind fun dJ=>A.aj 0 dJ).bind fun cg=>
 (A.Cj cg).bind fun aoh=>
 A.AE (fun lB yy UJ=>
   A.tC (AV.op (σ++[aK.map []]).length 0) yy fun cB lz=>
   (A.ext 0 cB).bind fun bF=>
   A.cond bF (
    (A.vD (AV.op (σ++[aK.map []]).length 0) lz).bind fun bX=>
    (A.ext 0 bX).bind fun cR=>
    (A.cells 2 cR).bind fun i7=>
    (A.splice 0 i7 [ah,bg]).bind fun gB=>
    (A.ay 0 2 gB).bind fun eC=>
    (qA [a2,eC,x7] lz).bind fun tT=>
    (A.ext 0 tT.1).bind fun x25=>
    (A.ext 1 tT.1).bind fun fK=>
    (A.cells 9 x25).bind fun jR=>
    (A.splice 0 jR [ah,ah,ah,ah,ah,ah,AV.aq,ah,aI]).bind fun qm=>
    (A.not fK).bind fun x29=>
    (A.guard x29 false (some a0) an).bind fun cW=>
    (A.guard x29 false (A.aN cW) an).bind fun x31=>
    (A.guard x29 false (A.aA 10 x31) an).bind fun x32=>
    (A.guard x29 false ((A.deref x32 tT.2).bind fun Ev=>A.aj 0 Ev) an).bind fun x34=>
    (A.guard x29 false (A.ay 0 2 gB) an).bind fun gy=>
    (A.guard x29 false (A.look (.s [0,2]) x34 gy (AV.agg [bg,ah,ah,ah,ah,aI,AV.aq]) tT.2) an).bind fun gX=>
    (A.guard x29 false ((A.cells 7 gX).bind fun fJ=>A.aj 1 fJ) an).bind fun x38=>
    (A.guard x29 false (A.neq .i x38 aH) an).bind fun fu=>
    (A.pick x29 cK fu).bind fun dm=>
    A.cond dm (
     UJ (AX.normal,[(lB.getD 0 AV.undef)],tT.2)) (
     (A.ay 0 2 gB).bind fun ef=>
     (A.ay 0 9 qm).bind fun fP=>
     (A.quiet (vn [fP,x7] tT.2) tT.2).bind fun fL=>
     ((A.lb (lB.getD 0 AV.undef)).bind fun _=>some (4)).bind fun p44=>
     ((A.lb (lB.getD 0 AV.undef)).bind fun Ex=>A.aj p44 Ex).bind fun fM=>
     ((((A.cell aH).bind fun v=>some [v]).bind fun iz=>(A.splice 0 iz [ah,AV.aq]).bind fun mT=>some mT).bind fun cs=>some (AV.agg cs)).bind fun eP=>
     ((((A.cell fL).bind fun v=>some [v]).bind fun oa=>(A.splice 0 oa [ah,ah,ah,ah,ah,ah,AV.aq]).bind fun sJ=>((A.cell x7).bind fun v=>some [v]).bind fun Bi=>(A.splice 2 Bi sJ).bind fun oc=>((A.cell fM).bind fun v=>some [v]).bind fun rz=>(A.splice 4 rz oc).bind fun gM=>(A.cells 2 eP).bind fun mU=>(A.splice 5 mU gM).bind fun iA=>some iA).bind fun cs=>some (AV.agg cs)).bind fun gZ=>
     (A.quiet (vr [gZ] tT.2) tT.2).bind fun eW=>
     (A.aN a1).bind fun gz=>
     (A.aA 1 gz).bind fun jA=>
     ((A.deref jA tT.2).bind fun Jz=>A.aj 0 Jz).bind fun eR=>
     (((A.cells 7 eW).bind fun mV=>(A.splice 0 mV [ah,ah,ah,ah,ah,ah,AV.aq,ah,aI]).bind fun sK=>((A.cell eR).bind fun v=>some [v]).bind fun EA=>(A.splice 7 EA sK).bind fun sL=>((A.cell cK).bind fun v=>some [v]).bind fun JA=>(A.splice 8 JA sL).bind fun mW=>some mW).bind fun cs=>some (AV.agg cs)).bind fun eZ=>
     (A.eA (.s [0,2]) (AV.om σ.length) ef eZ tT.2).bind fun N1=>
     UJ (AX.normal,[(lB.getD 0 AV.undef)],N1))) (
    UJ (AX.exit 0,[(lB.getD 0 AV.undef)],lz))) [(AV.lbx c1)] ((σ++[aK.map []])++[aK.it [] aoh]) fun wA=>
 bif wA.1==AX.exit 0 then(
  ((A.lb (wA.2.1.getD 0 AV.undef)).bind fun _=>some (0)).bind fun p73=>
  ((A.lb (wA.2.1.getD 0 AV.undef)).bind fun Uc=>A.aj p73 Uc).bind fun eu=>
  ((((A.cell x7).bind fun v=>some [v]).bind fun EC=>(A.splice 0 EC [ah,ah,aI]).bind fun l7=>((A.cell eu).bind fun v=>some [v]).bind fun oh=>(A.splice 1 oh l7).bind fun Bk=>((A.cell aI).bind fun v=>some [v]).bind fun uQ=>(A.splice 2 uQ Bk).bind fun mX=>some mX).bind fun cs=>some (AV.agg cs)).bind fun oD=>
  (A.aN a2).bind fun pK=>
  (A.aA 0 pK).bind fun yB=>
  (A.cells 3 oD).bind fun Bl=>
  (A.storeAt yB Bl wA.2.2).bind fun xU=>
  (A.aN a2).bind fun mo=>
  (A.aA 6 mo).bind fun iF=>
  ((A.cell (AV.int .i64 (-1))).bind fun v=>some [v]).bind fun l8=>
  (A.storeAt iF l8 xU).bind fun l9=>
  (A.aN a2).bind fun x91=>
  (A.aA 8 x91).bind fun oF=>
  ((A.cell (AV.int .i64 (-1))).bind fun v=>some [v]).bind fun vX=>
  (A.storeAt oF vX l9).bind fun oo=>
  (A.aN a2).bind fun x95=>
  (A.aA 9 x95).bind fun x96=>
  ((A.cell (AV.om σ.length)).bind fun v=>some [v]).bind fun sN=>
  (A.storeAt x96 sN oo).bind fun mY=>
  A.A0 σ (AV.aF []) mY)else
 none
noncomputable def HB:List AV→Heap→Option (AV×Heap):=A.wrap false [] .k (A.vV OR)
noncomputable def Vy (a0 a1:AV) (σ:Heap):Option (AV×Heap):=
 (HS [a1] σ).bind fun r1=>
 (A.not r1.1).bind fun x2=>
 (qE [x2,aH] r1.2).bind fun r3=>
 (Fp [a0] r3.2).bind fun r4=>
 (A.lss a1 r4.1).bind fun x5=>
 (qE [x5,(AV.int .i64 7)] r4.2).bind fun r6=>
 ((((A.cell r3.1).bind fun v=>some [v]).bind fun c7=>(A.splice 0 c7 [ah,ah]).bind fun c8=>((A.cell r6.1).bind fun v=>some [v]).bind fun c9=>(A.splice 1 c9 c8).bind fun dJ=>some dJ).bind fun cs=>some (AV.sl 1 (chunks 1 2 cs))).bind fun cg=>
 (wI [cg] r6.2).bind fun ga=>
 A.fin σ ga.1 ga.2
noncomputable def Pa:List AV→Heap→Option (AV×Heap):=A.wrap true [(.p CV)] .k (A.bQ Vy)
noncomputable def Vs (a0 a1 a2 a3:AV) (σ:Heap):Option (AV×Heap):=
 (A.cells 2 a2).bind fun c1=>
 (A.ay 0 2 c1).bind fun x2=>
 (BN [a0,a1,x2,a3] σ).bind fun r3=>
 (A.ext 0 r3.1).bind fun x4=>
 (A.ext 1 r3.1).bind fun x5=>
 (A.aN a0).bind fun x6=>
 (A.aA 10 x6).bind fun x7=>
 ((A.deref x7 r3.2).bind fun c8=>A.aj 0 c8).bind fun x9=>
 (A.ay 0 2 c1).bind fun bE=>
 (A.look (.s [0,2]) x9 bE (AV.agg [bg,ah,ah,ah,ah,aI,AV.aq]) r3.2).bind fun cg=>
 ((A.cells 7 cg).bind fun dX=>A.aj 1 dX).bind fun dh=>
 (A.neq .i dh aH).bind fun cN=>
 A.cond cN (
  A.fin σ x4 r3.2) (
  (A.aN a1).bind fun dF=>
  (A.aA 3 dF).bind fun cB=>
  ((A.deref cB r3.2).bind fun jP=>A.aj 0 jP).bind fun bF=>
  A.cond bF (
   A.fin σ ah r3.2) (
   (A.aN a1).bind fun bX=>
   (A.aA 2 bX).bind fun cR=>
   ((A.deref cR r3.2).bind fun i7=>A.aj 0 i7).bind fun cZ=>
   (Dl [x4,cZ] r3.2).bind fun nL=>
   (A.ext 0 nL.1).bind fun x24=>
   (A.ext 1 nL.1).bind fun x25=>
   A.fin σ x24 nL.2))
noncomputable def HG:List AV→Heap→Option (AV×Heap):=A.wrap true [(.p CV),(.p [(.s 10),.k,.k,.k])] .k (A.vV Vs)
noncomputable def PJ (a0:AV) (σ:Heap):Option (AV×Heap):=
 (A.cells 5 a0).bind fun c1=>
 (A.aj 4 c1).bind fun x2=>
 ((A.jr (.s 3) Ox) [x2] σ).bind fun r3=>
 ((((A.cell r3.1).bind fun v=>some [v]).bind fun c4=>(A.splice 4 c4 ur).bind fun c5=>some c5).bind fun cs=>some (AV.agg cs)).bind fun x6=>
 (A.cells 5 x6).bind fun c7=>
 (A.splice 0 c7 ur).bind fun c8=>
 (A.aj 1 c1).bind fun x9=>
 ((A.jr (.s 4) OB) [x9] r3.2).bind fun kN=>
 ((A.cell kN.1).bind fun v=>some [v]).bind fun fN=>
 (A.splice 1 fN c8).bind fun dX=>
 (A.aj 0 c1).bind fun dh=>
 (A.bK dh).bind fun cN=>
 (A.loop (fun dI kQ=>
   (A.lss (dI.getD 3 AV.undef) cN).bind fun bF=>
   A.cond bF (
    (A.aW 3 dh (dI.getD 3 AV.undef)).bind fun bX=>
    ((A.deref bX kQ).bind fun iJ=>A.ay 0 3 iJ).bind fun cr=>
    (A.cells 3 cr).bind fun gB=>
    (A.splice 0 gB [bg,ah,AV.aq]).bind fun fk=>
    (A.aj 2 fk).bind fun x24=>
    (Fj [x24] kQ).bind fun jV=>
    ((A.cell jV.1).bind fun v=>some [v]).bind fun fW=>
    (A.splice 2 fW fk).bind fun jR=>
    (A.aj 2 jR).bind fun x28=>
    (A.bK x28).bind fun x29=>
    (A.loop (fun v30 jW=>
      (A.lss (v30.getD 4 AV.undef) x29).bind fun ep=>
      A.cond ep (
       ((A.lb (v30.getD 3 AV.undef)).bind fun _=>some (2)).bind fun yh=>
       ((A.lb (v30.getD 3 AV.undef)).bind fun gC=>A.aj yh gC).bind fun gX=>
       ((A.lb (v30.getD 3 AV.undef)).bind fun _=>some (2)).bind fun BC=>
       ((A.lb (v30.getD 3 AV.undef)).bind fun jS=>A.aj BC jS).bind fun fu=>
       (A.aW 7 fu (v30.getD 4 AV.undef)).bind fun dm=>
       (A.aA 6 dm).bind fun ef=>
       ((A.deref ef jW).bind fun l5=>A.aj 0 l5).bind fun fL=>
       (A.quiet ((A.jr (.s 3) zU) [fL] jW) jW).bind fun eO=>
       (A.aW 7 gX (v30.getD 4 AV.undef)).bind fun dU=>
       (A.aA 6 dU).bind fun fM=>
       ((A.cell eO).bind fun v=>some [v]).bind fun iz=>
       (A.storeAt fM iz jW).bind fun mT=>
       (A.add (v30.getD 4 AV.undef) aH).bind fun eP=>
       some (AX.normal,[(v30.getD 0 AV.undef),(v30.getD 1 AV.undef),(v30.getD 2 AV.undef),(v30.getD 3 AV.undef),eP],mT)) (
       some (AX.exit 2,[(v30.getD 0 AV.undef),(v30.getD 1 AV.undef),(v30.getD 2 AV.undef),(v30.getD 3 AV.undef),(v30.getD 4 AV.undef)],jW))) [(dI.getD 0 AV.undef),(dI.getD 1 AV.undef),(dI.getD 2 AV.undef),(AV.lbx jR),ah] jV.2).bind fun cV=>
    bif cV.1==AX.exit 2 then(
     ((A.lb (cV.2.1.getD 2 AV.undef)).bind fun _=>some (0)).bind fun ET=>
     ((A.lb (cV.2.1.getD 2 AV.undef)).bind fun _=>some (ET)).bind fun EU=>
     ((A.lb (cV.2.1.getD 2 AV.undef)).bind fun oc=>A.aj EU oc).bind fun gY=>
     ((A.lb (cV.2.1.getD 3 AV.undef)).bind fun gM=>A.ay 0 3 gM).bind fun gG=>
     (((A.cells 3 gG).bind fun iA=>(A.splice 0 iA [bg,ah,AV.aq]).bind fun ig=>some ig).bind fun cs=>some (AV.sl 3 (chunks 3 1 cs))).bind fun eW=>
     (A.append 3 (140737488355328 / 48) gY eW cV.2.2).bind fun yp=>
     ((A.lb (cV.2.1.getD 2 AV.undef)).bind fun _=>some (0)).bind fun EV=>
     ((A.lb (cV.2.1.getD 2 AV.undef)).bind fun _=>some (EV)).bind fun EW=>
     (A.lb (cV.2.1.getD 2 AV.undef)).bind fun sK=>
     ((A.cell yp.1).bind fun v=>some [v]).bind fun uP=>
     (A.splice EW uP sK).bind fun mV=>
     (A.add (dI.getD 3 AV.undef) aH).bind fun gH=>
     some (AX.normal,[(cV.2.1.getD 0 AV.undef),(cV.2.1.getD 1 AV.undef),(AV.lbx mV),gH],yp.2))else
    none) (
    some (AX.exit 0,[(dI.getD 0 AV.undef),(dI.getD 1 AV.undef),(dI.getD 2 AV.undef),(dI.getD 3 AV.undef)],kQ))) [(AV.lbx c1),(AV.lbx ur),(AV.lbx dX),ah] kN.2).bind fun eU=>
 bif eU.1==AX.exit 0 then(
  ((A.lb (eU.2.1.getD 0 AV.undef)).bind fun _=>some (2)).bind fun p68=>
  ((A.lb (eU.2.1.getD 0 AV.undef)).bind fun mW=>A.aj p68 mW).bind fun eZ=>
  (A.bK eZ).bind fun mm=>
  (A.loop (fun v72 sY=>
    (A.lss (v72.getD 3 AV.undef) mm).bind fun eu=>
    A.cond eu (
     (A.aW 3 eZ (v72.getD 3 AV.undef)).bind fun iD=>
     ((A.deref iD sY).bind fun l7=>A.ay 0 3 l7).bind fun jg=>
     (A.cells 3 jg).bind fun Bk=>
     (A.splice 0 Bk [ah,bg,AV.aq]).bind fun uQ=>
     (A.aj 2 uQ).bind fun oC=>
     ((A.jr (.s 3) Fg) [oC] sY).bind fun yt=>
     ((A.cell yt.1).bind fun v=>some [v]).bind fun kI=>
     (A.splice 2 kI uQ).bind fun jc=>
     ((A.lb (v72.getD 2 AV.undef)).bind fun _=>some (2)).bind fun EZ=>
     ((A.lb (v72.getD 2 AV.undef)).bind fun xU=>A.aj EZ xU).bind fun mo=>
     (A.ay 0 3 jc).bind fun iF=>
     (((A.cells 3 iF).bind fun l8=>(A.splice 0 l8 [ah,bg,AV.aq]).bind fun l9=>some l9).bind fun cs=>some (AV.sl 3 (chunks 3 1 cs))).bind fun x91=>
     (A.append 3 (140737488355328 / 48) mo x91 yt.2).bind fun yx=>
     ((A.lb (v72.getD 2 AV.undef)).bind fun _=>some (2)).bind fun E1=>
     (A.lb (v72.getD 2 AV.undef)).bind fun xV=>
     ((A.cell yx.1).bind fun v=>some [v]).bind fun oo=>
     (A.splice E1 oo xV).bind fun iU=>
     (A.add (v72.getD 3 AV.undef) aH).bind fun yC=>
     some (AX.normal,[(v72.getD 0 AV.undef),(v72.getD 1 AV.undef),(AV.lbx iU),yC],yx.2)) (
     some (AX.exit 4,[(v72.getD 0 AV.undef),(v72.getD 1 AV.undef),(v72.getD 2 AV.undef),(v72.getD 3 AV.undef)],sY))) [(eU.2.1.getD 0 AV.undef),(eU.2.1.getD 1 AV.undef),(eU.2.1.getD 2 AV.undef),ah] eU.2.2).bind fun zP=>
  bif zP.1==AX.exit 4 then(
   ((A.lb (zP.2.1.getD 0 AV.undef)).bind fun _=>some (3)).bind fun p99=>
   ((A.lb (zP.2.1.getD 0 AV.undef)).bind fun ux=>A.aj p99 ux).bind fun x101=>
   (A.bK x101).bind fun x102=>
   (A.loop (fun iS sC=>
     (A.lss (iS.getD 2 AV.undef) x102).bind fun nY=>
     A.cond nY (
      (A.aW 2 x101 (iS.getD 2 AV.undef)).bind fun nZ=>
      ((A.deref nZ sC).bind fun xk=>A.ay 0 2 xk).bind fun n4=>
      (A.cells 2 n4).bind fun DW=>
      (A.splice 0 DW [ah,AV.aq]).bind fun lT=>
      (A.aj 1 lT).bind fun x112=>
      (Dd [x112] sC).bind fun lW=>
      ((A.cell lW.1).bind fun v=>some [v]).bind fun DY=>
      (A.splice 1 DY lT).bind fun p5=>
      (A.aj 1 p5).bind fun Ek=>
      (A.bK Ek).bind fun qi=>
      (A.loop (fun dA fS=>
        (A.lss (dA.getD 3 AV.undef) qi).bind fun xO=>
        A.cond xO (
         ((A.lb (dA.getD 2 AV.undef)).bind fun _=>some (1)).bind fun A7=>
         ((A.lb (dA.getD 2 AV.undef)).bind fun nT=>A.aj A7 nT).bind fun sD=>
         (A.aW 11 sD (dA.getD 3 AV.undef)).bind fun jJ=>
         (A.aN jJ).bind fun xP=>
         (A.aA 10 xP).bind fun uJ=>
         ((A.deref uJ fS).bind fun lU=>A.aj 0 lU).bind fun mF=>
         (A.quiet ((A.jr (.s 8) Dc) [mF] fS) fS).bind fun qj=>
         (A.aN jJ).bind fun uK=>
         (A.aA 6 uK).bind fun lY=>
         (A.aA 1 lY).bind fun n5=>
         ((A.deref n5 fS).bind fun nU=>A.aj 0 nU).bind fun sE=>
         (A.quiet ((A.jr (.s 2) Db) [sE] fS) fS).bind fun lQ=>
         (A.aN jJ).bind fun sF=>
         (A.aA 10 sF).bind fun lZ=>
         ((A.cell qj).bind fun v=>some [v]).bind fun xw=>
         (A.storeAt lZ xw fS).bind fun xx=>
         (A.aN jJ).bind fun uL=>
         (A.aA 6 uL).bind fun xS=>
         (A.aA 1 xS).bind fun mQ=>
         ((A.cell lQ).bind fun v=>some [v]).bind fun AT=>
         (A.storeAt mQ AT xx).bind fun AU=>
         (A.add (dA.getD 3 AV.undef) aH).bind fun Be=>
         some (AX.normal,[(dA.getD 0 AV.undef),(dA.getD 1 AV.undef),(dA.getD 2 AV.undef),Be],AU)) (
         some (AX.exit 8,[(dA.getD 0 AV.undef),(dA.getD 1 AV.undef),(dA.getD 2 AV.undef),(dA.getD 3 AV.undef)],fS))) [(iS.getD 0 AV.undef),(iS.getD 1 AV.undef),(AV.lbx p5),ah] lW.2).bind fun iR=>
      bif iR.1==AX.exit 8 then(
       ((A.lb (iR.2.1.getD 1 AV.undef)).bind fun _=>some (3)).bind fun Ef=>
       ((A.lb (iR.2.1.getD 1 AV.undef)).bind fun xy=>A.aj Ef xy).bind fun x150=>
       ((A.lb (iR.2.1.getD 2 AV.undef)).bind fun xz=>A.ay 0 2 xz).bind fun x152=>
       (((A.cells 2 x152).bind fun uy=>(A.splice 0 uy [ah,AV.aq]).bind fun D1=>some D1).bind fun cs=>some (AV.sl 2 (chunks 2 1 cs))).bind fun Bf=>
       (A.append 2 (140737488355328 / 32) x150 Bf iR.2.2).bind fun xI=>
       ((A.lb (iR.2.1.getD 1 AV.undef)).bind fun _=>some (3)).bind fun Eg=>
       (A.lb (iR.2.1.getD 1 AV.undef)).bind fun xB=>
       ((A.cell xI.1).bind fun v=>some [v]).bind fun tE=>
       (A.splice Eg tE xB).bind fun xA=>
       (A.add (iS.getD 2 AV.undef) aH).bind fun El=>
       some (AX.normal,[(iR.2.1.getD 0 AV.undef),(AV.lbx xA),El],xI.2))else
      none) (
      some (AX.exit 6,[(iS.getD 0 AV.undef),(iS.getD 1 AV.undef),(iS.getD 2 AV.undef)],sC))) [(zP.2.1.getD 1 AV.undef),(zP.2.1.getD 2 AV.undef),ah] zP.2.2).bind fun NR=>
   bif NR.1==AX.exit 6 then(
    ((A.lb (NR.2.1.getD 1 AV.undef)).bind fun I5=>A.ay 0 5 I5).bind fun TO=>
    (A.lb (NR.2.1.getD 0 AV.undef)).bind fun AW=>
    (A.cells 5 TO).bind fun I6=>
    (A.splice 0 I6 AW).bind fun D2=>
    (A.ay 0 5 D2).bind fun x168=>
    A.fin σ x168 NR.2.2)else
   none)else
  none)else
 none
noncomputable def Ll:List AV→Heap→Option (AV×Heap):=A.wrap true Cw (.a [(.e 3 [.k,.k,(.e 7 oV)]),(.s 4),(.e 3 [.k,.k,(.s 3)]),(.e 2 [.k,(.e 11 tK)]),(.s 3)]) (A.dH PJ)
noncomputable def Ij (a0:AV) (σ:Heap):Option (AV×Heap):=
 (A.cells 5 a0).bind fun c1=>
 (A.ay 0 5 c1).bind fun x2=>
 (KZ [x2] σ).bind fun r3=>
 (A.neq .i r3.1 ah).bind fun x4=>
 A.cond x4 (
  some ((AV.aF [AV.np,r3.1]),r3.2)) (
  (A.ay 0 5 c1).bind fun x5=>
  (Ll [x5] r3.2).bind fun r6=>
  (A.cells 5 r6.1).bind fun c7=>
  (A.splice 0 c7 c1).bind fun c8=>
  (A.ay 0 5 c8).bind fun x9=>
  (((A.cells 5 x9).bind fun dJ=>(A.splice 4 dJ [AV.aq,ah,ah,aI,AV.aq,AV.aq,AV.aq,AV.aq,AV.aq,AV.aq,AV.nm,AV.aq]).bind fun fN=>((A.cell (AV.om r6.2.length)).bind fun v=>some [v]).bind fun dX=>(A.splice 10 dX fN).bind fun fV=>some fV).bind fun cs=>some (AV.agg cs)).bind fun cN=>
  (A.cells 12 cN).bind fun gV=>
  (A.aN (AV.op (r6.2++[aK.map []]).length 0)).bind fun cB=>
  (A.aA 0 cB).bind fun cQ=>
  (A.aA 2 cQ).bind fun bF=>
  ((A.cell (AV.int .i64 65535)).bind fun v=>some [v]).bind fun jQ=>
  (A.storeAt bF jQ ((r6.2++[aK.map []])++[aK.box gV])).bind fun iJ=>
  (A.ay 0 2 c8).bind fun cr=>
  (Fw [cr] iJ).bind fun E4=>
  (A.ext 0 E4.1).bind fun eC=>
  (A.ext 1 E4.1).bind fun x24=>
  (A.aN (AV.op (r6.2++[aK.map []]).length 0)).bind fun x25=>
  (A.aA 9 x25).bind fun fK=>
  ((A.cell eC).bind fun v=>some [v]).bind fun jR=>
  (A.storeAt fK jR E4.2).bind fun qm=>
  (A.aj 0 c8).bind fun x29=>
  (A.bK x29).bind fun cW=>
  (A.loop (fun v31 sW=>
    (A.lss (v31.getD 1 AV.undef) cW).bind fun x34=>
    A.cond x34 (
     (A.aW 3 x29 (v31.getD 1 AV.undef)).bind fun gy=>
     ((A.deref gy sW).bind fun gD=>A.ay 0 3 gD).bind fun bR=>
     (A.cells 3 bR).bind fun jS=>
     (A.splice 0 jS [bg,ah,AV.aq]).bind fun lp=>
     (A.aj 0 lp).bind fun dm=>
     (A.ay 0 3 lp).bind fun ef=>
     (A.eA .z (AV.om qm.length) dm ef sW).bind fun JI=>
     (A.add (v31.getD 1 AV.undef) aH).bind fun fL=>
     some (AX.normal,[(v31.getD 0 AV.undef),fL],JI)) (
     some (AX.exit 0,[(v31.getD 0 AV.undef),(v31.getD 1 AV.undef)],sW))) [(AV.lbx c8),ah] (qm++[aK.map []])).bind fun dY=>
  bif dY.1==AX.exit 0 then(
   ((A.lb (dY.2.1.getD 0 AV.undef)).bind fun _=>some (0)).bind fun p45=>
   ((A.lb (dY.2.1.getD 0 AV.undef)).bind fun _=>some ((p45+1))).bind fun Kc=>
   ((A.lb (dY.2.1.getD 0 AV.undef)).bind fun iz=>A.aj Kc iz).bind fun iC=>
   (A.bK iC).bind fun eP=>
   (A.loop (fun v50 tW=>
     (A.lss (v50.getD 1 AV.undef) eP).bind fun gP=>
     A.cond gP (
      (A.aW 4 iC (v50.getD 1 AV.undef)).bind fun gY=>
      ((A.deref gY tW).bind fun gM=>A.ay 0 4 gM).bind fun gG=>
      (A.cells 4 gG).bind fun iA=>
      (A.splice 0 iA [ah,bg,ah,ah]).bind fun ig=>
      (A.aj 1 ig).bind fun eW=>
      (A.look .z (AV.om qm.length) eW (AV.agg [bg,ah,AV.aq]) tW).bind fun gz=>
      ((A.cells 3 gz).bind fun l6=>A.aj 2 l6).bind fun eY=>
      (A.bK eY).bind fun eR=>
      (A.loop (fun v64 gu=>
        (A.lss (v64.getD 2 AV.undef) eR).bind fun jX=>
        A.cond jX (
         (A.aW 7 eY (v64.getD 2 AV.undef)).bind fun gI=>
         ((A.deref gI gu).bind fun mW=>A.ay 0 7 mW).bind fun eZ=>
         (A.cells 7 eZ).bind fun lR=>
         (A.splice 0 lR [bg,ah,ah,ah,ah,aI,AV.aq]).bind fun jK=>
         (A.aN (AV.op (r6.2++[aK.map []]).length 0)).bind fun hG=>
         (A.aA 10 hG).bind fun iq=>
         ((A.deref iq gu).bind fun qp=>A.aj 0 qp).bind fun iD=>
         ((A.lb (v64.getD 1 AV.undef)).bind fun _=>some (0)).bind fun sQ=>
         ((A.lb (v64.getD 1 AV.undef)).bind fun oh=>A.aj sQ oh).bind fun jF=>
         (A.aj 0 jK).bind fun fA=>
         ((((A.cell jF).bind fun v=>some [v]).bind fun mX=>(A.splice 0 mX [ah,bg]).bind fun lE=>((A.cell fA).bind fun v=>some [v]).bind fun kI=>(A.splice 1 kI lE).bind fun jc=>some jc).bind fun cs=>some (AV.agg cs)).bind fun iE=>
         (A.ay 0 7 jK).bind fun jh=>
         (A.eA (.s [0,2]) iD iE jh gu).bind fun uU=>
         (A.add (v64.getD 2 AV.undef) aH).bind fun iF=>
         some (AX.normal,[(v64.getD 0 AV.undef),(v64.getD 1 AV.undef),iF],uU)) (
         some (AX.exit 4,[(v64.getD 0 AV.undef),(v64.getD 1 AV.undef),(v64.getD 2 AV.undef)],gu))) [(v50.getD 0 AV.undef),(AV.lbx ig),ah] tW).bind fun yw=>
      bif yw.1==AX.exit 4 then(
       (A.add (v50.getD 1 AV.undef) aH).bind fun x90=>
       some (AX.normal,[(yw.2.1.getD 0 AV.undef),x90],yw.2.2))else
      none) (
      some (AX.exit 2,[(v50.getD 0 AV.undef),(v50.getD 1 AV.undef)],tW))) [(dY.2.1.getD 0 AV.undef),ah] dY.2.2).bind fun zO=>
   bif zO.1==AX.exit 2 then(
    ((A.lb (zO.2.1.getD 0 AV.undef)).bind fun _=>some (4)).bind fun p92=>
    ((A.lb (zO.2.1.getD 0 AV.undef)).bind fun vX=>A.aj p92 vX).bind fun rK=>
    (A.bK rK).bind fun x95=>
    (A.loop (fun jE sZ=>
      (A.lss (jE.getD 1 AV.undef) x95).bind fun x99=>
      A.cond x99 (
       (A.aW 3 rK (jE.getD 1 AV.undef)).bind fun nX=>
       ((A.deref nX sZ).bind fun nC=>A.ay 0 3 nC).bind fun x102=>
       (A.cells 3 x102).bind fun DV=>
       (A.splice 0 DV [ah,ah,ah]).bind fun sv=>
       ((A.lb (jE.getD 0 AV.undef)).bind fun AL=>A.ay 0 5 AL).bind fun nY=>
       (A.aj 1 sv).bind fun nZ=>
       (BS [nY,nZ] sZ).bind fun nV=>
       (A.ext 0 nV.1).bind fun n4=>
       (A.ext 1 nV.1).bind fun Bc=>
       (A.cells 2 n4).bind fun lT=>
       (A.splice 0 lT [ah,AV.aq]).bind fun DX=>
       (A.aN (AV.op (r6.2++[aK.map []]).length 0)).bind fun x113=>
       (A.aA 0 x113).bind fun x114=>
       (A.aA 0 x114).bind fun x115=>
       ((A.deref x115 nV.2).bind fun p6=>A.aj 0 p6).bind fun qi=>
       (A.aj 0 sv).bind fun xL=>
       (A.aj 2 sv).bind fun Bd=>
       (A.aj 1 DX).bind fun xM=>
       ((((A.cell xL).bind fun v=>some [v]).bind fun p7=>(A.splice 3 p7 [ah,ah,aI,ah,ah,AV.aq,ah,ah,ah,AV.nm]).bind fun xm=>((A.cell Bd).bind fun v=>some [v]).bind fun nT=>(A.splice 4 nT xm).bind fun AM=>((A.cell xM).bind fun v=>some [v]).bind fun xq=>(A.splice 5 xq AM).bind fun sw=>((A.cell (AV.int .i64 (-1))).bind fun v=>some [v]).bind fun qV=>(A.splice 6 qV sw).bind fun lU=>((A.cell (AV.int .i64 65535)).bind fun v=>some [v]).bind fun AN=>(A.splice 7 AN lU).bind fun AO=>((A.cell (AV.int .i64 (-1))).bind fun v=>some [v]).bind fun xu=>(A.splice 8 xu AO).bind fun AP=>some AP).bind fun cs=>some (AV.agg cs)).bind fun n5=>
       (((A.cells 10 n5).bind fun nU=>(A.splice 0 nU [ah,ah,aI,ah,ah,AV.aq,ah,ah,ah,AV.nm]).bind fun AQ=>some AQ).bind fun cs=>some (AV.sl 10 (chunks 10 1 cs))).bind fun lQ=>
       (A.append 10 (140737488355328 / 96) qi lQ nV.2).bind fun xH=>
       (A.aN (AV.op (r6.2++[aK.map []]).length 0)).bind fun lZ=>
       (A.aA 0 lZ).bind fun xQ=>
       (A.aA 0 xQ).bind fun xR=>
       ((A.cell xH.1).bind fun v=>some [v]).bind fun D0=>
       (A.storeAt xR D0 xH.2).bind fun AR=>
       (A.add (jE.getD 1 AV.undef) aH).bind fun mQ=>
       some (AX.normal,[(jE.getD 0 AV.undef),mQ],AR)) (
       some (AX.exit 6,[(jE.getD 0 AV.undef),(jE.getD 1 AV.undef)],sZ))) [(zO.2.1.getD 0 AV.undef),ah] zO.2.2).bind fun ab2=>
    bif ab2.1==AX.exit 6 then(
     some ((AV.aF [(AV.op (r6.2++[aK.map []]).length 0),ah]),ab2.2.2))else
    none)else
   none)else
  none)
noncomputable def Dr:List AV→Heap→Option (AV×Heap):=A.wrap true Cw .k (A.dH Ij)
noncomputable def Ft (a0 a1 a2:AV) (σ:Heap):Option (AV×Heap):=
 ((A.cells 5 a2).bind fun cs=>some (AV.rp cs)).bind fun x1=>
 (A.aA 1 x1).bind fun x2=>
 ((A.deref x2 σ).bind fun c3=>A.aj 0 c3).bind fun x4=>
 (A.eql .i x4 (AV.int .i64 8)).bind fun x5=>
 A.cond x5 (
  (A.aN a1).bind fun x6=>
  (A.aA 1 x6).bind fun x7=>
  ((A.deref x7 σ).bind fun c8=>A.aj 0 c8).bind fun x9=>
  (A.add x9 aH).bind fun bE=>
  (A.aN a1).bind fun cg=>
  (A.aA 1 cg).bind fun ck=>
  ((A.cell bE).bind fun v=>some [v]).bind fun fV=>
  (A.storeAt ck fV σ).bind fun i6=>
  (A.aA 4 x1).bind fun dF=>
  ((A.deref dF i6).bind fun jO=>A.aj 0 jO).bind fun cQ=>
  (A.aN a1).bind fun bF=>
  (A.aA 2 bF).bind fun bX=>
  ((A.cell cQ).bind fun v=>some [v]).bind fun iJ=>
  (A.storeAt bX iJ i6).bind fun i7=>
  some (ah,i7)) (
  (A.eql .i x4 (AV.int .i64 9)).bind fun cZ=>
  A.cond cZ (
   (A.aN a1).bind fun eC=>
   (A.aA 1 eC).bind fun x24=>
   ((A.deref x24 σ).bind fun iK=>A.aj 0 iK).bind fun fK=>
   (A.add fK aH).bind fun dL=>
   (A.aN a1).bind fun x28=>
   (A.aA 1 x28).bind fun x29=>
   ((A.cell dL).bind fun v=>some [v]).bind fun qn=>
   (A.storeAt x29 qn σ).bind fun ru=>
   (A.aA 4 x1).bind fun x32=>
   ((A.deref x32 ru).bind fun Ev=>A.aj 0 Ev).bind fun x34=>
   (A.eql .i x34 aH).bind fun gy=>
   (A.aN a1).bind fun gX=>
   (A.aA 3 gX).bind fun bR=>
   ((A.cell gy).bind fun v=>some [v]).bind fun jS=>
   (A.storeAt bR jS ru).bind fun lp=>
   some (ah,lp)) (
   (A.aN a1).bind fun dm=>
   (A.aA 0 dm).bind fun ef=>
   ((A.deref ef σ).bind fun l5=>A.aj 0 l5).bind fun fL=>
   (Ht (A.tab (fun _ _=>none) [(352,BL),(354,BM)]) [fL,(AV.fn 352 [x1])] σ).bind fun dY=>
   (A.aN a1).bind fun dU=>
   (A.aA 0 dU).bind fun fM=>
   ((A.deref fM dY.2).bind fun iz=>A.aj 0 iz).bind fun iC=>
   (A.aW 10 iC dY.1).bind fun eP=>
   (A.aA 1 x1).bind fun lF=>
   ((A.deref lF dY.2).bind fun sJ=>A.aj 0 sJ).bind fun eD=>
   (A.eql .i eD aH).bind fun gP=>
   A.cond gP (
    (A.aN eP).bind fun gY=>
    (A.aA 6 gY).bind fun lG=>
    ((A.deref lG dY.2).bind fun mU=>A.aj 0 mU).bind fun kC=>
    (A.add kC aH).bind fun gZ=>
    (A.aN eP).bind fun eW=>
    (A.aA 5 eW).bind fun gz=>
    ((A.deref gz dY.2).bind fun l6=>A.aj 0 l6).bind fun eY=>
    (A.bK eY).bind fun eR=>
    (A.eql .i gZ eR).bind fun mj=>
    A.cond mj (
     some ((AV.int .i64 8),dY.2)) (
     (A.aN a1).bind fun jf=>
     (A.aA 1 jf).bind fun gH=>
     ((A.deref gH dY.2).bind fun sL=>A.aj 0 sL).bind fun gI=>
     (A.add gI aH).bind fun fQ=>
     (A.aN a1).bind fun eZ=>
     (A.aA 1 eZ).bind fun mm=>
     ((A.cell fQ).bind fun v=>some [v]).bind fun jK=>
     (A.storeAt mm jK dY.2).bind fun JB=>
     (A.geq gZ ah).bind fun iq=>
     (A.cond iq (
      (A.aA 0 x1).bind fun iD=>
      ((A.deref iD JB).bind fun l7=>A.aj 0 l7).bind fun jg=>
      (tc [a0,a1,dY.1,gZ,jg] JB).bind fun ku=>
      some (([]:List AV),ku.2)) (
      some (([]:List AV),JB))).bind fun r75=>
     some (ah,r75.2))) (
    (A.eql .i eD (AV.int .i64 2)).bind fun fA=>
    A.cond fA (
     (A.aN eP).bind fun oC=>
     (A.aA 6 oC).bind fun oD=>
     ((A.deref oD dY.2).bind fun kI=>A.aj 0 kI).bind fun yB=>
     (A.sub yB aH).bind fun iE=>
     (A.lss iE ah).bind fun jh=>
     A.cond jh (
      some ((AV.int .i64 8),dY.2)) (
      (A.aN a1).bind fun mo=>
      (A.aA 1 mo).bind fun iF=>
      ((A.deref iF dY.2).bind fun l8=>A.aj 0 l8).bind fun x90=>
      (A.add x90 aH).bind fun x91=>
      (A.aN a1).bind fun oF=>
      (A.aA 1 oF).bind fun x93=>
      ((A.cell x91).bind fun v=>some [v]).bind fun oo=>
      (A.storeAt x93 oo dY.2).bind fun iU=>
      (A.geq iE ah).bind fun x96=>
      (A.cond x96 (
       (A.aA 0 x1).bind fun x98=>
       ((A.deref x98 iU).bind fun xW=>A.aj 0 xW).bind fun nX=>
       (tc [a0,a1,dY.1,iE,nX] iU).bind fun vS=>
       some (([]:List AV),vS.2)) (
       some (([]:List AV),iU))).bind fun r97=>
      some (ah,r97.2))) (
     (A.eql .i eD (AV.int .i64 3)).bind fun x102=>
     A.cond x102 (
      (A.aN eP).bind fun uH=>
      (A.aA 5 uH).bind fun x104=>
      ((A.deref x104 dY.2).bind fun AL=>A.aj 0 AL).bind fun nY=>
      (Hv (A.tab (fun _ _=>none) [(352,BL),(354,BM)]) [nY,(AV.fn 354 [x1])] dY.2).bind fun GU=>
      (A.lss GU.1 ah).bind fun Ju=>
      A.cond Ju (
       some ((AV.int .i64 8),GU.2)) (
       (A.aN a1).bind fun n4=>
       (A.aA 1 n4).bind fun Bc=>
       ((A.deref Bc GU.2).bind fun lT=>A.aj 0 lT).bind fun x112=>
       (A.add x112 aH).bind fun x113=>
       (A.aN a1).bind fun x114=>
       (A.aA 1 x114).bind fun x115=>
       ((A.cell x113).bind fun v=>some [v]).bind fun p6=>
       (A.storeAt x115 p6 GU.2).bind fun DZ=>
       (A.geq GU.1 ah).bind fun xL=>
       (A.cond xL (
        (A.aA 0 x1).bind fun xM=>
        ((A.deref xM DZ).bind fun p7=>A.aj 0 p7).bind fun Jv=>
        (tc [a0,a1,dY.1,GU.1,Jv] DZ).bind fun pq=>
        some (([]:List AV),pq.2)) (
        some (([]:List AV),DZ))).bind fun ao3=>
       some (ah,ao3.2))) (
      (A.eql .i eD (AV.int .i64 4)).bind fun sD=>
      A.cond sD (
       (A.aN eP).bind fun jJ=>
       (A.aA 0 jJ).bind fun xP=>
       (A.aA 2 xP).bind fun uJ=>
       ((A.deref uJ dY.2).bind fun lU=>A.aj 0 lU).bind fun mF=>
       (A.guard mF false (some eP) an).bind fun qj=>
       (A.guard mF false (A.aN qj) an).bind fun uK=>
       (A.guard mF false (A.aA 6 uK) an).bind fun lY=>
       (A.guard mF false ((A.deref lY dY.2).bind fun ant=>A.aj 0 ant) an).bind fun Jw=>
       (A.guard mF false (A.lss Jw ah) an).bind fun sE=>
       (A.pick mF cK sE).bind fun lQ=>
       A.cond lQ (
        some ((AV.int .i64 10),dY.2)) (
        (A.aN eP).bind fun sF=>
        (A.aA 0 sF).bind fun lZ=>
        ((A.deref lZ dY.2).bind fun xw=>A.ay 0 3 xw).bind fun xR=>
        (A.aA 0 x1).bind fun uL=>
        ((A.deref uL dY.2).bind fun AR=>A.aj 0 AR).bind fun mQ=>
        (A.quiet (wF [xR,mQ] dY.2) dY.2).bind fun TK=>
        (A.aA 0 x1).bind fun TL=>
        ((A.deref TL dY.2).bind fun anv=>A.aj 0 anv).bind fun TM=>
        ((((A.cell TK).bind fun v=>some [v]).bind fun SQ=>(A.splice 0 SQ [ah,ah,aI]).bind fun xy=>((A.cell TM).bind fun v=>some [v]).bind fun I3=>(A.splice 1 I3 xy).bind fun xz=>((A.cell cK).bind fun v=>some [v]).bind fun SR=>(A.splice 2 SR xz).bind fun uy=>some uy).bind fun cs=>some (AV.agg cs)).bind fun TN=>
        (A.aN eP).bind fun Bf=>
        (A.aA 0 Bf).bind fun apk=>
        (A.cells 3 TN).bind fun anx=>
        (A.storeAt apk anx dY.2).bind fun tE=>
        (A.aN a1).bind fun x159=>
        (A.aA 1 x159).bind fun x160=>
        ((A.deref x160 tE).bind fun I4=>A.aj 0 I4).bind fun apl=>
        (A.add apl aH).bind fun apm=>
        (A.aN a1).bind fun TO=>
        (A.aA 1 TO).bind fun apn=>
        ((A.cell apm).bind fun v=>some [v]).bind fun D2=>
        (A.storeAt apn D2 tE).bind fun AW=>
        (A.geq (AV.int .i64 (-1)) ah).bind fun x168=>
        (A.cond x168 (
         (A.aA 0 x1).bind fun apo=>
         ((A.deref apo AW).bind fun anB=>A.aj 0 anB).bind fun TP=>
         (tc [a0,a1,dY.1,(AV.int .i64 (-1)),TP] AW).bind fun ao5=>
         some (([]:List AV),ao5.2)) (
         some (([]:List AV),AW))).bind fun ao4=>
        some (ah,ao4.2))) (
       (A.eql .i eD (AV.int .i64 5)).bind fun TQ=>
       A.cond TQ (
        (A.aN eP).bind fun aps=>
        (A.aA 0 aps).bind fun TR=>
        (A.aA 2 TR).bind fun apt=>
        ((A.deref apt dY.2).bind fun SV=>A.aj 0 SV).bind fun apu=>
        (A.not apu).bind fun apv=>
        A.cond apv (
         some ((AV.int .i64 10),dY.2)) (
         (A.aN eP).bind fun apw=>
         (A.aA 0 apw).bind fun apx=>
         (A.aA 0 apx).bind fun TS=>
         ((A.deref TS dY.2).bind fun SX=>A.aj 0 SX).bind fun apy=>
         (A.aA 0 x1).bind fun apz=>
         ((A.deref apz dY.2).bind fun anJ=>A.aj 0 anJ).bind fun apB=>
         ((((A.cell apy).bind fun v=>some [v]).bind fun anL=>(A.splice 0 anL [ah,ah,aI]).bind fun anM=>((A.cell apB).bind fun v=>some [v]).bind fun anN=>(A.splice 1 anN anM).bind fun D3=>((A.cell aI).bind fun v=>some [v]).bind fun D4=>(A.splice 2 D4 D3).bind fun D5=>some D5).bind fun cs=>some (AV.agg cs)).bind fun apD=>
         (A.aN eP).bind fun apE=>
         (A.aA 0 apE).bind fun apF=>
         (A.cells 3 apD).bind fun anO=>
         (A.storeAt apF anO dY.2).bind fun abv=>
         (A.aN a1).bind fun TT=>
         (A.aA 1 TT).bind fun apI=>
         ((A.deref apI abv).bind fun SY=>A.aj 0 SY).bind fun TU=>
         (A.add TU aH).bind fun TV=>
         (A.aN a1).bind fun apJ=>
         (A.aA 1 apJ).bind fun apK=>
         ((A.cell TV).bind fun v=>some [v]).bind fun anS=>
         (A.storeAt apK anS abv).bind fun SZ=>
         (A.geq (AV.int .i64 (-1)) ah).bind fun apN=>
         (A.cond apN (
          (A.aA 0 x1).bind fun TW=>
          ((A.deref TW SZ).bind fun anV=>A.aj 0 anV).bind fun apP=>
          (tc [a0,a1,dY.1,(AV.int .i64 (-1)),apP] SZ).bind fun ao7=>
          some (([]:List AV),ao7.2)) (
          some (([]:List AV),SZ))).bind fun ao6=>
         some (ah,ao6.2))) (
        (A.eql .i eD (AV.int .i64 6)).bind fun apQ=>
        A.cond apQ (
         (A.aN eP).bind fun apR=>
         (A.aA 6 apR).bind fun TX=>
         ((A.deref TX dY.2).bind fun anY=>A.aj 0 anY).bind fun TY=>
         (A.lss TY ah).bind fun TZ=>
         A.cond TZ (
          some ((AV.int .i64 10),dY.2)) (
          (A.aN a1).bind fun T0=>
          (A.aA 1 T0).bind fun T3=>
          ((A.deref T3 dY.2).bind fun anZ=>A.aj 0 anZ).bind fun apT=>
          (A.add apT aH).bind fun T4=>
          (A.aN a1).bind fun T5=>
          (A.aA 1 T5).bind fun T6=>
          ((A.cell T4).bind fun v=>some [v]).bind fun an0=>
          (A.storeAt T6 an0 dY.2).bind fun abw=>
          ((A.deref x1 abw).bind fun an1=>A.ay 0 5 an1).bind fun apV=>
          (HB [a0,a1,eP,apV] abw).bind fun ao9=>
          some (ah,ao9.2))) (
         (A.eql .i eD (AV.int .i64 7)).bind fun T7=>
         (A.cond T7 (
          (A.aA 4 x1).bind fun T8=>
          ((A.deref T8 dY.2).bind fun S4=>A.aj 0 S4).bind fun apY=>
          (A.aN eP).bind fun apZ=>
          (A.aA 7 apZ).bind fun ap0=>
          ((A.cell apY).bind fun v=>some [v]).bind fun an4=>
          (A.storeAt ap0 an4 dY.2).bind fun an5=>
          some (([]:List AV),an5)) (
          some (([]:List AV),dY.2))).bind fun ab3=>
         (A.aN a1).bind fun ap1=>
         (A.aA 1 ap1).bind fun ap2=>
         ((A.deref ap2 ab3.2).bind fun an6=>A.aj 0 an6).bind fun ap3=>
         (A.add ap3 aH).bind fun ap4=>
         (A.aN a1).bind fun ap5=>
         (A.aA 1 ap5).bind fun ap6=>
         ((A.cell ap4).bind fun v=>some [v]).bind fun an7=>
         (A.storeAt ap6 an7 ab3.2).bind fun S5=>
         (A.geq (AV.int .i64 (-1)) ah).bind fun ap7=>
         (A.cond ap7 (
          (A.aA 0 x1).bind fun ap8=>
          ((A.deref ap8 S5).bind fun an8=>A.aj 0 an8).bind fun ap9=>
          (tc [a0,a1,dY.1,(AV.int .i64 (-1)),ap9] S5).bind fun apb=>
          some (([]:List AV),apb.2)) (
          some (([]:List AV),S5))).bind fun apa=>
         some (ah,apa.2)))))))))
noncomputable def HK:List AV→Heap→Option (AV×Heap):=A.wrap false [] .k (A.ko Ft)
noncomputable def Li (a0 a1:AV) (σ:Heap):Option (AV×Heap):=
 (A.cells 5 a1).bind fun c1=>
 (A.aN a0).bind fun x2=>
 (A.aA 11 x2).bind fun x3=>
 ((A.deref x3 σ).bind fun c4=>A.aj 0 c4).bind fun x5=>
 (A.bK x5).bind fun x6=>
 (A.eql .i x6 (AV.int .i64 5000)).bind fun x7=>
 (A.quiet (qE [x7,(AV.int .i64 2)] σ) σ).bind fun x8=>
 (A.ay 0 5 c1).bind fun x9=>
 (A.quiet (KV [x9] σ) σ).bind fun bE=>
 (A.aj 0 c1).bind fun cg=>
 (A.quiet (HS [cg] σ) σ).bind fun ck=>
 (A.not ck).bind fun dh=>
 (A.quiet (qE [dh,aH] σ) σ).bind fun cN=>
 (A.aj 0 c1).bind fun dF=>
 (A.quiet (Fp [a0] σ) σ).bind fun cB=>
 (A.lss dF cB).bind fun cQ=>
 (A.quiet (qE [cQ,(AV.int .i64 7)] σ) σ).bind fun bF=>
 ((((A.cell x8).bind fun v=>some [v]).bind fun jQ=>(A.splice 0 jQ [ah,ah,ah,ah]).bind fun iJ=>((A.cell bE).bind fun v=>some [v]).bind fun i7=>(A.splice 1 i7 iJ).bind fun gB=>((A.cell cN).bind fun v=>some [v]).bind fun fk=>(A.splice 2 fk gB).bind fun iy=>((A.cell bF).bind fun v=>some [v]).bind fun iK=>(A.splice 3 iK iy).bind fun fW=>some fW).bind fun cs=>some (AV.sl 1 (chunks 1 4 cs))).bind fun dL=>
 (A.quiet (wI [dL] σ) σ).bind fun x28=>
 (A.aN a0).bind fun x29=>
 (A.aA 4 x29).bind fun cW=>
 ((A.deref cW σ).bind fun ru=>A.ay 0 5 ru).bind fun x32=>
 (A.ay 0 5 c1).bind fun ep=>
 (A.quiet (KW [x32,ep] σ) σ).bind fun x34=>
 ((((A.cell x28).bind fun v=>some [v]).bind fun gC=>(A.splice 0 gC [ah,ah]).bind fun gD=>((A.cell x34).bind fun v=>some [v]).bind fun fJ=>(A.splice 1 fJ gD).bind fun jS=>some jS).bind fun cs=>some (AV.sl 1 (chunks 1 2 cs))).bind fun fu=>
 (A.quiet (wI [fu] σ) σ).bind fun dm=>
 (A.neq .i dm ah).bind fun ef=>
 A.cond ef (
  some (dm,σ)) (
  (A.aj 0 c1).bind fun fP=>
  (Fo [a0,fP] σ).bind fun iY=>
  (A.cells 4 iY.1).bind fun Ew=>
  (A.storeAt (AV.op iY.2.length 0) Ew (iY.2++[aK.box [AV.aq,ah,ah,aI]])).bind fun Ex=>
  (A.ay 0 5 c1).bind fun fM=>
  (HK [a0,(AV.op iY.2.length 0),fM] Ex).bind fun oB=>
  (A.neq .i oB.1 ah).bind fun iC=>
  A.cond iC (
   some (oB.1,oB.2)) (
   ((A.deref (AV.op iY.2.length 0) oB.2).bind fun uO=>A.ay 0 4 uO).bind fun lF=>
   (A.aN a0).bind fun iN=>
   (A.aA 0 iN).bind fun eD=>
   (A.cells 4 lF).bind fun oc=>
   (A.storeAt eD oc oB.2).bind fun rz=>
   (A.aN a0).bind fun lG=>
   (A.aA 11 lG).bind fun gG=>
   ((A.deref gG rz).bind fun iA=>A.aj 0 iA).bind fun gZ=>
   (A.ay 0 5 c1).bind fun eW=>
   (((A.cells 5 eW).bind fun Bj=>(A.splice 0 Bj [ah,ah,ah,ah,ah]).bind fun l6=>some l6).bind fun cs=>some (AV.sl 5 (chunks 5 1 cs))).bind fun eY=>
   (A.append 5 (140737488355328 / 40) gZ eY rz).bind fun C5=>
   (A.aN a0).bind fun mj=>
   (A.aA 11 mj).bind fun jf=>
   ((A.cell C5.1).bind fun v=>some [v]).bind fun EA=>
   (A.storeAt jf EA C5.2).bind fun sL=>
   some (ah,sL)))
noncomputable def Fy:List AV→Heap→Option (AV×Heap):=A.wrap false [] .k (A.bQ Li)
noncomputable def td (a0 a1:AV) (σ:Heap):Option (AV×Heap):=
 (A.cells 5 a0).bind fun c1=>
 (A.ay 0 5 c1).bind fun x2=>
 (Dr [x2] σ).bind fun r3=>
 (A.ext 0 r3.1).bind fun x4=>
 (A.ext 1 r3.1).bind fun x5=>
 (A.neq .i x5 ah).bind fun x6=>
 A.cond x6 (
  some ((AV.aF [AV.np,ah,x5]),r3.2)) (
  (A.bK a1).bind fun x7=>
  (A.loop (fun v8 s9=>
    (A.lss (v8.getD 3 AV.undef) x7).bind fun cg=>
    A.cond cg (
     (A.aW 5 a1 (v8.getD 3 AV.undef)).bind fun ck=>
     ((A.deref ck s9).bind fun fV=>A.ay 0 5 fV).bind fun cN=>
     (A.cells 5 cN).bind fun gV=>
     (A.splice 0 gV [ah,ah,ah,ah,ah]).bind fun jO=>
     (A.ay 0 5 jO).bind fun cQ=>
     (Fy [x4,cQ] s9).bind fun tQ=>
     (A.neq .i tQ.1 ah).bind fun bX=>
     A.cond bX (
      some (AX.ret,[AV.np,(v8.getD 3 AV.undef),tQ.1,(v8.getD 3 AV.undef)],tQ.2)) (
      (A.add (v8.getD 3 AV.undef) aH).bind fun cR=>
      some (AX.normal,[(v8.getD 0 AV.undef),(v8.getD 1 AV.undef),(v8.getD 2 AV.undef),cR],tQ.2))) (
     some (AX.exit 0,[(v8.getD 0 AV.undef),(v8.getD 1 AV.undef),(v8.getD 2 AV.undef),(v8.getD 3 AV.undef)],s9))) [AV.np,ah,ah,ah] r3.2).bind fun lS=>
  bif lS.1==AX.exit 0 then(
   some ((AV.aF [x4,ah,ah]),lS.2.2))else
  bif lS.1==AX.ret then(
   some ((AV.aF [(lS.2.1.getD 0 AV.undef),(lS.2.1.getD 1 AV.undef),(lS.2.1.getD 2 AV.undef)]),lS.2.2))else
  none)
noncomputable def BQ:List AV→Heap→Option (AV×Heap):=A.wrap false [] .k (A.bQ td)
noncomputable def Vt (a0 a1 a2:AV) (σ:Heap):Option (AV×Heap):=
 (A.cells 2 a1).bind fun c1=>
 (A.aN a0).bind fun x2=>
 (A.aA 10 x2).bind fun x3=>
 ((A.deref x3 σ).bind fun c4=>A.aj 0 c4).bind fun x5=>
 (A.ay 0 2 c1).bind fun x6=>
 (A.Cg (.s [0,2]) x5 x6 (AV.agg [bg,ah,ah,ah,ah,aI,AV.aq]) σ).bind fun x7=>
 (A.ext 0 x7).bind fun x8=>
 (A.ext 1 x7).bind fun x9=>
 (A.cells 7 x8).bind fun dJ=>
 (A.splice 0 dJ [bg,ah,ah,ah,ah,aI,AV.aq]).bind fun fN=>
 (Pa [a0,a2] σ).bind fun ga=>
 (A.not x9).bind fun dh=>
 (qE [dh,(AV.int .i64 8)] ga.2).bind fun iL=>
 ((((A.cell ga.1).bind fun v=>some [v]).bind fun gV=>(A.splice 0 gV [ah,ah]).bind fun jO=>((A.cell iL.1).bind fun v=>some [v]).bind fun jP=>(A.splice 1 jP jO).bind fun iT=>some iT).bind fun cs=>some (AV.sl 1 (chunks 1 2 cs))).bind fun bX=>
 (wI [bX] iL.2).bind fun wq=>
 A.fin σ wq.1 wq.2
noncomputable def HH:List AV→Heap→Option (AV×Heap):=A.wrap true [(.p CV)] .k (A.ko Vt)
noncomputable def Lc (a0 a1 a2:AV) (σ:Heap):Option (AV×Heap):=
 (A.cells 2 a1).bind fun c1=>
 (A.ay 0 2 c1).bind fun x2=>
 (HH [a0,x2,a2] σ).bind fun r3=>
 (A.neq .i r3.1 ah).bind fun x4=>
 A.cond x4 (
  some ((AV.aF [ah,r3.1]),r3.2)) (
  (Fo [a0,a2] r3.2).bind fun r5=>
  (A.cells 4 r5.1).bind fun c6=>
  (A.storeAt (AV.op r5.2.length 0) c6 (r5.2++[aK.box [AV.aq,ah,ah,aI]])).bind fun c7=>
  (A.ay 0 2 c1).bind fun x8=>
  (HG [a0,(AV.op r5.2.length 0),x8,a2] c7).bind fun r9=>
  some ((AV.aF [r9.1,ah]),r9.2))
noncomputable def O2:List AV→Heap→Option (AV×Heap):=A.wrap false [] .k (A.ko Lc)
end
section
set_option maxRecDepth 100000
noncomputable def Vc (a0 a1 a2 a3 a4:AV) (σ:Heap):Option (AV×Heap):=
 (A.cells 2 a0).bind fun c1=>
 (A.cells 2 a1).bind fun c2=>
 (A.cells 11 a3).bind fun c3=>
 (A.ay 0 2 c1).bind fun x4=>
 (A.ay 0 2 c2).bind fun x5=>
 (Pp [x4,x5] σ).bind fun r6=>
 (A.ext 0 r6.1).bind fun x7=>
 (A.ext 1 r6.1).bind fun x8=>
 (A.cells 7 x7).bind fun c9=>
 (A.splice 0 c9 [bg,ah,ah,ah,ah,aI,AV.aq]).bind fun dJ=>
 (A.ay 0 2 c2).bind fun cg=>
 ((((A.cell a2).bind fun v=>some [v]).bind fun dX=>(A.splice 0 dX [ah,ah]).bind fun fV=>some fV).bind fun cs=>some (AV.agg cs)).bind fun cN=>
 (((A.cells 2 cg).bind fun gV=>(A.splice 0 gV [ah,bg,ah,ah,aI,aI,ah,ah]).bind fun jO=>(A.cells 2 cN).bind fun jP=>(A.splice 2 jP jO).bind fun iT=>some iT).bind fun cs=>some (AV.agg cs)).bind fun bX=>
 (((A.cells 8 bX).bind fun iJ=>(A.splice 0 iJ [ah,bg,ah,ah,aI,aI,ah,ah]).bind fun i7=>some i7).bind fun cs=>some (AV.sl 8 (chunks 8 1 cs))).bind fun cZ=>
 ((A.cell (AV.int .i64 1000)).bind fun v=>some [v]).bind fun fk=>
 (A.splice 0 fk c3).bind fun iy=>
 ((A.cell (AV.int .i64 (-1))).bind fun v=>some [v]).bind fun iK=>
 (A.splice 9 iK iy).bind fun fW=>
 ((A.cell aI).bind fun v=>some [v]).bind fun jR=>
 (A.splice 8 jR fW).bind fun qm=>
 ((A.cell bg).bind fun v=>some [v]).bind fun tL=>
 (A.splice 1 tL qm).bind fun qn=>
 ((A.cell cZ).bind fun v=>some [v]).bind fun ru=>
 (A.splice 10 ru qn).bind fun vW=>
 (A.ay 0 2 c1).bind fun ep=>
 (A.ay 0 11 vW).bind fun x34=>
 (((A.cells 11 x34).bind fun gC=>(A.splice 0 gC [ah,bg,ah,ah,ah,ah,ah,AV.aq,aI,ah,AV.aq]).bind fun gD=>some gD).bind fun cs=>some (AV.sl 11 (chunks 11 1 cs))).bind fun bR=>
 ((((A.cell aH).bind fun v=>some [v]).bind fun jS=>(A.splice 0 jS [ah,AV.aq]).bind fun lp=>((A.cell bR).bind fun v=>some [v]).bind fun tM=>(A.splice 1 tM lp).bind fun sI=>some sI).bind fun cs=>some (AV.agg cs)).bind fun fP=>
 (((A.cells 2 fP).bind fun qo=>(A.splice 0 qo [ah,AV.aq]).bind fun Ew=>some Ew).bind fun cs=>some (AV.sl 2 (chunks 2 1 cs))).bind fun dU=>
 ((((A.cell aH).bind fun v=>some [v]).bind fun Ey=>(A.splice 0 Ey [ah,ah,ah]).bind fun iz=>((A.cell aH).bind fun v=>some [v]).bind fun mT=>(A.splice 1 mT iz).bind fun uO=>some uO).bind fun cs=>some (AV.agg cs)).bind fun lF=>
 (((A.cells 3 lF).bind fun sJ=>(A.splice 0 sJ [ah,ah,ah]).bind fun Bi=>some Bi).bind fun cs=>some (AV.sl 3 (chunks 3 1 cs))).bind fun gP=>
 (((A.cells 2 ep).bind fun rz=>(A.splice 0 rz ur).bind fun gM=>((A.cell dU).bind fun v=>some [v]).bind fun mU=>(A.splice 3 mU gM).bind fun iA=>((A.cell gP).bind fun v=>some [v]).bind fun ig=>(A.splice 4 ig iA).bind fun Ez=>some Ez).bind fun cs=>some (AV.agg cs)).bind fun gz=>
 (A.cells 5 gz).bind fun l6=>
 (A.splice 0 l6 ur).bind fun Jz=>
 (A.ay 0 5 Jz).bind fun eR=>
 ((((A.cell aH).bind fun v=>some [v]).bind fun mV=>(A.splice 1 mV [ah,ah,ah,ah,ah]).bind fun sK=>((A.cell aH).bind fun v=>some [v]).bind fun EA=>(A.splice 2 EA sK).bind fun sL=>some sL).bind fun cs=>some (AV.agg cs)).bind fun gI=>
 (((A.cells 5 gI).bind fun mW=>(A.splice 0 mW [ah,ah,ah,ah,ah]).bind fun EB=>some EB).bind fun cs=>some (AV.sl 5 (chunks 5 1 cs))).bind fun mm=>
 (BQ [eR,mm] r6.2).bind fun wA=>
 (A.ext 0 wA.1).bind fun hG=>
 (A.ext 1 wA.1).bind fun iq=>
 (A.ext 2 wA.1).bind fun eu=>
 (A.neq .i eu ah).bind fun iD=>
 (A.guard iD false (some x8) an).bind fun vk=>
 (A.guard iD false (A.neq .i vk ah) an).bind fun jg=>
 (A.pick iD cK jg).bind fun jF=>
 A.cond jF (
  (A.eql .p hG AV.np).bind fun fA=>
  (A.guard fA false (some x8) an).bind fun oC=>
  (A.guard fA false (A.neq .i oC ah) an).bind fun oD=>
  (A.pick fA cK oD).bind fun pK=>
  A.fin σ pK wA.2) (
  (A.eql .p hG AV.np).bind fun yB=>
  A.cond yB (
   A.fin σ aI wA.2) (
   (A.aj 4 dJ).bind fun iE=>
   (A.aj 2 vW).bind fun jh=>
   (A.aj 5 vW).bind fun mo=>
   (A.ay 6 2 vW).bind fun iF=>
   ((((A.cell iE).bind fun v=>some [v]).bind fun l8=>(A.splice 0 l8 [ah,ah,ah,ah,ah,ah,AV.aq]).bind fun l9=>((A.cell a2).bind fun v=>some [v]).bind fun Bn=>(A.splice 1 Bn l9).bind fun JC=>((A.cell jh).bind fun v=>some [v]).bind fun vX=>(A.splice 3 vX JC).bind fun oo=>((A.cell mo).bind fun v=>some [v]).bind fun iU=>(A.splice 4 iU oo).bind fun xV=>(A.cells 2 iF).bind fun sN=>(A.splice 5 sN xV).bind fun mY=>some mY).bind fun cs=>some (AV.agg cs)).bind fun x99=>
   (A.cells 7 x99).bind fun ux=>
   (A.splice 0 ux [ah,ah,ah,ah,ah,ah,AV.aq]).bind fun nC=>
   (A.aj 1 dJ).bind fun x102=>
   (A.eql .i x102 aH).bind fun uH=>
   (A.cond uH (
    (A.aj 3 vW).bind fun uI=>
    ((A.cell ah).bind fun v=>some [v]).bind fun SM=>
    (A.splice 0 SM nC).bind fun SN=>
    ((A.cell uI).bind fun v=>some [v]).bind fun xk=>
    (A.splice 4 xk SN).bind fun I2=>
    some ([(AV.lbx c2),(AV.lbx dJ),(AV.lbx I2)],wA.2)) (
    some ([(AV.lbx c2),(AV.lbx dJ),(AV.lbx nC)],wA.2))).bind fun A8=>
   ((A.lb (A8.1.getD 1 AV.undef)).bind fun _=>some (5)).bind fun aoU=>
   ((A.lb (A8.1.getD 1 AV.undef)).bind fun lT=>A.aj aoU lT).bind fun x112=>
   (A.cond x112 (
    ((A.lb (A8.1.getD 2 AV.undef)).bind fun _=>some (4)).bind fun aoV=>
    (A.lb (A8.1.getD 2 AV.undef)).bind fun DZ=>
    ((A.cell ah).bind fun v=>some [v]).bind fun p5=>
    (A.splice aoV p5 DZ).bind fun p6=>
    some ([(A8.1.getD 0 AV.undef),(AV.lbx p6)],A8.2)) (
    some ([(A8.1.getD 0 AV.undef),(A8.1.getD 2 AV.undef)],A8.2))).bind fun lW=>
   ((A.lb (lW.1.getD 1 AV.undef)).bind fun _=>some (3)).bind fun aoW=>
   ((A.lb (lW.1.getD 1 AV.undef)).bind fun SO=>A.aj aoW SO).bind fun xM=>
   ((A.lb (lW.1.getD 1 AV.undef)).bind fun _=>some (4)).bind fun aoX=>
   ((A.lb (lW.1.getD 1 AV.undef)).bind fun xm=>A.aj aoX xm).bind fun api=>
   (A.add xM api).bind fun sD=>
   (A.gtr sD (AV.int .i64 36000000)).bind fun jJ=>
   A.cond jJ (
    A.fin σ cK lW.2) (
    ((A.lb (lW.1.getD 1 AV.undef)).bind fun sw=>A.ay 0 7 sw).bind fun uJ=>
    (Ih [uJ,a4] lW.2).bind fun TC=>
    (A.ext 0 TC.1).bind fun mF=>
    (A.ext 1 TC.1).bind fun qj=>
    ((A.lb (lW.1.getD 0 AV.undef)).bind fun xu=>A.ay 0 2 xu).bind fun lY=>
    (O2 [hG,lY,a4] TC.2).bind fun TD=>
    (A.ext 0 TD.1).bind fun Jw=>
    (A.ext 1 TD.1).bind fun sE=>
    (A.eql .i qj sE).bind fun lQ=>
    (A.guard lQ true (some mF) an).bind fun sF=>
    (A.guard lQ true (some Jw) an).bind fun lZ=>
    (A.guard lQ true (A.eql .i sF lZ) an).bind fun xQ=>
    (A.pick lQ xQ aI).bind fun xR=>
    A.fin σ xR TD.2)))
noncomputable def Vb:List AV→Heap→Option (AV×Heap):=A.wrap true [(.a [(.s 3),(.s 4)]),.k,.k,(.a tK)] .k (A.Bh Vc)
end
section
open Go.RowKit
theorem nA.same {P:Program} {nm:List Nat} {f:FuncId} {args:List AV} {σ:Heap} {r:AV} (hc:∀us w,(callFunc f us).run P w=.ok (.enter f us) w)
  (h:∀(c:RC) (vs:Array Value) (w:World),aJ c args vs.toList→Calls P f vs w fun e w'=>∃v,e=.returned v∧Below w.heap.size w w'∧∀c',ak c' r v):nA P nm f args σ r σ:=by
 refine .inl ⟨f,hc,fun z vs e1 e2 hh ha=>(h _ vs z.w ha).mono ?_⟩
 rintro e w' ⟨v,k1,k2,k3⟩
 have ho:Out z z.w z.E:=⟨rfl,rfl,rfl,Nat.le_refl _,fun _ _ _=>rfl,fun i p hp=>.inr ⟨p,hp,rfl⟩,fun i p hp=>⟨p,hp,.inl rfl⟩,e2,fun p hp=>hh.lt hp⟩
 exact⟨v,z.E,k1,ho.grow k2,hh.mono (wR k2) rfl (fun p hp=>k2.block _ (hh.lt hp)),k3 _⟩
theorem Nu {c:RC} {a:AV} {vs:Array Value} (h:aJ c [a] vs.toList):∃v,vs=#[v]∧ak c a v:=by
 simp only[aJ]at h
 obtain⟨v,vs',e,h1,e2⟩:=h
 refine⟨v,?_,h1⟩
 subst e2
 cases vs;simp at e;simp [e]
theorem Sw {c:RC} {a b:AV} {vs:Array Value} (h:aJ c [a,b] vs.toList):∃v u,vs=#[v,u]∧ak c a v∧ak c b u:=by
 simp only[aJ]at h
 obtain⟨v,vs',e,h1,u,vs2,e2,h2,e3⟩:=h
 refine⟨v,u,?_,h1,h2⟩
 subst e3;subst e2
 cases vs;simp at e;simp [e]
theorem Vw:Sound Tryz.prog aG 107 La:=by
 intro args σ r σ' h
 unfold La A.bQ at h
 split at h
 ·simp only at h
  split at h
  ·simp only[Option.some.injEq,Prod.mk.injEq]at h
   obtain⟨rfl,rfl⟩:=h
   refine nA.same Tryz.call107 fun c vs w hr=>?_
   obtain⟨v,u,rfl,h1,h2⟩:=Sw hr
   simp only[ak]at h1 h2
   subst h1 h2
   refine(Tryz.strings_Compare _ _ w).mono ?_
   rintro e w' ⟨rfl,rfl⟩
   exact⟨_,rfl,Below.refl _ _,fun c'=>by simp [ak]⟩
  ·cases h
 ·cases h
end
section
open Go.RowKit
set_option maxRecDepth 100000
theorem zV {P:Program} {nm:List Nat} {f:FuncId} {m0:List AV→Heap→Option (AV×Heap)} (h0:Sound P nm f m0) (hc:∀us w,(callFunc f us).run P w=.ok (.enter f us) w)
  (hz:∀a cap w,Calls P f #[.slice a 0 cap] w fun e w'=>∃q,e=.returned (.slice q 0 0)∧Below w.heap.size w w'):Sound P nm f (A.ue m0):=by
 intro args σ r σ' h
 unfold A.ue at h
 split at h
 ·simp only[Option.some.injEq,Prod.mk.injEq]at h
  obtain⟨rfl,rfl⟩:=h
  refine nA.same hc fun c vs w hr=>?_
  obtain⟨v,rfl,h1⟩:=Nu hr
  simp only[ak]at h1
  obtain⟨a,cap,rfl,_⟩:=h1
  refine(hz _ _ w).mono ?_
  rintro e w' ⟨q,rfl,hb⟩
  exact⟨_,rfl,hb,fun c'=>by simp [ak]⟩
 ·simp only[Option.some.injEq,Prod.mk.injEq]at h
  obtain⟨rfl,rfl⟩:=h
  refine nA.same hc fun c vs w hr=>?_
  obtain⟨v,rfl,h1⟩:=Nu hr
  simp only[ak]at h1
  subst h1
  refine(hz _ _ w).mono ?_
  rintro e w' ⟨q,rfl,hb⟩
  exact⟨_,rfl,hb,fun c'=>by simp [ak]⟩
 ·simp only[Option.some.injEq,Prod.mk.injEq]at h
  obtain⟨rfl,rfl⟩:=h
  refine nA.same hc fun c vs w hr=>?_
  obtain⟨v,rfl,h1⟩:=Nu hr
  simp only[ak]at h1
  obtain⟨a,rfl⟩:=h1
  refine(hz _ _ w).mono ?_
  rintro e w' ⟨q,rfl,hb⟩
  exact⟨_,rfl,hb,fun c'=>by simp [ak]⟩
 ·simp only[Option.some.injEq,Prod.mk.injEq]at h
  obtain⟨rfl,rfl⟩:=h
  refine nA.same hc fun c vs w hr=>?_
  obtain⟨v,rfl,h1⟩:=Nu hr
  simp only[ak]at h1
  obtain⟨_,p,_,_,a,cap,rfl,_⟩:=h1
  refine(hz _ _ w).mono ?_
  rintro e w' ⟨q,rfl,hb⟩
  exact⟨_,rfl,hb,fun c'=>by simp [ak]⟩
 ·exact h0 _ _ _ _ h
theorem oK {P:Program} {t e:TypeId} (ht:P.underlying t=some (.slice e)) (a:Option Addr) (n m:Nat) (w:World):Sem.run P (binOp .eql t (.slice a n m) (.slice none 0 0)) w=.ok (.bool a.isNone) w:=by
 simp [binOp,show(Op.equal t (.slice a n m) (.slice none 0 0)).run P w=.ok a.isNone w from aaJ w 9999 t a n m ht]
theorem aka (a:Option Addr) (cap:Nat) (w:World):Calls Tryz.prog 61 #[.slice a 0 cap] w fun e w'=>∃q,e=.returned (.slice q 0 0)∧Below w.heap.size w w':=by
 go_enter Tryz.func61,Tryz.ntmps61
 cases a
 ·go_wp2_with (simp only[oK (Tryz.underlying31),Option.isNone_none,Result.andThen_ok])
  go_ret
  exact⟨_,rfl,Below.refl _ _⟩
 ·go_wp2_with (simp only[oK (Tryz.underlying31),Option.isNone_some,Result.andThen_ok])
  go_ret
  exact⟨_,rfl,(Below.refl _ _).alloc (Nat.le_refl _) _⟩
theorem aiT (a:Option Addr) (cap:Nat) (w:World):Calls Tryz.prog 62 #[.slice a 0 cap] w fun e w'=>∃q,e=.returned (.slice q 0 0)∧Below w.heap.size w w':=by
 go_enter Tryz.func62,Tryz.ntmps62
 cases a
 ·go_wp2_with (simp only[oK (Tryz.underlying28),Option.isNone_none,Result.andThen_ok])
  go_ret
  exact⟨_,rfl,Below.refl _ _⟩
 ·go_wp2_with (simp only[oK (Tryz.underlying28),Option.isNone_some,Result.andThen_ok])
  go_ret
  exact⟨_,rfl,(Below.refl _ _).alloc (Nat.le_refl _) _⟩
theorem alH (a:Option Addr) (cap:Nat) (w:World):Calls Tryz.prog 60 #[.slice a 0 cap] w fun e w'=>∃q,e=.returned (.slice q 0 0)∧Below w.heap.size w w':=by
 go_enter Tryz.func60,Tryz.ntmps60
 cases a
 ·go_wp2_with (simp only[oK (Tryz.underlying44),Option.isNone_none,Result.andThen_ok])
  go_ret
  exact⟨_,rfl,Below.refl _ _⟩
 ·go_wp2_with (simp only[oK (Tryz.underlying44),Option.isNone_some,Result.andThen_ok])
  go_ret
  exact⟨_,rfl,(Below.refl _ _).alloc (Nat.le_refl _) _⟩
theorem aiU (a:Option Addr) (cap:Nat) (w:World):Calls Tryz.prog 10 #[.slice a 0 cap] w fun e w'=>∃q,e=.returned (.slice q 0 0)∧Below w.heap.size w w':=by
 go_enter Tryz.func10,Tryz.ntmps10
 cases a
 ·go_wp2_with (simp only[oK (Tryz.underlying34),Option.isNone_none,Result.andThen_ok])
  go_ret
  exact⟨_,rfl,Below.refl _ _⟩
 ·go_wp2_with (simp only[oK (Tryz.underlying34),Option.isNone_some,Result.andThen_ok])
  go_ret
  exact⟨_,rfl,(Below.refl _ _).alloc (Nat.le_refl _) _⟩
theorem aiS (a:Option Addr) (cap:Nat) (w:World):Calls Tryz.prog 58 #[.slice a 0 cap] w fun e w'=>∃q,e=.returned (.slice q 0 0)∧Below w.heap.size w w':=by
 go_enter Tryz.func58,Tryz.ntmps58
 cases a
 ·go_wp2_with (simp only[oK (Tryz.underlying92),Option.isNone_none,Result.andThen_ok])
  go_ret
  exact⟨_,rfl,Below.refl _ _⟩
 ·go_wp2_with (simp only[oK (Tryz.underlying92),Option.isNone_some,Result.andThen_ok])
  go_ret
  exact⟨_,rfl,(Below.refl _ _).alloc (Nat.le_refl _) _⟩
theorem afz (a:Option Addr) (cap:Nat) (w:World):Calls Tryz.prog 56 #[.slice a 0 cap] w fun e w'=>∃q,e=.returned (.slice q 0 0)∧Below w.heap.size w w':=by
 go_enter Tryz.func56,Tryz.ntmps56
 cases a
 ·go_wp2_with (simp only[oK (Tryz.underlying50),Option.isNone_none,Result.andThen_ok])
  go_ret
  exact⟨_,rfl,Below.refl _ _⟩
 ·go_wp2_with (simp only[oK (Tryz.underlying50),Option.isNone_some,Result.andThen_ok])
  go_ret
  exact⟨_,rfl,(Below.refl _ _).alloc (Nat.le_refl _) _⟩
theorem akb (a:Option Addr) (cap:Nat) (w:World):Calls Tryz.prog 57 #[.slice a 0 cap] w fun e w'=>∃q,e=.returned (.slice q 0 0)∧Below w.heap.size w w':=by
 go_enter Tryz.func57,Tryz.ntmps57
 cases a
 ·go_wp2_with (simp only[oK (Tryz.underlying23),Option.isNone_none,Result.andThen_ok])
  go_ret
  exact⟨_,rfl,Below.refl _ _⟩
 ·go_wp2_with (simp only[oK (Tryz.underlying23),Option.isNone_some,Result.andThen_ok])
  go_ret
  exact⟨_,rfl,(Below.refl _ _).alloc (Nat.le_refl _) _⟩
theorem agt (a:Option Addr) (cap:Nat) (w:World):Calls Tryz.prog 59 #[.slice a 0 cap] w fun e w'=>∃q,e=.returned (.slice q 0 0)∧Below w.heap.size w w':=by
 go_enter Tryz.func59,Tryz.ntmps59
 cases a
 ·go_wp2_with (simp only[oK (Tryz.underlying152),Option.isNone_none,Result.andThen_ok])
  go_ret
  exact⟨_,rfl,Below.refl _ _⟩
 ·go_wp2_with (simp only[oK (Tryz.underlying152),Option.isNone_some,Result.andThen_ok])
  go_ret
  exact⟨_,rfl,(Below.refl _ _).alloc (Nat.le_refl _) _⟩
theorem aiV (a:Option Addr) (cap:Nat) (w:World):Calls Tryz.prog 42 #[.slice a 0 cap] w fun e w'=>∃q,e=.returned (.slice q 0 0)∧Below w.heap.size w w':=by
 go_enter Tryz.func42,Tryz.ntmps42
 cases a
 ·go_wp2_with (simp only[oK (Tryz.underlying81),Option.isNone_none,Result.andThen_ok])
  go_ret
  exact⟨_,rfl,Below.refl _ _⟩
 ·go_wp2_with (simp only[oK (Tryz.underlying81),Option.isNone_some,Result.andThen_ok])
  go_ret
  exact⟨_,rfl,(Below.refl _ _).alloc (Nat.le_refl _) _⟩
end
section
open Go.RowKit
theorem am7 {c:RC} {a b d:AV} {vs:Array Value} (h:aJ c [a,b,d] vs.toList):∃v u t,vs=#[v,u,t]∧ak c a v∧ak c b u∧ak c d t:=by
 simp only[aJ]at h
 obtain⟨v,vs',e,h1,u,vs2,e2,h2,t,vs3,e3,h3,e4⟩:=h
 refine⟨v,u,t,?_,h1,h2,h3⟩
 subst e4;subst e3;subst e2
 cases vs;simp at e;simp [e]
theorem afo:Sound Tryz.prog aG 94 HV:=by
 intro args σ r σ' h
 unfold HV A.bQ at h
 split at h
 ·simp only at h
  split at h
  ·rename_i x y
   split at h
   ·rename_i hb
    simp only[Option.some.injEq,Prod.mk.injEq]at h
    obtain⟨rfl,rfl⟩:=h
    refine nA.same Tryz.call94 fun c vs w hr=>?_
    obtain⟨v,u,rfl,h1,h2⟩:=Sw hr
    simp only[ak]at h1 h2
    subst h1 h2
    have hx:((x.toNat:Nat):Int)=x:=Int.toNat_of_nonneg hb.1
    have hy:((y.toNat:Nat):Int)=y:=Int.toNat_of_nonneg hb.2.2.1
    have:=Tryz.bits_Mul64 x.toNat y.toNat (by omega) (by omega) w
    rw[hx,hy]at this
    refine this.mono ?_
    rintro e w' ⟨rfl,rfl⟩
    exact⟨_,rfl,Below.refl _ _,fun c'=>by simp [ak,aJ]⟩
   ·cases h
  ·cases h
 ·cases h
theorem ahw (x y c:Nat) (hc:c≤1) (w:World):(callFunc 95 #[.int .u64 x,.int .u64 y,.int .u64 c]).run Tryz.prog w=
  .ok (.value (.tuple #[.int .u64 (((x+y+c) % 18446744073709551616:Nat):Int),.int .u64 (((x+y+c) / 18446744073709551616:Nat):Int)])) w:=by
 rw[run_callFunc_extern Tryz.func95 (by kernel_rfl) (by kernel_rfl) (by kernel_rfl) (e:=add64Entry) (by kernel_rfl),run_add64 x y c (by omega) (by omega) (by omega) (by omega)]
 simp only[Result.andThen]
 congr 5<;>omega
theorem afn:Sound Tryz.prog aG 95 FF:=by
 intro args σ r σ' h
 unfold FF A.ko at h
 split at h
 ·simp only at h
  split at h
  ·rename_i x y d
   split at h
   ·rename_i hb
    simp only[Option.some.injEq,Prod.mk.injEq]at h
    obtain⟨rfl,rfl⟩:=h
    refine .inr fun z vs e1 e2 hh ha=>?_
    obtain⟨v,u,t,rfl,h1,h2,h3⟩:=am7 ha
    simp only[ak]at h1 h2 h3
    subst h1 h2 h3
    have hx:((x.toNat:Nat):Int)=x:=Int.toNat_of_nonneg hb.1
    have hy:((y.toNat:Nat):Int)=y:=Int.toNat_of_nonneg hb.2.2.1
    have hd:((d.toNat:Nat):Int)=d:=Int.toNat_of_nonneg hb.2.2.2.2.1
    have:=ahw x.toNat y.toNat d.toNat (by omega) z.w
    rw[hx,hy,hd]at this
    exact⟨_,z.w,z.E,this,⟨rfl,rfl,rfl,Nat.le_refl _,fun _ _ _=>rfl,fun i p hp=>.inr ⟨p,hp,rfl⟩,fun i p hp=>⟨p,hp,.inl rfl⟩,e2,fun p hp=>hh.lt hp⟩,hh,by simp [ak,aJ]⟩
   ·cases h
  ·cases h
 ·cases h
end
section
theorem bq (s t:ByteArray):(s==t)=decide (s=t):=by
 obtain⟨a⟩:=s
 obtain⟨b⟩:=t
 show(a==b)=_
 rw[Bool.eq_iff_iff]
 simp
section
variable {α β : Type}
theorem cT (t e:Option α):A.cond (.bool true) t e=t:=rfl
theorem cF (t e:Option α):A.cond (.bool false) t e=e:=rfl
theorem gTT (e d:Option α):A.guard (.bool true) true e d=e:=rfl
theorem gTF (e d:Option α):A.guard (.bool true) false e d=d:=rfl
theorem gFT (e d:Option α):A.guard (.bool false) true e d=d:=rfl
theorem gFF (e d:Option α):A.guard (.bool false) false e d=e:=rfl
theorem pT (x y:AV):A.pick (.bool true) x y=some x:=rfl
theorem pF (x y:AV):A.pick (.bool false) x y=some y:=rfl
theorem Bv {p:Prop} [Decidable p] {w:Bool} {e d:Option α} {f:α→Option β}:(A.guard (.bool (decide p)) w e d).bind f=if p then(A.guard (.bool true) w e d).bind f else(A.guard (.bool false) w e d).bind f:=by by_cases h:p<;>simp [h]
theorem Bu {b w:Bool} {e d:Option α} {f:α→Option β}:(A.guard (.bool b) w e d).bind f=match b with|true=>(A.guard (.bool true) w e d).bind f|false=>(A.guard (.bool false) w e d).bind f:=by cases b<;>rfl
theorem Bq {p:Prop} [Decidable p] {t e:Option α}:A.cond (.bool (decide p)) t e=if p then t else e:=by by_cases h:p<;>simp [h,A.cond]
theorem AY {p:Prop} [Decidable p] {t e:Option α}:A.cond (.bool (!decide p)) t e=if p then e else t:=by by_cases h:p<;>simp [h,A.cond]
theorem Bp {b:Bool} {t e:Option α}:A.cond (.bool (!b)) t e=match b with|true=>e|false=>t:=by cases b<;>rfl
theorem Bo {b:Bool} {t e:Option α}:A.cond (.bool b) t e=match b with|true=>t|false=>e:=by cases b<;>rfl
theorem gN (w:Bool) (e d:Option α):A.guard (.aF []) w e d=d:=rfl
theorem xN (a b:AX):(a==b)=decide (a=b):=by rw[Bool.eq_iff_iff];simp
end
section
variable (k : IntKind) (a b : Int) (p q : Prop) [Decidable p] [Decidable q] (s t : ByteArray) (x y : AV) (σ : Heap) (cs : List AV)
theorem kU:A.add (.int .i64 a) (.int .i64 b)=some (.int .i64 (IntKind.i64.wrap (a+b))):=rfl
theorem oZ:A.sub (.int .i64 a) (.int .i64 b)=some (.int .i64 (IntKind.i64.wrap (a-b))):=rfl
theorem xh:A.mul (.int .i64 a) (.int .i64 b)=some (.int .i64 (IntKind.i64.wrap (a*b))):=rfl
theorem abu (h:b≠0):A.quo (.int .i64 a) (.int .i64 b)=some (.int .i64 (IntKind.i64.wrap (a.tdiv b))):=by simp [A.quo,h]
theorem anh (h:b≠0):A.rem (.int .i64 a) (.int .i64 b)=some (.int .i64 (a.tmod b)):=by simp [A.rem,h]
theorem kV:A.lss (.int .i64 a) (.int .i64 b)=some (.bool (decide (a<b))):=rfl
theorem NC:A.leq (.int .i64 a) (.int .i64 b)=some (.bool (decide (a≤b))):=rfl
theorem DT:A.gtr (.int .i64 a) (.int .i64 b)=some (.bool (decide (b<a))):=rfl
theorem su:A.geq (.int .i64 a) (.int .i64 b)=some (.bool (decide (b≤a))):=rfl
theorem aa2:A.lss (.int .u8 a) (.int .u8 b)=some (.bool (decide (a<b))):=rfl
theorem aa1:A.leq (.int .u8 a) (.int .u8 b)=some (.bool (decide (a≤b))):=rfl
theorem aaZ:A.gtr (.int .u8 a) (.int .u8 b)=some (.bool (decide (b<a))):=rfl
theorem aaY:A.geq (.int .u8 a) (.int .u8 b)=some (.bool (decide (b≤a))):=rfl
theorem gR:A.eql .i (.int k a) (.int k b)=some (.bool (decide (a=b))):=by
 simp only[A.eql,A.eB,A.nF,if_true,Option.map_some];congr 2
theorem fI:A.neq .i (.int k a) (.int k b)=some (.bool (decide (¬a=b))):=by
 simp only[A.neq,A.eB,A.nF,if_true,Option.map_some]
 congr 2
 rw[Bool.eq_iff_iff];simp
theorem SH:A.eql .z (.str s) (.str t)=some (.bool (decide (s=t))):=by
 simp only[A.eql,A.eB,A.qu,Option.map_some,bq]
theorem SJ:A.neq .z (.str s) (.str t)=some (.bool (decide (¬s=t))):=by
 simp only[A.neq,A.eB,A.qu,Option.map_some,bq];simp
theorem abt (b:Bool):A.not (.bool b)=some (.bool (!b)):=rfl
theorem aa3:A.not (.bool (decide p))=some (.bool (decide (¬p))):=by simp [A.not]
theorem aLb:A.lb (.lbx cs)=some cs:=rfl
theorem aaU (l:List AV):A.ext 0 (.aF (x::l))=some x:=rfl
theorem aaV (x0 x:AV) (l:List AV):A.ext 1 (.aF (x0::x::l))=some x:=rfl
theorem aaW (x0 x1 x:AV) (l:List AV):A.ext 2 (.aF (x0::x1::x::l))=some x:=rfl
theorem aaX (x0 x1 x2 x:AV) (l:List AV):A.ext 3 (.aF (x0::x1::x2::x::l))=some x:=rfl
theorem aDe:A.deref (.rp cs) σ=some cs:=rfl
theorem aFa (o:Nat):A.aA o (.rp cs)=some (.rp (cs.drop o)):=rfl
theorem aa0:A.CQ (.str s)=some (.int .i64 s.size):=rfl
theorem aCI (n:Int):A.cell (.int k n)=some (.int k n):=rfl
theorem aCB (b:Bool):A.cell (.bool b)=some (.bool b):=rfl
theorem aCS:A.cell (.str s)=some (.str s):=rfl
theorem abr (sz:Nat) (es:List (List AV)):A.cell (.sl sz es)=some (.sl sz es):=rfl
theorem UM (o k:Nat):A.aj o (cs.drop k)=A.aj (k+o) cs:=by simp [A.aj,List.getElem?_drop]
end
theorem gd0 (a d:AV) (l:List AV):(a::l).getD 0 d=a:=rfl
theorem gd1 (a b d:AV) (l:List AV):(b::a::l).getD 1 d=a:=rfl
theorem gd2 (a b c d:AV) (l:List AV):(b::c::a::l).getD 2 d=a:=rfl
theorem gd3 (a b c e d:AV) (l:List AV):(b::c::e::a::l).getD 3 d=a:=rfl
theorem gd4 (a b c e f d:AV) (l:List AV):(b::c::e::f::a::l).getD 4 d=a:=rfl
theorem gd5 (a b c e f g d:AV) (l:List AV):(b::c::e::f::g::a::l).getD 5 d=a:=rfl
theorem gd6 (a b c e f g h d:AV) (l:List AV):(b::c::e::f::g::h::a::l).getD 6 d=a:=rfl
theorem gd7 (a b c e f g h i d:AV) (l:List AV):(b::c::e::f::g::h::i::a::l).getD 7 d=a:=rfl
theorem gd8 (a b c e f g h i j d:AV) (l:List AV):(b::c::e::f::g::h::i::j::a::l).getD 8 d=a:=rfl
theorem wrap64 {n:Int} (h:aM n):IntKind.i64.wrap n=n:=IntWalk.i64_in n h
theorem wrap_eq {ro:Bool} {eS:List Sh} {fH:Sh} {r:List AV→Heap→Option (AV×Heap)} {args:List AV} {σ σ':Heap} {v v':AV} (h:args.any A.own=false) (e:r (A.bT eS args) σ=some (v,σ')) (hv:A.nn fH v=v'):A.wrap ro eS fH r args σ=some (v',σ'):=by
 unfold A.wrap
 rw[h,Bool.and_false,cond_false,e]
 simp [hv]
theorem Qg {v:AV} (n:Nat) (h:A.uo v=true):A.fresh v=true∧A.shift n v=v:=by
 cases v<;>first|exact⟨h,rfl⟩|cases h
theorem Xg {v:AV} (n:Nat) (h:A.Eh v=true):A.Ap v=true∧A.zf n v=v:=by
 have key:(∀vs,v≠.aF vs)→A.Ap v=true∧A.zf n v=v:=by
  intro k
  have:=Qg (v:=v) n
  cases v<;>first|exact absurd rfl (k _)|exact this h
 by_cases ht:∃vs,v=.aF vs
 ·obtain⟨vs,rfl⟩:=ht
  simp only[A.Eh,List.all_eq_true]at h
  refine⟨by simp only[A.Ap,List.all_eq_true];exact fun x hx=>(Qg n (h x hx)).1,?_⟩
  simp only[A.zf]
  congr 1
  calc vs.map (A.shift n)=vs.map id:=List.map_congr_left fun x hx=>(Qg n (h x hx)).2
   _=vs:=List.map_id vs
 ·exact key fun vs e=>ht ⟨vs,e⟩
theorem Zf {eS:List Sh} {fH:Sh} {r:List AV→Heap→Option (AV×Heap)} {args args':List AV} {σ:Heap} {v:AV} (h:args.any A.own=true) (hz:A.eG σ 0 8 args=some args') (ho:args'.any A.own=false) (e:A.wrap true eS fH r args' []=some (v,[])) (hs:A.Eh v=true):A.wrap true eS fH r args σ=some (v,σ):=by
 unfold A.wrap at e ⊢
 rw[ho,Bool.and_false,cond_false]at e
 obtain⟨⟨q1,q2⟩,e1,e2⟩:=Option.map_eq_some_iff.1 e
 simp only[Prod.mk.injEq]at e2
 obtain⟨rfl,rfl⟩:=e2
 rw[h,Bool.and_self,cond_true,hz]
 simp [e1,(Xg σ.length hs).1,(Xg σ.length hs).2]
theorem br (σ:Heap) (r:AV):A.fin σ r σ=some (r,σ):=by simp [A.fin]
theorem XG (σ:Heap) (n d:Nat) {a:AV} (h:A.vL a=true):A.bw σ n d a=some a:=by
 cases a<;>simp only[A.vL]at h<;>first|(cases h;done)|skip
 case sl sz es=>cases es with
  |nil=>cases d<;>simp [A.bw,A.jm]
  |cons _ _=>simp at h
 all_goals cases d<;>simp [A.bw]
theorem WN (σ:Heap) (n d:Nat):∀{l:List AV},l.all A.vL=true→A.eG σ n d l=some l
 |[],_=>by simp [A.eG]
 |a::l,h=>by
  simp only[List.all_cons,Bool.and_eq_true]at h
  simp [A.eG,XG σ n d h.1,WN σ n d h.2]
theorem XH (σ:Heap) (n d:Nat) {a:AV} (h:A.uo a=true):A.bw σ n d a=some a:=by
 unfold A.uo at h
 split at h
 ·cases d<;>simp [A.bw,WN σ n _ h]
 ·exact XG σ n d h
theorem WO (σ:Heap) (n d:Nat):∀{l:List AV},l.all A.uo=true→A.eG σ n d l=some l
 |[],_=>by simp [A.eG]
 |a::l,h=>by
  simp only[List.all_cons,Bool.and_eq_true]at h
  simp [A.eG,XH σ n d h.1,WO σ n d h.2]
theorem ai8 (σ:Heap) (n d:Nat) {a:AV} (h:A.Eh a=true):A.bw σ n d a=some a:=by
 unfold A.Eh at h
 split at h
 ·cases d<;>simp [A.bw,WO σ n _ h]
 ·exact XH σ n d h
theorem Mr (σ bs:Heap) {r:AV} (h:A.Eh r=true):A.fin σ r (σ++bs)=some (r,σ):=by
 unfold A.fin
 split
 ·rfl
 ·rw[if_pos (by simp),ai8 _ _ _ h];rfl
theorem Ry (σ bs:Heap) (k:IntKind) (n:Int):A.fin σ (.int k n) (σ++bs)=some (.int k n,σ):=Mr σ bs rfl
theorem Yx (σ bs:Heap) (b:Bool):A.fin σ (.bool b) (σ++bs)=some (.bool b,σ):=Mr σ bs rfl
theorem Zt (σ bs:Heap) (s:ByteArray):A.fin σ (.str s) (σ++bs)=some (.str s,σ):=Mr σ bs rfl
theorem Yy (σ bs:Heap):A.fin σ (.aF []) (σ++bs)=some (.aF [],σ):=Mr σ bs rfl
theorem N4 (σ bs:Heap) (j:Nat):(σ++bs)[σ.length+j]? =bs[j]? :=by rw[List.getElem?_append_right (by omega)];congr 1;omega
theorem GH (σ bs:Heap):(σ++bs)[σ.length]? =bs[0]? :=by rw[List.getElem?_append_right (Nat.le_refl _),Nat.sub_self]
theorem uC (σ bs:Heap) (j:Nat) (b:aK):(σ++bs).set (σ.length+j) b=σ++bs.set j b:=by rw[List.set_append_right _ _ (by omega)];congr 2;omega
theorem Sq (σ bs:Heap) (b:aK):(σ++bs).set σ.length b=σ++bs.set 0 b:=by rw[List.set_append_right _ _ (Nat.le_refl _),Nat.sub_self]
section
variable {α : Type} (sz : Nat) (c : α → List AV) (l : List α)
theorem gf:A.bK (sl sz c l)=some (.int .i64 l.length):=by simp [sl,A.bK]
theorem jZ {k:Nat} {x:α} (h:l[k]? =some x):A.aW sz (sl sz c l) (.int .i64 (k:Int))=some (.rp (c x)):=by
 have hk:k<l.length:=(List.getElem?_eq_some_iff.1 h).1
 have hx:l[k]=x:=(List.getElem?_eq_some_iff.1 h).2
 simp [A.aW,sl,A.idx,hk,hx]
theorem ahX {i:Int} {x:α} (h0:0≤i) (h:l[i.toNat]? =some x):A.aW sz (sl sz c l) (.int .i64 i)=some (.rp (c x)):=by
 have:=jZ sz c l h
 rwa[Int.toNat_of_nonneg h0]at this
end
inductive Rd (S R : Type) where
 |go (s:S)
 |out (r:R)
def Rd.el {S R γ:Type} (x:Rd S R) (f:S→γ) (g:R→γ):γ:=match x with|.go s=>f s|.out r=>g r
theorem Cp {S R γ:Type} (s:S) (f:S→γ) (g:R→γ):(Rd.go s:Rd S R).el f g=f s:=rfl
theorem Cd {S R γ:Type} (r:R) (f:S→γ) (g:R→γ):(Rd.out r:Rd S R).el f g=g r:=rfl
theorem Gl {S R γ:Type} {p:Prop} [Decidable p] (x y:Rd S R) (f:S→γ) (g:R→γ):(if p then x else y).el f g=if p then x.el f g else y.el f g:=by split<;>rfl
def kH {α S R:Type} (body:List α→α→S→Rd S R):List α→List α→S→Rd S R
 |_,[],s=>.go s
 |pre,x::l,s=>match body pre x s with|.go s'=>kH body (pre++[x]) l s'|.out r=>.out r
theorem ah0 {f:List AV→Heap→Option (AX×List AV×Heap)} {v:List AV} {σ:Heap}:∀{n m:Nat} {r r':AX×List AV×Heap},A.iter f n v σ=some r→A.iter f m v σ=some r'→r=r':=by
 intro n
 induction n generalizing v σ with
 |zero=>intro m r r' h;cases h
 |succ n ih=>
  intro m r r' h1 h2
  cases m with
  |zero=>cases h2
  |succ m=>
   simp only[A.iter]at h1 h2
   cases hf:f v σ with
   |none=>rw[hf]at h1;cases h1
   |some q=>
    rw[hf]at h1 h2
    simp only[Option.bind_some]at h1 h2
    obtain⟨e,v',σ'⟩:=q
    cases e with
    |normal=>exact ih h1 h2
    |exit i=>simp only at h1 h2;rw[h1]at h2;injection h2
    |ret=>simp only at h1 h2;rw[h1]at h2;injection h2
theorem Dm {f:List AV→Heap→Option (AX×List AV×Heap)} {v:List AV} {σ:Heap} {n:Nat} {r:AX×List AV×Heap} (h:A.iter f n v σ=some r):A.loop f v σ=some r:=by
 have hex:∃n r,A.iter f n v σ=some r:=⟨n,r,h⟩
 unfold A.loop
 rw[dif_pos hex]
 exact congrArg some (ah0 (Classical.choose_spec (Classical.choose_spec hex)) h)
theorem Dv {f:List AV→Heap→Option (AX×List AV×Heap)} {v v':List AV} {σ σ':Heap} {r:AX×List AV×Heap} (h:f v σ=some (.normal,v',σ')) (k:∃n,A.iter f n v' σ'=some r):∃n,A.iter f n v σ=some r:=by
 obtain⟨n,k⟩:=k
 exact⟨n+1,by simp [A.iter,h,k]⟩
theorem vu {f:List AV→Heap→Option (AX×List AV×Heap)} {v:List AV} {σ:Heap} {r:AX×List AV×Heap} (h:f v σ=some r) (hr:r.1≠.normal):∃n,A.iter f n v σ=some r:=by
 obtain⟨e,v',σ'⟩:=r
 refine⟨1,?_⟩
 cases e<;>first|(simp [A.iter,h];done)|exact absurd rfl hr
theorem oI {α S R γ:Type} {f:List AV→Heap→Option (AX×List AV×Heap)} (l:List α) (body:List α→α→S→Rd S R) (st:List α→S→List AV) (hp:List α→S→Heap)
  (fin:S→AX×List AV×Heap) (out:List α→S→R→AX×List AV×Heap) (P:List α→S→Prop) (s0:S) {k:AX×List AV×Heap→Option γ} (K1:S→Option γ) (K2:R→Option γ)
  (hstep:∀pre x rest s,l=pre++x::rest→P pre s→f (st pre s) (hp pre s)=some ((body pre x s).el (fun s'=>(.normal,st (pre++[x]) s',hp (pre++[x]) s')) (fun r=>out pre s r)))
  (hend:∀s,P l s→f (st l s) (hp l s)=some (fin s)) (h0:P [] s0)
  (hP:∀pre x rest s s',l=pre++x::rest→P pre s→body pre x s=.go s'→P (pre++[x]) s')
  (hk1:∀s,P l s→k (fin s)=K1 s) (hk2:∀pre x rest s r,l=pre++x::rest→P pre s→body pre x s=.out r→k (out pre s r)=K2 r)
  (A6:∀s,(fin s).1≠.normal:=by intros;simp) (hout:∀pre s r,(out pre s r).1≠.normal:=by intros;simp) {v:List AV} {σ:Heap} (hv:v=st [] s0:=by rfl) (fU:σ=hp [] s0:=by rfl):
  (A.loop f v σ).bind k=(kH body [] l s0).el K1 K2:=by
 have key:∀(rest pre:List α) (s:S),l=pre++rest→P pre s→∃q,(∃n,A.iter f n (st pre s) (hp pre s)=some q)∧k q=(kH body pre rest s).el K1 K2:=by
  intro rest
  induction rest with
  |nil=>
   intro pre s hl hp'
   rw[List.append_nil]at hl
   subst hl
   exact⟨fin s,vu (hend s hp') (A6 s),by rw[kH,Cp,hk1 s hp']⟩
  |cons x rest ih=>
   intro pre s hl hp'
   have h:=hstep pre x rest s hl hp'
   rw[kH]
   cases hb:body pre x s with
   |go s'=>
    rw[hb]at h
    obtain⟨q,h1,h2⟩:=ih (pre++[x]) s' (by simpa using hl) (hP pre x rest s s' hl hp' hb)
    exact⟨q,Dv h h1,h2⟩
   |out r=>
    rw[hb]at h
    exact⟨out pre s r,vu h (hout pre s r),by rw[Cd,hk2 pre x rest s r hl hp' hb]⟩
 obtain⟨q,⟨n,h1⟩,h2⟩:=key l [] s0 rfl h0
 rw[hv,fU,Dm h1,Option.bind_some,h2]
theorem LW {α:Type} {body:List α→α→Unit→Rd Unit Int} {uR:List α→List α→Int} (h0:∀pre,uR pre []=0) (h:∀pre x rest,uR pre (x::rest)=(body pre x ()).el (fun _=>uR (pre++[x]) rest) (fun r=>r)) {γ:Type} (K:Int→γ):
  ∀(l pre:List α),(kH body pre l ()).el (fun _=>K 0) K=K (uR pre l)
 |[],pre=>by rw[kH,h0];rfl
 |x::l,pre=>by
  rw[kH,h]
  cases body pre x ()with
  |go s=>exact LW h0 h K l (pre++[x])
  |out r=>rfl
theorem oL {α:Type} {l pre rest:List α} {x:α} (h:l=pre++x::rest):l[pre.length]? =some x:=by rw[h];simp
theorem qO {α:Type} {l pre rest:List α} {x:α} (h:l=pre++x::rest):pre.length<l.length:=by rw[h];simp
theorem YV {α:Type} {l pre rest:List α} {x:α} (h:l=pre++x::rest) (h0:0<pre.length):∃y,pre.getLast? =some y∧l[pre.length-1]? =some y:=by
 cases hp:pre.getLast? with
 |none=>rw[List.getLast?_eq_none_iff]at hp;subst hp;simp at h0
 |some y=>
  refine⟨y,rfl,?_⟩
  rw[h,List.getElem?_append_left (by omega),←hp,List.getLast?_eq_getElem?]
theorem Ye {γ:Type} {p:UInt8→Bool} {f:List AV→Heap→Option (AX×List AV×Heap)} (s:ByteArray) {σ:Heap} {k:AX×List AV×Heap→Option γ} (K2:Option γ)
  (hstep:∀(i:Nat) (c:UInt8),i<s.size→A.tH (.str s) (.int .i64 (i:Int))=some (.int .u8 c.toNat)→f [.bool false,.int .i64 (i:Int)] σ=if p c=true then some (.normal,[.bool false,.int .i64 ((i:Int)+1)],σ)else some (.ret,[.bool false,.int .i64 (i:Int)],σ))
  (hend:f [.bool false,.int .i64 (s.size:Int)] σ=some (.exit 0,[.bool false,.int .i64 (s.size:Int)],σ)) (hk2:∀i:Int,k (.ret,[.bool false,.int .i64 i],σ)=K2):
  (A.loop f [.bool false,.int .i64 0] σ).bind k=if s.data.toList.all p=true then k (.exit 0,[.bool false,.int .i64 (s.size:Int)],σ)else K2:=by
 have hsz:s.data.toList.length=s.size:=rfl
 refine(oI (S:=Unit) (R:=Unit) s.data.toList (fun _ c _=>if p c=true then .go ()else .out ()) (fun pre _=>[.bool false,.int .i64 (pre.length:Int)]) (fun _ _=>σ) (fun _=>(.exit 0,[.bool false,.int .i64 (s.size:Int)],σ)) (fun pre _ _=>(.ret,[.bool false,.int .i64 (pre.length:Int)],σ)) (fun _ _=>True) ()
  (fun _=>k (.exit 0,[.bool false,.int .i64 (s.size:Int)],σ)) (fun _=>K2) ?_ ?_ trivial (fun _ _ _ _ _ _ _ _=>trivial) (fun _ _=>rfl) (fun _ _ _ _ _ _ _ _=>hk2 _)).trans ?_
 ·intro pre c rest u hl _
  have hlt:=qO hl
  have hc:=oL hl
  rw[hsz]at hlt
  have hsi:A.tH (.str s) (.int .i64 (pre.length:Int))=some (.int .u8 c.toNat):=by
   have h2:s[pre.length]=c:=(List.getElem?_eq_some_iff.1 hc).2
   simp [A.tH,A.idx,hlt,h2]
  rw[hstep pre.length c hlt hsi]
  cases p c<;>simp [Rd.el]
 ·intro u _;rw[hsz];exact hend
 ·have key:∀(l pre:List UInt8),(kH (fun(_:List UInt8) c (_:Unit)=>if p c=true then(Rd.go ():Rd Unit Unit)else .out ()) pre l ()).el (fun _=>k (.exit 0,[.bool false,.int .i64 (s.size:Int)],σ)) (fun _=>K2)=if l.all p=true then k (.exit 0,[.bool false,.int .i64 (s.size:Int)],σ)else K2:=by
   intro l
   induction l with
   |nil=>intro pre;simp [kH,Rd.el]
   |cons c l ih=>
    intro pre
    rw[kH]
    cases hc:p c
    ·simp [hc,Rd.el]
    ·simp only[if_true]
     rw[ih]
     simp [hc]
  exact key s.data.toList []
section
variable {α : Type} (g : α → ByteArray) (gi : α → Int) (v : α → AV)
theorem aai (k:ByteArray):∀(l:List α),A.find .z (.str k) (l.map fun x=>(AV.str (g x),v x))=some ((l.find? fun x=>decide (k=g x)).map v)
 |[]=>rfl
 |x::l=>by
  simp only[List.map_cons,A.find,A.eB,A.qu,Option.bind_some,List.find?]
  by_cases h:k=g x
  ·rw[bq];simp [h]
  ·rw[bq];simp [h,aai k l]
theorem aah (kk:IntKind) (k:Int):∀(l:List α),A.find .i (.int kk k) (l.map fun x=>(AV.int kk (gi x),v x))=some ((l.find? fun x=>decide (k=gi x)).map v)
 |[]=>rfl
 |x::l=>by
  simp only[List.map_cons,A.find,A.eB,A.nF,if_true,Option.bind_some,List.find?]
  by_cases h:k=gi x
  ·have:(k==gi x)=true:=by simpa using h
   simp [this,h]
  ·have:(k==gi x)=false:=by simpa using h
   simp [this,h,aah kk k l]
theorem SB {k:ByteArray} {w:AV}:∀{l:List α},(∀x∈l,g x≠k)→A.upd .z (.str k) w (l.map fun x=>(AV.str (g x),v x))=some ((l.map fun x=>(AV.str (g x),v x))++[(.str k,w)])
 |[],_=>rfl
 |x::l,h=>by
  have h1:(k==g x)=false:=by rw[bq];exact decide_eq_false fun e:k=g x=>h x (by simp) e.symm
  simp only[List.map_cons,A.upd,A.eB,A.qu,Option.bind_some,h1,cond_false]
  rw[SB (fun y hy=>h y (by simp [hy]))]
  rfl
theorem Sz {kk:IntKind} {k:Int} {w:AV}:∀{l:List α},(∀x∈l,gi x≠k)→A.upd .i (.int kk k) w (l.map fun x=>(AV.int kk (gi x),v x))=some ((l.map fun x=>(AV.int kk (gi x),v x))++[(.int kk k,w)])
 |[],_=>rfl
 |x::l,h=>by
  have h1:(k==gi x)=false:=by simpa using fun e:k=gi x=>h x (by simp) e.symm
  simp only[List.map_cons,A.upd,A.eB,A.nF,if_true,Option.bind_some,h1,cond_false]
  rw[Sz (fun y hy=>h y (by simp [hy]))]
  rfl
end
theorem B7 (e:A.EK) {k z:AV} {σ:Heap} {id:Nat} {es:List (AV×AV)} (hk:A.jB e k=true) (h:σ[id]? =some (.map es)):A.look e (.om id) k z σ=(A.find e k es).map fun r=>r.getD z:=by
 simp [A.look,hk,A.entries,h]
theorem Ai (e:A.EK) {k w:AV} {σ:Heap} {id:Nat} {es:List (AV×AV)} (hk:A.jB e k=true) (h:σ[id]? =some (.map es)):A.eA e (.om id) k w σ=(A.upd e k w es).map fun es=>σ.set id (.map es):=by
 simp [A.eA,hk,h]
theorem YI {α:Type} (l:List α) (x:α):(((l++[x]).length:Nat):Int)=(l.length:Int)+1:=by simp
theorem LN {α:Type} (sz:Nat) (c:α→List AV) (l:List α) {k:Nat} {x:α} (h0:0<k) (h:l[k-1]? =some x):A.aW sz (sl sz c l) (.int .i64 ((k:Int) -1))=some (.rp (c x)):=by
 have:=jZ sz c l h
 rwa[show((k-1:Nat):Int)=(k:Int) -1 by omega]at this
def mC {α:Type} (g:α→ByteArray) (l:List α):List (AV×AV):=l.map fun x=>(AV.str (g x),AV.bool true)
def rq {α:Type} (g:α→Int) (l:List α):List (AV×AV):=l.map fun x=>(AV.int .i64 (g x),AV.bool true)
theorem Q7 {α:Type} (p:α→Bool):∀(l:List α),((l.find? p).map fun _=>AV.bool true).getD aI=AV.bool (l.any p)
 |[]=>rfl
 |x::l=>by
  simp only[List.find?,List.any_cons]
  cases h:p x
  ·simpa using Q7 p l
  ·rfl
theorem X2 {α:Type} (g:α→ByteArray) (k:ByteArray) (l:List α):(A.find .z (.str k) (mC g l)).map (fun r=>r.getD (.bool false))=some (.bool (iI k (l.map g))):=by
 unfold mC
 rw[aai g (fun _=>AV.bool true) k l,Option.map_some,Q7]
 refine congrArg some (congrArg AV.bool ?_)
 rw[Bool.eq_iff_iff,F7]
 simp only[List.any_eq_true,decide_eq_true_eq,List.mem_map]
 exact⟨fun⟨x,h,e⟩=>⟨x,h,e.symm⟩,fun⟨x,h,e⟩=>⟨x,h,e.symm⟩⟩
theorem XY {α:Type} (g:α→Int) (k:Int) (l:List α):(A.find .i (.int .i64 k) (rq g l)).map (fun r=>r.getD (.bool false))=some (.bool (iI k (l.map g))):=by
 unfold rq
 rw[aah g (fun _=>AV.bool true) .i64 k l,Option.map_some,Q7]
 refine congrArg some (congrArg AV.bool ?_)
 rw[Bool.eq_iff_iff,F7]
 simp only[List.any_eq_true,decide_eq_true_eq,List.mem_map]
 exact⟨fun⟨x,h,e⟩=>⟨x,h,e.symm⟩,fun⟨x,h,e⟩=>⟨x,h,e.symm⟩⟩
section
variable {α : Type} (g : α → ByteArray) (gi : α → Int) (l : List α) (k : ByteArray) (n : Int) (σ bs : Heap) (b0 : aK)
theorem Xj:A.look .z (.om σ.length) (.str k) (.bool false) (σ++aK.map (mC g l)::bs)=some (.bool (iI k (l.map g))):=by
 rw[B7 .z rfl (by rw[GH];rfl),X2]
theorem Xh:A.look .i (.om σ.length) (.int .i64 n) (.bool false) (σ++aK.map (rq gi l)::bs)=some (.bool (iI n (l.map gi))):=by
 rw[B7 .i rfl (by rw[GH];rfl),XY]
theorem Xk:A.look .z (.om (σ.length+1)) (.str k) (.bool false) (σ++b0::aK.map (mC g l)::bs)=some (.bool (iI k (l.map g))):=by
 rw[B7 .z rfl (by rw[N4];rfl),X2]
theorem Xi:A.look .i (.om (σ.length+1)) (.int .i64 n) (.bool false) (σ++b0::aK.map (rq gi l)::bs)=some (.bool (iI n (l.map gi))):=by
 rw[B7 .i rfl (by rw[N4];rfl),XY]
theorem X4 (h:iI k (l.map g)=false):A.eA .z (.om σ.length) (.str k) (.bool true) (σ++aK.map (mC g l)::bs)=some (σ++aK.map (mC g l++[(.str k,.bool true)])::bs):=by
 rw[Ai .z rfl (by rw[GH];rfl),mC,SB g _ (fun x hx e=>FP.1 h (by rw[←e];exact List.mem_map_of_mem hx)),Option.map_some,Sq];rfl
theorem X0 (h:iI n (l.map gi)=false):A.eA .i (.om σ.length) (.int .i64 n) (.bool true) (σ++aK.map (rq gi l)::bs)=some (σ++aK.map (rq gi l++[(.int .i64 n,.bool true)])::bs):=by
 rw[Ai .i rfl (by rw[GH];rfl),rq,Sz gi _ (fun x hx e=>FP.1 h (by rw[←e];exact List.mem_map_of_mem hx)),Option.map_some,Sq];rfl
theorem X5 (h:iI k (l.map g)=false):A.eA .z (.om (σ.length+1)) (.str k) (.bool true) (σ++b0::aK.map (mC g l)::bs)=some (σ++b0::aK.map (mC g l++[(.str k,.bool true)])::bs):=by
 rw[Ai .z rfl (by rw[N4];rfl),mC,SB g _ (fun x hx e=>FP.1 h (by rw[←e];exact List.mem_map_of_mem hx)),Option.map_some,uC];rfl
theorem X1 (h:iI n (l.map gi)=false):A.eA .i (.om (σ.length+1)) (.int .i64 n) (.bool true) (σ++b0::aK.map (rq gi l)::bs)=some (σ++b0::aK.map (rq gi l++[(.int .i64 n,.bool true)])::bs):=by
 rw[Ai .i rfl (by rw[N4];rfl),rq,Sz gi _ (fun x hx e=>FP.1 h (by rw[←e];exact List.mem_map_of_mem hx)),Option.map_some,uC];rfl
end
theorem X3 {α:Type} (g:α→ByteArray) (l:List α) (x:α):mC g (l++[x])=mC g l++[(.str (g x),.bool true)]:=by simp [mC]
theorem Qv (σ:Heap) (v:AV):A.quiet (some (v,σ)) σ=some v:=by simp [A.quiet]
def Fz (a:AV):Prop:=∀σ n d,A.bw σ n d a=some a
def jt (l:List AV):Prop:=∀σ n d,A.eG σ n d l=some l
theorem dM (k:IntKind) (n:Int):Fz (.int k n):=fun _ _ d=>by cases d<;>simp [A.bw]
theorem B5 (b:Bool):Fz (.bool b):=fun _ _ d=>by cases d<;>simp [A.bw]
theorem y9 (s:ByteArray):Fz (.str s):=fun _ _ d=>by cases d<;>simp [A.bw]
theorem vE {l:List AV} (h:jt l):Fz (.agg l):=fun σ n d=>by cases d<;>simp [A.bw,h σ n]
theorem pN:jt []:=fun _ _ _=>by simp [A.eG]
theorem bV {a:AV} {l:List AV} (h:Fz a) (k:jt l):jt (a::l):=fun σ n d=>by simp [A.eG,h σ n d,k σ n d]
theorem pW {α:Type} {sz:Nat} {c:α→List AV} (h:∀x,jt (c x)) (l:List α):Fz (sl sz c l):=by
 intro σ n d
 have:A.jm σ n d (l.map c)=some (l.map c):=by
  induction l with
  |nil=>simp [A.jm]
  |cons x l ih=>simp [A.jm,h x σ n d,ih]
 cases d<;>simp [sl,A.bw,this]
theorem S8 {α:Type} {c:α→List AV} (h:∀x,jt (c x)) (l:List α) (σ:Heap) (n d:Nat):A.jm σ n d (l.map c)=some (l.map c):=by
 induction l with
 |nil=>simp [A.jm]
 |cons x l ih=>simp [A.jm,h x σ n d,ih]
def vR {α:Type} (id sz:Nat) (l:List α):AV:=if l=[]then .aq else .os id l.length sz 0 l.length
def sB {α:Type} (sz:Nat) (c:α→List AV) (l:List α):Heap:=if l=[]then[]else[.arr l.length sz (l.map c)]
theorem ajp {α:Type} (sz:Nat) (c:α→List AV):sB sz c []=[]:=rfl
theorem agK {α:Type} {sz most:Nat} (c:α→List AV) (l:List α) (x:α) (σ:Heap) (h:l.length+1≤most):A.append sz most (vR σ.length sz l) (.sl sz [c x]) (σ++sB sz c l)=some (vR σ.length sz (l++[x]),σ++sB sz c (l++[x])):=by
 unfold vR sB
 cases l with
 |nil=>
  have h1:1≤most:=by simpa using h
  simp [A.append,A.ud,A.elems,h1]
 |cons y l=>
  have h1:l.length+1+1≤most:=by simpa using h
  simp [A.append,A.ud,A.elems,h1,GH,Sq,Nat.add_assoc,List.take_of_length_le]
theorem akV {α:Type} {sz:Nat} {c:α→List AV} (hc:∀x,jt (c x)) (l:List α) (σ:Heap) (d:Nat):A.bw (σ++sB sz c l) σ.length (d+1) (vR σ.length sz l)=some (if l=[]then .aq else sl sz c l):=by
 unfold vR sB
 split
 ·simp [A.bw]
 ·rename_i hl
  simp only[A.bw,Nat.lt_irrefl,if_false,GH,List.getElem?_cons_zero]
  rw[if_pos (by simp)]
  have e:(List.take l.length (List.drop 0 (l.map c)))=l.map c:=by simp [List.take_of_length_le]
  rw[e,F2,S8 hc]
  rfl
theorem ai3 {α:Type} {sz:Nat} {c:α→List AV} (hc:∀x,jt (c x)) (l:List α) (k:IntKind) (n:Int) (σ:Heap):A.fin σ (.aF [vR σ.length sz l,.int k n]) (σ++sB sz c l)=some (.aF [if l=[]then .aq else sl sz c l,.int k n],σ):=by
 unfold A.fin
 split
 ·rename_i h
  have:sB sz c l=[]:=by simpa using h
  have hl:l=[]:=by
   unfold sB at this
   split at this
   ·assumption
   ·cases this
  subst hl;rfl
 ·rw[if_pos (by simp)]
  have:A.bw (σ++sB sz c l) σ.length 8 (.aF [vR σ.length sz l,.int k n])=some (.aF [if l=[]then .aq else sl sz c l,.int k n]):=by
   simp only[A.bw,A.eG,akV hc,dM k n _ _ _,Option.bind_some,Option.map_some]
  rw[this];rfl
theorem al0 {α:Type} (sz:Nat) (c:α→List AV) (l:List α):A.nn (.s sz) (if l=[]then .aq else sl sz c l)=sl sz c l:=by
 split
 ·rename_i h;subst h;rfl
 ·rfl
def jI {α:Type} (p:α→Bool) (l:List α):Int:=match l.findIdx? p with|some i=>i|none=>-1
theorem zY {α:Type} (p:α→Bool) (l:List α):(jI p l=-1∧(∀x∈l,p x=false)∧l.find? p=none)∨∃(k:Nat) (x:α),l[k]? =some x∧p x=true∧jI p l=k∧l.find? p=some x∧∀(j:Nat) (y:α),j<k→l[j]? =some y→p y=false:=by
 induction l with
 |nil=>left;exact⟨rfl,by simp,rfl⟩
 |cons x l ih=>
  cases h:p x
  ·rcases ih with⟨h1,h2,h3⟩|⟨k,y,h1,h2,h3,h4,h5⟩
   ·left
    refine⟨?_,?_,?_⟩
    ·unfold jI at h1 ⊢
     rw[List.findIdx?_cons,h]
     cases hf:l.findIdx? p with
     |none=>simp
     |some i=>rw[hf]at h1;simp at h1
    ·intro y hy
     rcases List.mem_cons.1 hy with rfl|hy
     ·exact h
     ·exact h2 y hy
    ·simp [List.find?,h,h3]
   ·right
    refine⟨k+1,y,by simpa using h1,h2,?_,by simp [List.find?,h,h4],?_⟩
    ·unfold jI at h3 ⊢
     rw[List.findIdx?_cons,h]
     cases hf:l.findIdx? p with
     |none=>rw[hf]at h3;simp at h3
     |some i=>rw[hf]at h3;simp at h3 ⊢;omega
    ·intro j z hj hz
     cases j with
     |zero=>simp at hz;subst hz;exact h
     |succ j=>exact h5 j z (by omega) (by simpa using hz)
  ·right
   refine⟨0,x,rfl,h,?_,by simp [List.find?,h],by intro j y hj;omega⟩
   unfold jI
   rw[List.findIdx?_cons,h];rfl
theorem BX {α:Type} {γ:Type} (p:α→Bool) (K1:Option γ) (K2:Int→Option γ):∀(l pre:List α),(∀x∈pre,p x=false)→(kH (fun pre x (_:Unit)=>if p x=true then(Rd.out (pre.length:Int):Rd Unit Int)else .go ()) pre l ()).el (fun _=>K1) K2=if jI p (pre++l)=-1 then K1 else K2 (jI p (pre++l))
 |[],pre,h=>by
  have:jI p (pre++[])=-1:=by
   rcases zY p (pre++[])with h1|⟨k,x,h1,h2,_⟩
   ·exact h1.1
   ·have:=h x (by have:=List.mem_of_getElem? h1;simpa using this)
    rw[h2]at this;cases this
  rw[kH,Cp,if_pos this]
 |x::l,pre,h=>by
  rw[kH]
  cases hx:p x
  ·simp only[Bool.false_eq_true,if_false]
   have:=BX p K1 K2 l (pre++[x]) (fun y hy=>by
    rcases List.mem_append.1 hy with hy|hy
    ·exact h y hy
    ·simp at hy;subst hy;exact hx)
   simpa using this
  ·simp only[if_true,Cd]
   have:jI p (pre++x::l)=pre.length:=by
    rcases zY p (pre++x::l)with h1|⟨k,y,h1,h2,h3,_,h5⟩
    ·have:=h1.2.1 x (by simp);rw[hx]at this;cases this
    ·rw[h3]
     rcases Nat.lt_trichotomy k pre.length with hk|hk|hk
     ·rw[List.getElem?_append_left hk]at h1
      have:=h y (List.mem_of_getElem? h1);rw[h2]at this;cases this
     ·omega
     ·have:=h5 pre.length x hk (by simp);rw[hx]at this;cases this
   rw[this,if_neg (by omega)]
theorem Y4 {α R γ:Type} (p:α→Bool) (r:R) (K1:Unit→γ) (K2:R→γ):∀(l pre:List α),(kH (fun _ x (_:Unit)=>if p x=true then(Rd.out r:Rd Unit R)else .go ()) pre l ()).el K1 K2=if l.any p=true then K2 r else K1 ()
 |[],pre=>by simp [kH,Rd.el]
 |x::l,pre=>by
  rw[kH]
  cases h:p x
  ·simp only[Bool.false_eq_true,if_false]
   rw[Y4 p r K1 K2 l (pre++[x])]
   simp [h]
  ·simp [h,Rd.el]
theorem af7 {α:Type} (sz:Nat) (c:α→List AV) (l:List α) {k:Nat} (h:k≤l.length) {σ:Heap}:A.DK sz (sl sz c l) none (some (.int .i64 (k:Int))) σ=some (sl sz c (l.take k)):=by
 simp [A.DK,sl,A.bound,h,List.map_take]
theorem XZ (l:List Int) (n:Int):rq id l++[(.int .i64 n,.bool true)]=rq id (l++[n]):=by simp [rq]
theorem ah9 {κ:Type} [DecidableEq κ] (k x:κ) (S:List κ):iI k (S++[x])=(iI k S||decide (x=k)):=by simp [iI]
theorem uD {α:Type} {sz:Nat} {c:α→List AV} {sh:List Sh} (h:∀x,A.bT sh (c x)=c x) (l:List α):A.nn (.e sz sh) (sl sz c l)=sl sz c l:=by
 simp only[sl,A.nn,List.map_map]
 congr 1
 exact List.map_congr_left fun x _=>h x
theorem ZC (sz:Nat) (sh:List Sh):A.nn (.e sz sh) .aq=.sl sz []:=by simp [A.nn]
theorem YM {α γ:Type} {f:List AV→Heap→Option (AX×List AV×Heap)} (l:List α) (p:α→Bool) (vs:Nat→List AV) (σ:Heap) (fin:AX×List AV×Heap) (ret:Nat→AX×List AV×Heap) {k:AX×List AV×Heap→Option γ} (K1 K2:Option γ)
  (hstep:∀(i:Nat) (x:α),l[i]? =some x→f (vs i) σ=if p x=true then some (ret i)else some (.normal,vs (i+1),σ)) (hend:f (vs l.length) σ=some fin) (hk1:k fin=K1) (hk2:∀i,k (ret i)=K2)
  (A6:fin.1≠.normal:=by simp) (Jm:∀i,(ret i).1≠.normal:=by intros;simp) {v:List AV} {σ':Heap} (hv:v=vs 0:=by rfl) (fU:σ'=σ:=by rfl):
  (A.loop f v σ').bind k=if l.any p=true then K2 else K1:=by
 subst hv fU
 refine(oI (S:=Unit) (R:=Unit) l (fun _ x _=>if p x=true then .out ()else .go ()) (fun pre _=>vs pre.length) (fun _ _=>σ') (fun _=>fin) (fun pre _ _=>ret pre.length) (fun _ _=>True) () (fun _=>K1) (fun _=>K2)
  ?_ (fun _ _=>hend) trivial (fun _ _ _ _ _ _ _ _=>trivial) (fun _ _=>hk1) (fun _ _ _ _ _ _ _ _=>hk2 _) (fun _=>A6) (fun _ _ _=>Jm _)).trans (Y4 p () _ _ l [])
 intro pre x rest u hl _
 rw[hstep pre.length x (oL hl)]
 cases p x<;>simp [Rd.el]
theorem YF {α:Type} (sz:Nat) (c:α→List AV) {l:List α} {k:Nat} {x:α} (h:l[k]? =some x):A.aW sz (sl sz c l) (.int .i64 (k:Int))=some (.rp (c x))∧(k:Int)<(l.length:Int)∧(l.length≤aU→IntKind.i64.wrap ((k:Int)+1)=(k:Int)+1):=
 ⟨jZ sz c l h,by have:=(List.getElem?_eq_some_iff.1 h).1;omega,fun hl=>wrap64 (by have:=(List.getElem?_eq_some_iff.1 h).1;unfold aM;unfold aU at hl;omega)⟩
theorem ah4 {α γ:Type} {f:List AV→Heap→Option (AX×List AV×Heap)} (l:List α) (p:α→Bool) (vs:Nat→List AV) (σ:Heap) (fin:AX×List AV×Heap) (ret:Nat→α→AX×List AV×Heap) {k:AX×List AV×Heap→Option γ} (K1:Option γ) (K2:α→Option γ)
  (hstep:∀(i:Nat) (x:α),l[i]? =some x→f (vs i) σ=if p x=true then some (ret i x)else some (.normal,vs (i+1),σ)) (hend:f (vs l.length) σ=some fin) (hk1:k fin=K1) (hk2:∀i x,k (ret i x)=K2 x)
  (A6:fin.1≠.normal:=by simp) (Jm:∀i x,(ret i x).1≠.normal:=by intros;simp) {v:List AV} {σ':Heap} (hv:v=vs 0:=by rfl) (fU:σ'=σ:=by rfl):
  (A.loop f v σ').bind k=(l.find? p).elim K1 K2:=by
 subst hv fU
 have run:∀(l pre:List α),(kH (fun _ x (_:Unit)=>if p x=true then(Rd.out x:Rd Unit α)else .go ()) pre l ()).el (fun _=>K1) K2=(l.find? p).elim K1 K2:=by
  intro l
  induction l with
  |nil=>intro pre;rfl
  |cons x l ih=>
   intro pre
   rw[kH]
   cases h:p x
   ·simp only[Bool.false_eq_true,if_false]
    rw[ih,List.find?_cons,h]
   ·simp [h,Rd.el]
 refine(oI (S:=Unit) (R:=α) l (fun _ x _=>if p x=true then .out x else .go ()) (fun pre _=>vs pre.length) (fun _ _=>σ') (fun _=>fin) (fun pre _ x=>ret pre.length x) (fun _ _=>True) () (fun _=>K1) K2
  ?_ (fun _ _=>hend) trivial (fun _ _ _ _ _ _ _ _=>trivial) (fun _ _=>hk1) (fun _ _ _ _ _ _ _ _=>hk2 _ _) (fun _=>A6) (fun _ _ _=>Jm _ _)).trans (run l [])
 intro pre x rest u hl _
 rw[hstep pre.length x (oL hl)]
 cases p x<;>simp [Rd.el]
theorem F5 {α:Type} (n:Int) (B:AV→Option α) (s:Option α):((A.lss (.int .i64 n) (.int .i64 n)).bind fun x=>A.cond x (B x) s)=s:=by
 simp only[kV,Int.lt_irrefl,Option.bind_some,decide_false,cF]
section
variable {α β : Type}
theorem ahH {c c':AV} (h:c=c') (t e:Option α):A.cond c t e=A.cond c' t e:=by rw[h]
theorem agA {c c':AV} (h:c=c') (w:Bool) (e d:Option α):A.guard c w e d=A.guard c' w e d:=by rw[h]
theorem ahy {x y:Option α} (h:x=y) (f:α→Option β):x.bind f=y.bind f:=by rw[h]
attribute [congr] ahH agA ahy
end
theorem aO:type_of% @Option.bind_some.{0,0}∧type_of% @Option.map_some.{0,0}∧type_of% @cT∧type_of% @cF∧type_of% @gTT∧type_of% @gTF∧type_of% @gFT∧type_of% @gFF∧type_of% @gN∧type_of% @pT∧type_of% @pF∧type_of% @cond_true.{1}∧type_of% @cond_false.{1}∧type_of% @xN∧type_of% @kU∧type_of% @oZ∧type_of% @xh∧type_of% @kV∧type_of% @NC∧type_of% @DT∧type_of% @su∧type_of% @aa2∧type_of% @aa1∧type_of% @aaZ∧type_of% @aaY∧type_of% @gR∧type_of% @fI∧type_of% @SH∧type_of% @SJ∧type_of% @abt∧type_of% @aa3∧type_of% @aLb∧type_of% @aaU∧type_of% @aaV∧type_of% @aaW∧type_of% @aaX∧type_of% @aDe∧type_of% @aFa∧type_of% @aa0∧type_of% @aCI∧type_of% @aCB∧type_of% @aCS∧type_of% @abr∧type_of% @UM∧type_of% @gd0∧type_of% @gd1∧type_of% @gd2∧type_of% @gd3∧type_of% @gd4∧type_of% @gd5∧type_of% @gd6∧type_of% @gd7∧type_of% @gd8∧type_of% @br∧type_of% @Ry∧type_of% @Yx∧type_of% @Zt∧type_of% @Yy∧type_of% @gf∧type_of% @ite_true.{1}∧type_of% @ite_false.{1}∧type_of% @if_true.{1}∧type_of% @if_false.{1}∧type_of% @Bool.false_eq_true∧type_of% @not_true_eq_false∧type_of% @not_false_eq_true∧type_of% @decide_true∧type_of% @decide_false∧type_of% @Bool.not_true∧type_of% @Bool.not_false∧type_of% @List.append_assoc.{0}∧type_of% @List.cons_append.{0}∧type_of% @List.nil_append.{0}∧type_of% @List.drop_zero.{0}∧type_of% @ZN∧type_of% @ZO∧type_of% @YI∧type_of% @Int.natCast_add∧type_of% @Int.cast_ofNat_Int∧type_of% @Qv∧type_of% @Cp∧type_of% @Cd∧type_of% @Gl∧type_of% @Xj∧type_of% @Xh∧type_of% @Xk∧type_of% @Xi∧type_of% @X3∧type_of% @X4∧type_of% @X0∧type_of% @X5∧type_of% @X1∧type_of% @true_and∧type_of% @and_true∧type_of% @false_and∧type_of% @and_false∧type_of% @true_or∧type_of% @or_true∧type_of% @false_or∧type_of% @or_false∧type_of% @Option.getD_some.{0}∧type_of% @Option.getD_none.{0}∧type_of% @List.length_append.{0}∧type_of% @List.length_cons.{0}∧type_of% @List.length_nil.{0}∧type_of% @Nat.zero_add∧type_of% @Nat.add_zero:=
 ⟨@Option.bind_some.{0,0},@Option.map_some.{0,0},@cT,@cF,@gTT,@gTF,@gFT,@gFF,@gN,@pT,@pF,@cond_true.{1},@cond_false.{1},@xN,@kU,@oZ,@xh,@kV,@NC,@DT,@su,@aa2,@aa1,@aaZ,@aaY,@gR,@fI,@SH,@SJ,@abt,@aa3,@aLb,@aaU,@aaV,@aaW,@aaX,@aDe,@aFa,@aa0,@aCI,@aCB,@aCS,@abr,@UM,@gd0,@gd1,@gd2,@gd3,@gd4,@gd5,@gd6,@gd7,@gd8,@br,@Ry,@Yx,@Zt,@Yy,@gf,@ite_true.{1},@ite_false.{1},@if_true.{1},@if_false.{1},@Bool.false_eq_true,@not_true_eq_false,@not_false_eq_true,@decide_true,@decide_false,@Bool.not_true,@Bool.not_false,@List.append_assoc.{0},@List.cons_append.{0},@List.nil_append.{0},@List.drop_zero.{0},@ZN,@ZO,@YI,@Int.natCast_add,@Int.cast_ofNat_Int,@Qv,@Cp,@Cd,@Gl,@Xj,@Xh,@Xk,@Xi,@X3,@X4,@X0,@X5,@X1,@true_and,@and_true,@false_and,@and_false,@true_or,@or_true,@false_or,@or_false,@Option.getD_some.{0},@Option.getD_none.{0},@List.length_append.{0},@List.length_cons.{0},@List.length_nil.{0},@Nat.zero_add,@Nat.add_zero⟩
end
theorem QS (x:lI):jt (iu x):=(bV (dM _ _) (bV (dM _ _) pN))
theorem QT (x:oN):jt (lK x):=(bV (dM _ _) (bV (dM _ _) (bV (y9 _) pN)))
theorem QO (x:cI):jt (bU x):=(bV (y9 _) (bV (dM _ _) (bV (dM _ _) (bV (dM _ _) (bV (dM _ _) (bV (B5 _) (bV (pW QT _) pN)))))))
theorem afG (x:cm):jt (bP x):=(bV (y9 _) (bV (dM _ _) (bV (pW QO _) pN)))
theorem Re (x:ey):jt (bB x):=(bV (dM _ _) (bV (y9 _) (bV (dM _ _) (bV (dM _ _) pN))))
theorem yV (x:aB):jt (aL x):=(bV (dM _ _) (bV (y9 _) pN))
theorem Wm (x:yM):jt (rR x):=(bV (dM _ _) (bV (y9 _) (bV (dM _ _) pN)))
theorem WR (x:kE):jt (dP x):=(bV (dM _ _) (bV (y9 _) (bV (pW Wm _) pN)))
theorem YC (x:fF):jt (fG x):=(bV (dM _ _) (bV (y9 _) (bV (dM _ _) (bV (dM _ _) (bV (B5 _) (bV (B5 _) (bV (dM _ _) (bV (dM _ _) pN))))))))
theorem MP (x:aY):jt (aX x):=(bV (dM _ _) (bV (y9 _) (bV (dM _ _) (bV (dM _ _) (bV (dM _ _) (bV (dM _ _) (bV (dM _ _) (bV (pW QS _) (bV (B5 _) (bV (dM _ _) (bV (pW YC _) pN)))))))))))
theorem XI (x:bk):jt (cL x):=(bV (dM _ _) (bV (y9 _) (bV (dM _ _) (bV (dM _ _) (bV (dM _ _) pN)))))
theorem ai9 (x:jl):jt (dR x):=(bV (dM _ _) (bV (pW MP _) pN))
theorem PL (x:mq):jt (cC x):=(bV (dM _ _) (bV (dM _ _) (bV (dM _ _) pN)))
theorem WQ (x:fC):jt (bG x):=(bV (dM _ _) (bV (dM _ _) (bV (dM _ _) (bV (dM _ _) (bV (dM _ _) pN)))))
instance : Inhabited ByteArray := ⟨⟨#[]⟩⟩
instance : Inhabited lI := ⟨⟨0, 0⟩⟩
instance : Inhabited pO := ⟨⟨0, []⟩⟩
instance : Inhabited gm := ⟨⟨0, 0, 0, 0, 0, ⟨0, []⟩⟩⟩
instance : Inhabited ajT := ⟨⟨0, 0⟩⟩
instance : Inhabited oN := ⟨⟨0, 0, ⟨#[]⟩⟩⟩
instance : Inhabited cI := ⟨⟨⟨#[]⟩, 0, 0, 0, 0, false, []⟩⟩
instance : Inhabited cm := ⟨⟨⟨#[]⟩, 0, []⟩⟩
instance : Inhabited ey := ⟨⟨0, ⟨#[]⟩, 0, 0⟩⟩
instance : Inhabited dO := ⟨⟨[], []⟩⟩
instance : Inhabited aB := ⟨⟨0, ⟨#[]⟩⟩⟩
theorem pM (a b:aB):A.eB (.s [0,2]) (.agg (aL a)) (.agg (aL b))=some (decide (a=b)):=by
 obtain⟨x1,x2⟩:=a
 obtain⟨x101,x102⟩:=b
 simp only[A.eB,aL,A.gn,A.mZ,A.nF,A.xX,A.qu,if_true,Option.bind_some,Option.map_some,bq]
 congr 1
 rw[Bool.eq_iff_iff]
 simp [and_assoc]
theorem aaf (a b:aB):A.eql (.s [0,2]) (.agg (aL a)) (.agg (aL b))=some (.bool (decide (a=b))):=by rw[A.eql,pM];rfl
instance : Inhabited yM := ⟨⟨⟨0, ⟨#[]⟩⟩, 0⟩⟩
instance : Inhabited kE := ⟨⟨0, ⟨#[]⟩, []⟩⟩
instance : Inhabited anf := ⟨⟨[], 0, 0⟩⟩
instance : Inhabited mu := ⟨⟨0, 0⟩⟩
theorem ahM (a b:mu):A.eB (.s [0,0]) (.agg (vC a)) (.agg (vC b))=some (decide (a=b)):=by
 obtain⟨x1,x2⟩:=a
 obtain⟨x101,x102⟩:=b
 simp only[A.eB,vC,A.gn,A.mZ,A.nF,A.xX,A.qu,if_true,Option.bind_some,Option.map_some,bq]
 congr 1
 rw[Bool.eq_iff_iff]
 simp [and_assoc]
theorem ajo (a b:mu):A.neq (.s [0,0]) (.agg (vC a)) (.agg (vC b))=some (.bool (decide (¬(a=b)))):=by rw[A.neq,ahM,Option.map_some,decide_not]
instance : Inhabited fF := ⟨⟨⟨0, ⟨#[]⟩⟩, ⟨0, 0⟩, false, false, 0, 0⟩⟩
instance : Inhabited aY := ⟨⟨0, ⟨#[]⟩, 0, 0, 0, 0, ⟨0, []⟩, false, 0, []⟩⟩
instance : Inhabited bk := ⟨⟨⟨0, ⟨#[]⟩⟩, ⟨0, 0⟩, 0⟩⟩
instance : Inhabited amt := ⟨⟨0, 0, 0⟩⟩
instance : Inhabited jl := ⟨⟨0, []⟩⟩
instance : Inhabited mq := ⟨⟨0, 0, 0⟩⟩
instance : Inhabited gJ := ⟨⟨⟨[], []⟩, [], [], []⟩⟩
instance : Inhabited fC := ⟨⟨0, 0, 0, 0, 0⟩⟩
instance : Inhabited alr := ⟨⟨0, ⟨0, 0, 0, 0, 0⟩⟩⟩
instance : Inhabited alw := ⟨⟨0, 0, 0, 0⟩⟩
instance : Inhabited abq := ⟨⟨⟨0, ⟨#[]⟩⟩, ⟨0, 0, 0, 0, 0, ⟨0, []⟩⟩, 0, false⟩⟩
instance : Inhabited aht := ⟨⟨0, 0, 0, false, 0, []⟩⟩
instance : Inhabited Wc := ⟨⟨0, 0, 0⟩⟩
instance : Inhabited Zg := ⟨⟨0, 0, 0, 0, 0, 0, false, false, []⟩⟩
instance : Inhabited aaT := ⟨⟨0, 0⟩⟩
instance : Inhabited aiE := ⟨⟨⟨0, 0, 0, 0, 0, 0, false, false, []⟩, [], 0, [], 0, 0, 0⟩⟩
section
def Rf {β τ:Type} (M:Option β) (T:Option τ) (Q:τ→β→Prop):Prop:=∀t,T=some t→∃b,M=some b∧Q t b
section
variable {α β ω τ ζ : Type}
theorem au {M0:Option α} {K:α→Option β} {T:Option τ} {Q:τ→β→Prop} (a:α) (h:M0=some a) (k:Rf (K a) T Q):Rf (M0.bind K) T Q:=by
 intro t ht;obtain⟨b,h1,h2⟩:=k t ht;exact⟨b,by rw[h];exact h1,h2⟩
theorem lg {M0:Option α} {K:α→Option β} {o:Option ω} {K':ω→Option τ} {Q:τ→β→Prop} (e:ω→α) (h:∀t,o=some t→M0=some (e t)) (k:∀t,o=some t→Rf (K (e t)) (K' t) Q):Rf (M0.bind K) (o.bind K') Q:=by
 intro t ht
 obtain⟨x,h1,h2⟩:=Option.bind_eq_some_iff.1 ht
 obtain⟨b,h3,h4⟩:=k x h1 t h2
 exact⟨b,by rw[h x h1];exact h3,h4⟩
theorem NS {M0:Option α} {K:α→Option β} {o:Option ω} {K':ω→Option τ} {Q:τ→β→Prop} (Q0:ω→α→Prop) (h:Rf M0 o Q0) (k:∀t a,Q0 t a→Rf (K a) (K' t) Q):Rf (M0.bind K) (o.bind K') Q:=by
 intro t ht
 obtain⟨x,h1,h2⟩:=Option.bind_eq_some_iff.1 ht
 obtain⟨a,h3,h4⟩:=h x h1
 obtain⟨b,h5,h6⟩:=k x a h4 t h2
 exact⟨b,by rw[h3];exact h5,h6⟩
theorem cD {t:τ} {b:β} {Q:τ→β→Prop} (h:Q t b):Rf (some b) (some t) Q:=by
 intro u hu;cases hu;exact⟨b,rfl,h⟩
theorem eE {M:Option β} {t:τ} {Q:τ→β→Prop} (b:β) (e:M=some b) (h:Q t b):Rf M (some t) Q:=by
 rw[e];exact cD h
theorem ak5 {M:Option β} {Q:τ→β→Prop}:Rf M (none:Option τ) Q:=by intro u hu;cases hu
theorem am9 {M:Option β} {p:Prop} [Decidable p] {T:Option τ} {Q:τ→β→Prop} (h:p→Rf M T Q):Rf M (if p then T else none) Q:=by
 split
 ·exact h ‹_›
 ·exact ak5
theorem lP {p:Prop} [Decidable p] {X Y:Option β} {X' Y':Option τ} {Q:τ→β→Prop} (h1:p→Rf X X' Q) (h2:¬p→Rf Y Y' Q):Rf (A.cond (.bool (decide p)) X Y) (if p then X' else Y') Q:=by
 by_cases h:p
 ·simp only[h,decide_true,if_true];exact h1 h
 ·simp only[h,decide_false,if_false];exact h2 h
theorem jo {c:Bool} {X Y:Option β} {X' Y':Option τ} {Q:τ→β→Prop} (h1:c=true→Rf X X' Q) (h2:c=false→Rf Y Y' Q):Rf (A.cond (.bool c) X Y) (if c=true then X' else Y') Q:=by
 cases c
 ·exact h2 rfl
 ·exact h1 rfl
theorem sk {X Y:Option β} {T:Option τ} {Q:τ→β→Prop} (h:Rf X T Q):Rf (A.cond (.bool true) X Y) T Q:=h
theorem sj {X Y:Option β} {T:Option τ} {Q:τ→β→Prop} (h:Rf Y T Q):Rf (A.cond (.bool false) X Y) T Q:=h
theorem kT {c:Bool} {X Y:Option β} {T:Option τ} {Q:τ→β→Prop} (e:c=true) (h:Rf X T Q):Rf (bif c then X else Y) T Q:=by rw[e];exact h
theorem xe {c:Bool} {X Y:Option β} {T:Option τ} {Q:τ→β→Prop} (e:c=false) (h:Rf Y T Q):Rf (bif c then X else Y) T Q:=by rw[e];exact h
def gv {α:Type} (g:Bool) (e:α→AV) (t:α):AV:=bif g then e t else .aF []
end
inductive Lr (S B R : Type) where
 |go (s:S)
 |brk (b:B)
 |ret (r:R)
def mO {α S B R:Type} (body:Nat→α→S→Option (Lr S B R)) (fin:S→Option B):List α→Nat→S→Option (B ⊕ R)
 |[],_,s=>(fin s).map .inl
 |x::l,i,s=>(body i x s).bind fun q=>match q with|.go s'=>mO body fin l (i+1) s'|.brk b=>some (.inl b)|.ret r=>some (.inr r)
def lV {α S B R γ:Type} (l:List α) (body:Nat→α→S→Option (Lr S B R)) (fin:S→Option B) (s:S) (K1:B→Option γ) (K2:R→Option γ):Option γ:=
 if l.length≤aU then(mO body fin l 0 s).bind fun q=>q.elim K1 K2 else none
section
variable {α S B R β τ : Type}
abbrev LS:=AX×List AV×Heap
def NX (I:S→List AV→Heap→Prop) (QB:B→LS→Prop) (QR:R→LS→Prop) (t:Lr S B R) (q:LS):Prop:=match t with
 |.go s=>q.1=.normal∧I s q.2.1 q.2.2
 |.brk b=>q.1≠.normal∧QB b q
 |.ret r=>q.1≠.normal∧QR r q
theorem rX {I:S→List AV→Heap→Prop} {QB:B→LS→Prop} {QR:R→LS→Prop} {s:S} {v:List AV} {σ:Heap} (h:I s v σ):NX I QB QR (.go s) (.normal,v,σ):=⟨rfl,h⟩
theorem ak7 {I:S→List AV→Heap→Prop} {QB:B→LS→Prop} {QR:R→LS→Prop} {b:B} {q:LS} (n:q.1≠.normal) (h:QB b q):NX I QB QR (.brk b) q:=⟨n,h⟩
theorem iO {I:S→List AV→Heap→Prop} {QB:B→LS→Prop} {QR:R→LS→Prop} {r:R} {q:LS} (n:q.1≠.normal) (h:QR r q):NX I QB QR (.ret r) q:=⟨n,h⟩
theorem rW {f:List AV→Heap→Option LS} {K:LS→Option β} {Q:τ→β→Prop} {l:List α} {body:Nat→α→S→Option (Lr S B R)} {fin:S→Option B} {s0:S} {K1:B→Option τ} {K2:R→Option τ} {v0:List AV} {aD:Heap}
  (I:Nat→S→List AV→Heap→Prop) (QB:B→LS→Prop) (QR:R→LS→Prop)
  (hstep:l.length≤aU→∀i x s v σ,l[i]? =some x→I i s v σ→Rf (f v σ) (body i x s) (NX (I (i+1)) QB QR))
  (hend:l.length≤aU→∀s v σ,I l.length s v σ→Rf (f v σ) (fin s) (fun b q=>q.1≠.normal∧QB b q))
  (h0:I 0 s0 v0 aD) (k1:l.length≤aU→∀b q,QB b q→Rf (K q) (K1 b) Q) (k2:l.length≤aU→∀r q,QR r q→Rf (K q) (K2 r) Q):
  Rf ((A.loop f v0 aD).bind K) (lV l body fin s0 K1 K2) Q:=by
 unfold lV
 refine am9 fun hl=>?_
 have hstep:=hstep hl
 have hend:=hend hl
 have key:∀(rest pre:List α) (s:S) (v:List AV) (σ:Heap),l=pre++rest→I pre.length s v σ→∀t,mO body fin rest pre.length s=some t→∃q,(∃n,A.iter f n v σ=some q)∧(match t with|.inl b=>QB b q|.inr r=>QR r q):=by
  intro rest
  induction rest with
  |nil=>
   intro pre s v σ hl hI t ht
   rw[List.append_nil]at hl
   subst hl
   simp only[mO]at ht
   obtain⟨b,hb,rfl⟩:=Option.map_eq_some_iff.1 ht
   obtain⟨q,h1,h2,h3⟩:=hend s v σ hI b hb
   exact⟨q,vu h1 h2,h3⟩
  |cons x rest ih=>
   intro pre s v σ hl hI t ht
   simp only[mO]at ht
   obtain⟨y,hy,h2⟩:=Option.bind_eq_some_iff.1 ht
   obtain⟨q,h3,h4⟩:=hstep pre.length x s v σ (by rw[hl];simp) hI y hy
   obtain⟨e,v',σ'⟩:=q
   cases y with
   |go s'=>
    obtain⟨rfl,Uh⟩:=h4
    obtain⟨q,h5,h6⟩:=ih (pre++[x]) s' v' σ' (by simpa using hl) (by simpa using Uh) t (by simpa using h2)
    exact⟨q,Dv h3 h5,h6⟩
   |brk b=>simp only[Option.some.injEq]at h2;subst h2;exact⟨_,vu h3 h4.1,h4.2⟩
   |ret b=>simp only[Option.some.injEq]at h2;subst h2;exact⟨_,vu h3 h4.1,h4.2⟩
 intro t ht
 obtain⟨y,hy,h2⟩:=Option.bind_eq_some_iff.1 ht
 obtain⟨q,⟨n,hn⟩,h3⟩:=key l [] s0 v0 aD rfl h0 y hy
 cases y with
 |inl b=>obtain⟨z,h4,h5⟩:=k1 hl b q h3 t h2;exact⟨z,by rw[Dm hn];exact h4,h5⟩
 |inr b=>obtain⟨z,h4,h5⟩:=k2 hl b q h3 t h2;exact⟨z,by rw[Dm hn];exact h4,h5⟩
theorem jM {l:List α} {i:Nat} {x:α} (h:l[i]? =some x):A.lss (.int .i64 (i:Int)) (.int .i64 (l.length:Int))=some (.bool true):=by
 have:=(List.getElem?_eq_some_iff.1 h).1
 rw[kV];simp;omega
theorem j0 (l:List α):A.lss (.int .i64 (l.length:Int)) (.int .i64 (l.length:Int))=some (.bool false):=by rw[kV];simp
theorem gK {l:List α} {i:Nat} {x:α} (h:l[i]? =some x) (hl:l.length≤aU):A.add (.int .i64 (i:Int)) (.int .i64 1)=some (.int .i64 ((i+1:Nat):Int)):=by
 have:=(List.getElem?_eq_some_iff.1 h).1
 rw[kU,wrap64 (by unfold aM;unfold aU at hl;omega)]
 simp
def vi (l:List α) (i:Int):Option α:=if 0≤i then l[i.toNat]? else none
theorem Cs {sz:Nat} {c:α→List AV} {l:List α} {i:Int} {x:α} (h:vi l i=some x):A.aW sz (sl sz c l) (.int .i64 i)=some (.rp (c x)):=by
 unfold vi at h
 split at h
 ·exact ahX sz c l ‹_› h
 ·cases h
theorem jk {sz:Nat} {c:α→List AV} {l:List α} {i:Nat} {x:α} (h:l[i]? =some x):A.aW sz (sl sz c l) (.int .i64 (i:Int))=some (.rp (c x)):=jZ sz c l h
end
theorem quiet_of {M:Option (AV×Heap)} {v:AV} {σ:Heap} (h:M=some (v,σ)):A.quiet M σ=some v:=by rw[h,Qv]
def Jr (a b:Int):Option Int:=if b=0 then none else some (IntKind.i64.wrap (a.tdiv b))
def Js (a b:Int):Option Int:=if b=0 then none else some (a.tmod b)
theorem al9 {a b c:Int} (h:Jr a b=some c):A.quo (.int .i64 a) (.int .i64 b)=some (.int .i64 c):=by
 unfold Jr at h
 split at h
 ·cases h
 ·injection h with h;subst h;exact abu a b ‹_›
theorem amb {a b c:Int} (h:Js a b=some c):A.rem (.int .i64 a) (.int .i64 b)=some (.int .i64 c):=by
 unfold Js at h
 split at h
 ·cases h
 ·injection h with h;subst h;exact anh a b ‹_›
noncomputable def tq {α:Type} (p:Prop) (x:α):Option α:=open Classical in if p then some x else none
theorem uf {α:Type} {p:Prop} {x:α} (h:p):tq p x=some x:=if_pos h
theorem vN {α β:Type} {p:Prop} {x r:α} {M:Option β} {e:α→β} (h:p→M=some (e x)) (k:tq p x=some r):M=some (e r):=by
 unfold tq at k
 split at k
 ·rename_i hp;injection k with k;subst k;exact h hp
 ·cases k
theorem rV (b t:Bool):A.pick (.bool b) (bif b then .bool t else .aF []) (.bool false)=some (.bool (b&&t)):=by cases b<;>rfl
theorem pY (b t:Bool):A.pick (.bool b) (.bool true) (bif !b then .bool t else .aF [])=some (.bool (b||t)):=by cases b<;>rfl
section
variable {α β ω τ : Type} {G b : Bool} {M0 : Option AV} {K : AV → Option β} {T : Option τ} {K' : ω → Option τ} {o : Option ω} {Q : τ → β → Prop}
theorem dV (a:AV) (h:b=true→M0=some a) (k:Rf (K (bif b then a else .aF [])) T Q):Rf ((A.guard (.bool b) true M0 (some (.aF []))).bind K) T Q:=by
 refine au _ ?_ k
 cases b<;>simp_all [A.guard]
theorem eF (a:AV) (h:(!b)=true→M0=some a) (k:Rf (K (bif !b then a else .aF [])) T Q):Rf ((A.guard (.bool b) false M0 (some (.aF []))).bind K) T Q:=by
 refine au _ ?_ k
 cases b<;>simp_all [A.guard]
theorem Gs (a:AV) (h:(G&&b)=true→M0=some a) (k:Rf (K (bif G&&b then a else .aF [])) T Q):Rf ((A.guard (bif G then .bool b else .aF []) true M0 (some (.aF []))).bind K) T Q:=by
 refine au _ ?_ k
 cases G<;>cases b<;>simp_all [A.guard]
theorem aaH (a:AV) (h:(G&&!b)=true→M0=some a) (k:Rf (K (bif G&&!b then a else .aF [])) T Q):Rf ((A.guard (bif G then .bool b else .aF []) false M0 (some (.aF []))).bind K) T Q:=by
 refine au _ ?_ k
 cases G<;>cases b<;>simp_all [A.guard]
theorem am8 {g:Bool} {M:Option AV} {d:ω} (e:ω→AV) (hM:M=bif g then M0 else some (.aF [])) (h:g=true→∀t,o=some t→M0=some (e t)) (k:∀t,(g=true→o=some t)→Rf (K (bif g then e t else .aF [])) (K' t) Q):Rf (M.bind K) ((if g=true then o else some d).bind K') Q:=by
 subst hM
 cases g
 ·exact k d (by simp)
 ·intro t ht
  simp only[if_true]at ht
  obtain⟨x,h1,h2⟩:=Option.bind_eq_some_iff.1 ht
  obtain⟨y,h3,h4⟩:=k x (fun _=>h1) t h2
  refine⟨y,?_,h4⟩
  simp only[cond_true,h rfl x h1,Option.bind_some]
  exact h3
theorem zc {d:ω} (e:ω→AV) (h:b=true→∀t,o=some t→M0=some (e t)) (k:∀t,(b=true→o=some t)→Rf (K (bif b then e t else .aF [])) (K' t) Q):Rf ((A.guard (.bool b) true M0 (some (.aF []))).bind K) ((if b=true then o else some d).bind K') Q:=am8 e (by cases b<;>rfl) h k
end
theorem M3 {ro:Bool} {eS:List Sh} {fH:Sh} {r:List AV→Heap→Option (AV×Heap)} {args args':List AV} {σ:Heap} (hn:A.bT eS args=A.bT eS args') (h1:args.any A.own=false) (h2:args'.any A.own=false):A.wrap ro eS fH r args σ=A.wrap ro eS fH r args' σ:=by
 unfold A.wrap
 rw[h1,h2,hn,Bool.and_false,cond_false,cond_false]
theorem RO {τ:Type} {ro:Bool} {eS:List Sh} {fH:Sh} {r:List AV→Heap→Option (AV×Heap)} {args args':List AV} {σ:Heap} {T:Option τ} {enc:τ→AV} (hn:A.bT eS args=args') (h:args.any A.own=false) (e:Rf (r args' σ) T (fun t b=>A.nn fH b.1=enc t∧b.2=σ)):∀t,T=some t→A.wrap ro eS fH r args σ=some (enc t,σ):=by
 intro t ht
 obtain⟨⟨v,σ'⟩,h1,h2,h3⟩:=e t ht
 simp only at h2 h3
 subst h3
 exact wrap_eq h (by rw[hn];exact h1) h2
theorem yP {τ:Type} {ro:Bool} {eS:List Sh} {fH:Sh} {f:AV→Heap→Option (AV×Heap)} {x0 y0:AV} {σ:Heap} {T:Option τ} {enc:τ→AV} (hn:A.bT eS [x0]=[y0]) (h:([x0]:List AV).any A.own=false) (e:Rf (f y0 σ) T (fun t b=>A.nn fH b.1=enc t∧b.2=σ)):∀t,T=some t→A.wrap ro eS fH (A.dH f) [x0] σ=some (enc t,σ):=RO hn h e
theorem uc {τ:Type} {ro:Bool} {eS:List Sh} {fH:Sh} {f:AV→AV→Heap→Option (AV×Heap)} {x0 x1 y0 y1:AV} {σ:Heap} {T:Option τ} {enc:τ→AV} (hn:A.bT eS [x0,x1]=[y0,y1]) (h:([x0,x1]:List AV).any A.own=false) (e:Rf (f y0 y1 σ) T (fun t b=>A.nn fH b.1=enc t∧b.2=σ)):∀t,T=some t→A.wrap ro eS fH (A.bQ f) [x0,x1] σ=some (enc t,σ):=RO hn h e
theorem Y2 {τ:Type} {ro:Bool} {eS:List Sh} {fH:Sh} {f:AV→AV→AV→Heap→Option (AV×Heap)} {x0 x1 x2 y0 y1 y2:AV} {σ:Heap} {T:Option τ} {enc:τ→AV} (hn:A.bT eS [x0,x1,x2]=[y0,y1,y2]) (h:([x0,x1,x2]:List AV).any A.own=false) (e:Rf (f y0 y1 y2 σ) T (fun t b=>A.nn fH b.1=enc t∧b.2=σ)):∀t,T=some t→A.wrap ro eS fH (A.ko f) [x0,x1,x2] σ=some (enc t,σ):=RO hn h e
end
section
inductive Ct where
 |s (sz:Nat) (es:List (List AV))
 |m (es:List (AV×AV))
 |b (cs:List AV)
def zz:AV→Option Nat
 |.os id _ _ _ _=>some id
 |.om id=>some id
 |.op id _=>some id
 |_=>none
def Own (n:Nat) (σ:Heap) (p:AV×Ct):Prop:=match p.2 with
 |.s sz es=>(p.1=.aq∧es=[])∨∃id g off a,p.1=.os id g sz off es.length∧n≤id∧σ[id]? =some (.arr g sz a)∧off≤a.length∧a.drop off=es
 |.m es=>∃id,p.1=.om id∧n≤id∧σ[id]? =some (.map es)
 |.b cs=>∃id,p.1=.op id 0∧n≤id∧σ[id]? =some (.box cs)
structure Hp (aD σ : Heap) (L : List (AV × Ct)) : Prop where
 pre:∃bs,σ=aD++bs
 own:∀(i:Nat) p,L[i]? =some p→Own aD.length σ p
 sep:∀(i j:Nat) p q a,L[i]? =some p→L[j]? =some q→zz p.1=some a→zz q.1=some a→i=j
section
variable {aD σ σ' : Heap} {L : List (AV × Ct)} {n : Nat}
theorem RZ (σ:Heap):Hp σ σ []:=⟨⟨[],by simp⟩,by simp,by simp⟩
theorem R6 {p:AV×Ct} {a:Nat} (h:Own n σ p) (e:zz p.1=some a):n≤a∧a<σ.length:=by
 obtain⟨v,c⟩:=p
 cases c with
 |s sz es=>
  rcases h with⟨h1,_⟩|⟨id,g,off,x,h1,h2,h3,_⟩
  ·simp only at h1;subst h1;cases e
  ·simp only at h1;subst h1;injection e with e;subst e;exact⟨h2,(List.getElem?_eq_some_iff.1 h3).1⟩
 |m es=>obtain⟨id,h1,h2,h3⟩:=h;simp only at h1;subst h1;injection e with e;subst e;exact⟨h2,(List.getElem?_eq_some_iff.1 h3).1⟩
 |b es=>obtain⟨id,h1,h2,h3⟩:=h;simp only at h1;subst h1;injection e with e;subst e;exact⟨h2,(List.getElem?_eq_some_iff.1 h3).1⟩
theorem YR {p:AV×Ct} (h:Own n σ p) (k:∀a,zz p.1=some a→σ'[a]? =σ[a]?):Own n σ' p:=by
 obtain⟨v,c⟩:=p
 cases c with
 |s sz es=>
  rcases h with h|⟨id,g,off,x,h1,h2,h3,h4⟩
  ·exact .inl h
  ·simp only at h1;subst h1;exact .inr ⟨id,g,off,x,rfl,h2,by rw[k id rfl];exact h3,h4⟩
 |m es=>obtain⟨id,h1,h2,h3⟩:=h;simp only at h1;subst h1;exact⟨id,rfl,h2,by rw[k id rfl];exact h3⟩
 |b es=>obtain⟨id,h1,h2,h3⟩:=h;simp only at h1;subst h1;exact⟨id,rfl,h2,by rw[k id rfl];exact h3⟩
theorem ak2 (h:∃bs,σ=aD++bs) {id:Nat} (hn:aD.length≤id) (b:aK):∃bs,σ.set id b=aD++bs:=by
 obtain⟨bs,rfl⟩:=h
 exact⟨bs.set (id-aD.length) b,by rw[List.set_append_right _ _ hn]⟩
theorem aaq (H:Hp aD σ L) {k id:Nat} {h h':AV} {c c':Ct} {b:aK} (hk:L[k]? =some (h,c)) (hi:zz h=some id) (hi':zz h'=some id) (ho:Own aD.length (σ.set id b) (h',c')):Hp aD (σ.set id b) (L.set k (h',c')):=by
 have hid:=R6 (H.own k _ hk) hi
 have Bw:=(List.getElem?_eq_some_iff.1 hk).1
 refine⟨ak2 H.pre hid.1 b,fun i p hp=>?_,fun i j p q a hp hq e1 e2=>?_⟩
 ·rw[List.getElem?_set]at hp
  split at hp
  ·rename_i e;subst e;simp [Bw]at hp;subst hp;exact ho
  ·rename_i e
   refine YR (H.own i p hp) fun a ha=>?_
   rw[List.getElem?_set]
   split
   ·rename_i e';subst e';exact absurd (H.sep k i _ _ id hk hp hi ha) e
   ·rfl
 ·have key:∀(i:Nat) (p:AV×Ct),(L.set k (h',c'))[i]? =some p→zz p.1=some a→∃p',L[i]? =some p'∧zz p'.1=some a:=by
   intro i p hp e
   rw[List.getElem?_set]at hp
   split at hp
   ·rename_i e';subst e';simp [Bw]at hp;subst hp;exact⟨_,hk,by rw[hi];rw[hi']at e;exact e⟩
   ·exact⟨p,hp,e⟩
  obtain⟨p',hp',e1'⟩:=key i p hp e1
  obtain⟨q',By,JE⟩:=key j q hq e2
  exact H.sep i j p' q' a hp' By e1' JE
theorem akA (H:Hp aD σ L) {h':AV} {c':Ct} {b:aK} (hi':zz h'=some σ.length) (ho:Own aD.length (σ++[b]) (h',c')):Hp aD (σ++[b]) (L++[(h',c')]):=by
 refine⟨?_,fun i p hp=>?_,fun i j p q a hp hq e1 e2=>?_⟩
 ·obtain⟨bs,rfl⟩:=H.pre;exact⟨bs++[b],by simp⟩
 ·rw[List.getElem?_append]at hp
  split at hp
  ·refine YR (H.own i p hp) fun a ha=>?_
   have:=(R6 (H.own i p hp) ha).2
   rw[List.getElem?_append_left this]
  ·have hp':=(List.getElem?_eq_some_iff.1 hp).2
   simp at hp';subst hp';exact ho
 ·have key:∀(i:Nat) (p:AV×Ct),(L++[(h',c')])[i]? =some p→zz p.1=some a→(i=L.length∧a=σ.length)∨(L[i]? =some p∧a<σ.length):=by
   intro i p hp e
   rw[List.getElem?_append]at hp
   split at hp
   ·exact .inr ⟨hp,(R6 (H.own i p hp) e).2⟩
   ·obtain⟨h1,h2⟩:=List.getElem?_eq_some_iff.1 hp
    simp at h1 h2;subst h2;rw[hi']at e;injection e with e;exact .inl ⟨by omega,e.symm⟩
  rcases key i p hp e1 with⟨a1,a2⟩|⟨a1,a2⟩<;>rcases key j q hq e2 with⟨b1,b2⟩|⟨b1,b2⟩
  ·omega
  ·omega
  ·omega
  ·exact H.sep i j p q a a1 b1 e1 e2
theorem Sm (H:Hp aD σ L):Hp aD (σ++[.map []]) (L++[(.om σ.length,.m [])]):=by
 have hl:aD.length≤σ.length:=by obtain⟨bs,rfl⟩:=H.pre;simp
 exact akA H rfl ⟨σ.length,rfl,hl,by simp⟩
theorem RD (H:Hp aD σ L):Hp aD σ []:=⟨H.pre,by simp,by simp⟩
theorem akz (H:Hp aD σ L) {k:Nat} {h key v:AV} {ek:A.EK} {es es':List (AV×AV)} (hk:L[k]? =some (h,.m es)) (hok:A.jB ek key=true) (he:A.upd ek key v es=some es'):∃σ',A.eA ek h key v σ=some σ'∧Hp aD σ' (L.set k (h,.m es')):=by
 obtain⟨id,h1,h2,h3⟩:=H.own k _ hk
 simp only at h1 h3
 subst h1
 have hid:=(List.getElem?_eq_some_iff.1 h3).1
 exact⟨σ.set id (.map es'),by simp [A.eA,hok,h3,he],aaq H hk rfl rfl ⟨id,rfl,h2,by simp [hid]⟩⟩
theorem aky (H:Hp aD σ L) {k:Nat} {h key:AV} {ek:A.EK} {es es':List (AV×AV)} (hk:L[k]? =some (h,.m es)) (hok:A.jB ek key=true) (he:A.del ek key es=some es'):∃σ',A.Ec ek h key σ=some σ'∧Hp aD σ' (L.set k (h,.m es')):=by
 obtain⟨id,h1,h2,h3⟩:=H.own k _ hk
 simp only at h1 h3
 subst h1
 have hid:=(List.getElem?_eq_some_iff.1 h3).1
 exact⟨σ.set id (.map es'),by simp [A.Ec,hok,h3,he],aaq H hk rfl rfl ⟨id,rfl,h2,by simp [hid]⟩⟩
theorem akx (H:Hp aD σ L) {k:Nat} {h key z:AV} {ek:A.EK} {es:List (AV×AV)} {r:Option AV} (hk:L[k]? =some (h,.m es)) (hok:A.jB ek key=true) (he:A.find ek key es=some r):A.look ek h key z σ=some (r.getD z):=by
 obtain⟨id,h1,h2,h3⟩:=H.own k _ hk
 simp only at h1 h3
 subst h1
 rw[B7 ek hok h3,he];rfl
def T9 (aD σ:Heap) (r r':AV):Prop:=(∀d,A.bw σ aD.length (d+1) r=some r')∧(σ=aD→r'=r)
theorem aak {r:AV} (h:Fz r):T9 aD σ r r:=⟨fun d=>h σ _ (d+1),fun _=>rfl⟩
theorem ff {s1:Sh} {v1 w1:AV} {ss:List Sh} {vs ws:List AV} (h1:A.nn s1 v1=w1) (h2:A.bT ss vs=ws):A.bT (s1::ss) (v1::vs)=w1::ws:=by simp only[A.bT,h1,h2]
theorem AG:A.bT [] []=[]:=by simp [A.bT]
theorem mA {ss:List Sh} {vs ws:List AV} (h:A.bT ss vs=ws):A.nn (.a ss) (.agg vs)=.agg ws:=by simp only[A.nn,h]
theorem NP {ss:List Sh} {vs ws:List AV} (h:A.bT ss vs=ws):A.nn (.t ss) (.aF vs)=.aF ws:=by simp only[A.nn,h]
theorem MN (d:Nat):∀{es:List (AV×AV)},(∀p∈es,Fz p.1∧Fz p.2)→A.Cq σ n d es=some es
 |[],_=>by simp [A.Cq]
 |(k,v)::es,h=>by
  have h1:=h (k,v) (by simp)
  simp only[A.Cq,h1.1 σ n d,h1.2 σ n d,Option.bind_some,MN d (es:=es) (fun p hp=>h p (by simp [hp])),Option.map_some]
theorem aal (H:Hp aD σ L) {k:Nat} {h:AV} {es:List (AV×AV)} (hk:L[k]? =some (h,.m es)) (hc:∀p∈es,Fz p.1∧Fz p.2):T9 aD σ h (.fm es):=by
 obtain⟨id,h1,h2,h3⟩:=H.own k _ hk
 simp only at h1 h3
 subst h1
 refine⟨fun d=>?_,fun e=>?_⟩
 ·simp only[A.bw,Nat.not_lt.2 h2,if_false,h3,MN d hc,Option.map_some]
 ·subst e
  have:=(List.getElem?_eq_some_iff.1 h3).1
  omega
theorem Nb (H:Hp aD σ L) {r r':AV} (h:T9 aD σ r r'):A.fin aD r σ=some (r',aD):=by
 obtain⟨bs,hb⟩:=H.pre
 subst hb
 by_cases ng:bs=[]
 ·subst ng
  rw[List.append_nil]at h ⊢
  rw[br,h.2 rfl]
 ·unfold A.fin
  rw[if_neg (by simpa using ng),if_pos (by simp),h.1 7];rfl
end
section
variable {κ ν : Type} [DecidableEq κ]
def bM (k:κ):List (κ×ν)→Option ν
 |[]=>none
 |(k',v)::r=>if k=k' then some v else bM k r
def dz (k:κ) (v:ν):List (κ×ν)→List (κ×ν)
 |[]=>[(k,v)]
 |(k',v')::r=>if k=k' then(k,v)::r else(k',v')::dz k v r
def qh (k:κ):List (κ×ν)→List (κ×ν)
 |[]=>[]
 |(k',v')::r=>if k=k' then r else(k',v')::qh k r
variable {ek : A.EK} {eK : κ → AV} {eV : ν → AV} (hq : ∀ a b, A.eB ek (eK a) (eK b) = some (decide (a = b)))
include hq
theorem Cf (k:κ):∀l:List (κ×ν),A.find ek (eK k) (l.map fun p=>(eK p.1,eV p.2))=some ((bM k l).map eV)
 |[]=>rfl
 |(k',v)::r=>by
  simp only[List.map_cons,A.find,hq,Option.bind_some,bM]
  by_cases h:k=k'
  ·simp [h]
  ·simp [h,Cf k r]
theorem DP (k:κ) (v:ν):∀l:List (κ×ν),A.upd ek (eK k) (eV v) (l.map fun p=>(eK p.1,eV p.2))=some ((dz k v l).map fun p=>(eK p.1,eV p.2))
 |[]=>rfl
 |(k',v')::r=>by
  simp only[List.map_cons,A.upd,hq,Option.bind_some,dz]
  by_cases h:k=k'
  ·simp [h]
  ·simp [h,DP k v r]
theorem aa7 (k:κ):∀l:List (κ×ν),A.del ek (eK k) (l.map fun p=>(eK p.1,eV p.2))=some ((qh k l).map fun p=>(eK p.1,eV p.2))
 |[]=>rfl
 |(k',v')::r=>by
  simp only[List.map_cons,A.del,hq,Option.bind_some,qh]
  by_cases h:k=k'
  ·simp [h]
  ·simp [h,aa7 k r]
end
theorem Zr (a b:ByteArray):A.eB .z (.str a) (.str b)=some (decide (a=b)):=by
 simp only[A.eB,A.qu,bq]
theorem getD_map {α:Type} (o:Option α) (f:α→AV) (d:α):(o.map f).getD (f d)=f (o.getD d):=by cases o<;>rfl
theorem isSome_map {α:Type} (o:Option α) (f:α→AV):(o.map f).isSome=o.isSome:=by cases o<;>rfl
def uS {κ ν:Type} (eK:κ→AV) (eV:ν→AV) (l:List (κ×ν)):AV:=.fm (l.map fun p=>(eK p.1,eV p.2))
section
variable {κ ν : Type} [DecidableEq κ] {ek : A.EK} {eK : κ → AV} {eV : ν → AV} {aD σ : Heap} {L : List (AV × Ct)} {h : AV} {l : List (κ × ν)}
theorem RB (H:Hp aD σ L) (k:Nat) (hk:L[k]? =some (h,.m (l.map fun p=>(eK p.1,eV p.2)))) (hq:∀a b,A.eB ek (eK a) (eK b)=some (decide (a=b))) (x:κ) (v:ν) (hok:A.jB ek (eK x)=true):∃σ',A.eA ek h (eK x) (eV v) σ=some σ'∧Hp aD σ' (L.set k (h,.m ((dz x v l).map fun p=>(eK p.1,eV p.2)))):=akz H hk hok (DP hq x v l)
theorem akw (H:Hp aD σ L) (k:Nat) (hk:L[k]? =some (h,.m (l.map fun p=>(eK p.1,eV p.2)))) (hq:∀a b,A.eB ek (eK a) (eK b)=some (decide (a=b))) (x:κ) (hok:A.jB ek (eK x)=true):∃σ',A.Ec ek h (eK x) σ=some σ'∧Hp aD σ' (L.set k (h,.m ((qh x l).map fun p=>(eK p.1,eV p.2)))):=aky H hk hok (aa7 hq x l)
theorem aja (H:Hp aD σ L) (k:Nat) (hk:L[k]? =some (h,.m (l.map fun p=>(eK p.1,eV p.2)))) (hq:∀a b,A.eB ek (eK a) (eK b)=some (decide (a=b))) (x:κ) (z:ν) (hok:A.jB ek (eK x)=true):A.look ek h (eK x) (eV z) σ=some (eV ((bM x l).getD z)):=by
 rw[akx H hk hok (Cf hq x l),getD_map]
theorem ai6 (hq:∀a b,A.eB ek (eK a) (eK b)=some (decide (a=b))) (x:κ) (z:ν) (hok:A.jB ek (eK x)=true):A.look ek (uS eK eV l) (eK x) (eV z) σ=some (eV ((bM x l).getD z)):=by
 simp only[A.look,uS,hok,cond_true,A.entries,Option.bind_some,Cf hq,Option.map_some,getD_map]
end
section
variable {α : Type} {c : α → List AV} {l ys : List α} {aD σ : Heap} {L : List (AV × Ct)} {h : AV} {sz : Nat}
end
end
section
def iH {α:Type} (f:Nat→α→Int):List α→Nat→Int
 |[],_=>0
 |x::l,i=>if f i x=0 then iH f l (i+1)else f i x
section
variable {α β γ S B R : Type}
theorem wM {f:Nat→α→Int}:∀(l:List α) (i:Nat),iH f l i=0↔∀j x,l[j]? =some x→f (i+j) x=0
 |[],i=>by simp [iH]
 |y::l,i=>by
  rw[iH]
  by_cases h:f i y=0
  ·rw[if_pos h,wM l (i+1)]
   constructor
   ·intro k j x hx
    cases j with
    |zero=>simp at hx;subst hx;exact h
    |succ j=>have:=k j x (by simpa using hx);rwa[show i+1+j=i+(j+1) by omega]at this
   ·intro k j x hx
    have:=k (j+1) x (by simpa using hx)
    rwa[show i+(j+1)=i+1+j by omega]at this
  ·rw[if_neg h]
   exact⟨fun e=>absurd e h,fun k=>absurd (k 0 y rfl) h⟩
theorem Iy {l:List α} {body:Nat→α→S→Option (Lr S B R)} {fin:S→Option B} {s:S} {K1:B→Option γ} {K2:R→Option γ} (hl:l.length≤aU):lV l body fin s K1 K2=(mO body fin l 0 s).bind fun q=>q.elim K1 K2:=if_pos hl
theorem BW {f:Nat→α→Int} {l:List α} {body:Nat→α→Unit→Option (Lr Unit Unit Int)} {fin:Unit→Option Unit} {s:Unit} {K1:Unit→Option γ} {K2:Int→Option γ} (hl:l.length≤aU) (hb:∀i x,l[i]? =some x→body i x ()=some (if f i x=0 then .go ()else .ret (f i x))) (hf:fin ()=some ():=by rfl):lV l body fin s K1 K2=if iH f l 0=0 then K1 ()else K2 (iH f l 0):=by
 rw[Iy hl]
 have key:∀(rest pre:List α),l=pre++rest→mO body fin rest pre.length ()=some (if iH f rest pre.length=0 then .inl ()else .inr (iH f rest pre.length)):=by
  intro rest
  induction rest with
  |nil=>intro pre _;simp [mO,hf,iH]
  |cons x rest ih=>
   intro pre hp
   rw[mO,hb pre.length x (by rw[hp];simp),Option.bind_some,iH]
   by_cases h:f pre.length x=0
   ·simp only[h,if_true]
    have:=ih (pre++[x]) (by simpa using hp)
    simpa using this
   ·simp only[h,if_false]
 have k:=key l [] rfl
 rw[List.length_nil]at k
 rw[show s=()from rfl,k,Option.bind_some]
 split<;>rfl
theorem Gg {p:Prop} [Decidable p] {k f:Int} {Y:Option (Lr Unit Unit Int)} (hk:k≠0) (h:Y=some (if f=0 then .go ()else .ret f)):(if p then some (.ret k)else Y)=some (if(if p then k else f)=0 then .go ()else .ret (if p then k else f)):=by
 by_cases hp:p
 ·simp [hp,hk]
 ·simp [hp,h]
theorem go_ret:(some (.go ()):Option (Lr Unit Unit Int))=some (if(0:Int)=0 then .go ()else .ret 0):=rfl
theorem Yq (k:Int):(if k=0 then some (.go ())else some (.ret k):Option (Lr Unit Unit Int))=some (if k=0 then .go ()else .ret k):=by split<;>rfl
theorem ahQ {p:α→Bool} {l:List α} {body:Nat→α→Unit→Option (Lr Unit Unit R)} {r:α→R} {fin:Unit→Option Unit} {s:Unit} {K1:Unit→Option γ} {K2:R→Option γ} (hl:l.length≤aU) (hb:∀i x,l[i]? =some x→body i x ()=some (if p x=true then .ret (r x)else .go ())) (hf:fin ()=some ():=by rfl):lV l body fin s K1 K2=match l.find? p with|some x=>K2 (r x)|none=>K1 ():=by
 rw[Iy hl]
 have key:∀(rest pre:List α),l=pre++rest→mO body fin rest pre.length ()=some (match rest.find? p with|some x=>.inr (r x)|none=>.inl ()):=by
  intro rest
  induction rest with
  |nil=>intro pre _;simp [mO,hf]
  |cons x rest ih=>
   intro pre hp
   rw[mO,hb pre.length x (by rw[hp];simp),Option.bind_some,List.find?_cons]
   cases h:p x
   ·simp only[Bool.false_eq_true,if_false]
    have:=ih (pre++[x]) (by simpa using hp)
    simpa using this
   ·simp only[if_true]
 have k:=key l [] rfl
 rw[List.length_nil]at k
 rw[show s=()from rfl,k,Option.bind_some]
 cases l.find? p<;>rfl
theorem L5 {l:List α} {body:Nat→α→S→Option (Lr S B R)} {fin:S→Option B} {s:S} {K1:B→Option γ} {K2:R→Option γ} (g:S→α→S) (P:Nat→S→Prop) (hl:l.length≤aU) (h0:P 0 s) (hP:∀i x s,l[i]? =some x→P i s→P (i+1) (g s x)) (hb:∀i x s,l[i]? =some x→P i s→body i x s=some (.go (g s x))):lV l body fin s K1 K2=(fin (l.foldl g s)).bind K1:=by
 rw[Iy hl]
 have key:∀(rest pre:List α) (s:S),l=pre++rest→P pre.length s→mO body fin rest pre.length s=(fin (rest.foldl g s)).map .inl:=by
  intro rest
  induction rest with
  |nil=>intro pre s _ _;simp [mO]
  |cons x rest ih=>
   intro pre s hp hq
   have hx:l[pre.length]? =some x:=by rw[hp];simp
   rw[mO,hb pre.length x s hx hq,Option.bind_some,List.foldl_cons]
   have:=ih (pre++[x]) (g s x) (by simpa using hp) (by simpa using hP _ _ _ hx hq)
   simpa using this
 have k:=key l [] s rfl h0
 rw[List.length_nil]at k
 rw[k]
 cases fin (l.foldl g s)<;>rfl
def pv [Inhabited α] (l:List α) (i:Nat):α:=if 0<i then l.getD (i-1) default else default
theorem RS {l:List α} {i:Int} {x:α} (h0:0≤i) (h:l[i.toNat]? =some x):vi l i=some x:=by rw[vi,if_pos h0,h]
theorem Gi [Inhabited α] {l:List α} {i:Nat} {x:α} (h:l[i]? =some x) (hl:l.length≤aU):(if decide (0<(i:Int))=true then vi l (IntKind.i64.wrap ((i:Int) -1))else some default)=some (pv l i):=by
 have hi:=(List.getElem?_eq_some_iff.1 h).1
 unfold pv
 by_cases h0:0<i
 ·rw[if_pos (by simpa using h0),if_pos h0,wrap64 (by unfold aM;unfold aU at hl;omega)]
  refine RS (by omega) ?_
  have:((i:Int) -1).toNat=i-1:=by omega
  rw[this,List.getD,List.getElem?_eq_getElem (by omega)]
  rfl
 ·rw[if_neg (by simpa using h0),if_neg h0]
theorem Sg {a b:Int}:(([a,b]:List Int).find? fun n=>decide (¬n=0)).getD 0=if ¬(a=0)then a else b:=by
 by_cases ha:a=0
 ·by_cases hb:b=0<;>simp [ha,hb,List.find?]
 ·simp [ha,List.find?]
end
theorem MD (s:ByteArray):s.toList=s.data.toList:=ByteArray.toList_eq s
theorem Rv:∀(a b:List UInt8),Lib.compareBytes a b<0↔Op.bytesLess a b=true
 |[],[]=>by simp [Lib.compareBytes,Op.bytesLess]
 |[],_::_=>by simp [Lib.compareBytes,Op.bytesLess]
 |_::_,[]=>by simp [Lib.compareBytes,Op.bytesLess]
 |a::x,b::y=>by
  rw[Lib.compareBytes,Op.bytesLess]
  by_cases h1:a<b
  ·simp [h1]
  ·by_cases h2:b<a
   ·have:a≠b:=by rintro rfl;exact h1 h2
    simp [h1,h2,this]
   ·have:a=b:=UInt8.le_antisymm (UInt8.not_lt.1 h2) (UInt8.not_lt.1 h1)
    subst this
    simp [UInt8.lt_irrefl,Rv x y]
theorem Ru:∀(a b:List UInt8),Lib.compareBytes a b=0↔a=b
 |[],[]=>by simp [Lib.compareBytes]
 |[],_::_=>by simp [Lib.compareBytes]
 |_::_,[]=>by simp [Lib.compareBytes]
 |a::x,b::y=>by
  rw[Lib.compareBytes]
  by_cases h1:a<b
  ·have:a≠b:=by rintro rfl;exact UInt8.lt_irrefl _ h1
   simp [h1,this]
  ·by_cases h2:b<a
   ·have:a≠b:=by rintro rfl;exact UInt8.lt_irrefl _ h2
    simp [h1,h2,this]
   ·have:a=b:=UInt8.le_antisymm (UInt8.not_lt.1 h2) (UInt8.not_lt.1 h1)
    subst this
    simp [UInt8.lt_irrefl,Ru x y]
def fq (a b:aB):Bool:=decide (a.unit<b.unit)||(decide (a.unit=b.unit)&&Op.bytesLess a.param.toList b.param.toList)
def vO (a b:aB):Int:=if ¬(a.unit=b.unit)then(if a.unit<b.unit then -1 else 1)else Lib.compareBytes a.param.data.toList b.param.data.toList
theorem Rw (a b:aB):vO a b<0↔fq a b=true:=by
 unfold vO fq
 by_cases h:a.unit=b.unit
 ·simp [h,MD,Rv]
 ·by_cases h2:a.unit<b.unit<;>simp [h,h2]
theorem aj5 (a b:aB):decide (0≤vO a b)=!fq a b:=by
 have:=Rw a b
 cases h:fq a b
 ·rw[h]at this;simp at this;simp [this]
 ·rw[h]at this;simp at this;simp [this]
theorem aj4 (a b:aB):vO a b=0↔a=b:=by
 obtain⟨u,p⟩:=a
 obtain⟨v,q⟩:=b
 unfold vO
 by_cases h:u=v
 ·subst h
  simp only[not_true_eq_false,if_false,Ru,aB.mk.injEq,true_and]
  exact⟨fun e=>by obtain⟨⟨p⟩⟩:=p;obtain⟨⟨q⟩⟩:=q;simp at e;subst e;rfl,fun e=>by rw[e]⟩
 ·by_cases h2:u<v<;>simp [h,h2]
end
section
open Go.Sort
theorem Z9:∀a:List UInt8,Op.bytesLess a a=false
 |[]=>rfl
 |x::l=>by simp [Op.bytesLess,UInt8.lt_irrefl,Z9 l]
theorem Yh:∀a b c:List UInt8,Op.bytesLess a b=true→Op.bytesLess b c=true→Op.bytesLess a c=true
 |[],[],c,h,_=>by simp [Op.bytesLess]at h
 |[],_::_,[],_,k=>by simp [Op.bytesLess]at k
 |[],_::_,_::_,_,_=>rfl
 |_::_,[],c,h,_=>by simp [Op.bytesLess]at h
 |_::_,_::_,[],_,k=>by simp [Op.bytesLess]at k
 |x::a,y::b,z::c,h,k=>by
  rw[Op.bytesLess]at h k ⊢
  simp only[Bool.or_eq_true,Bool.and_eq_true,decide_eq_true_eq,beq_iff_eq]at h k ⊢
  rcases h with h|⟨rfl,h⟩<;>rcases k with k|⟨rfl,k⟩
  ·exact .inl (UInt8.lt_trans h k)
  ·exact .inl h
  ·exact .inl k
  ·exact .inr ⟨rfl,Yh a b c h k⟩
theorem B8 (a:aB):fq a a=false:=by simp [fq,Z9]
theorem FV {a b c:aB} (h:fq a b=true) (k:fq b c=true):fq a c=true:=by
 simp only[fq,Bool.or_eq_true,Bool.and_eq_true,decide_eq_true_eq]at h k ⊢
 rcases h with h|⟨h1,h2⟩<;>rcases k with k|⟨k1,k2⟩
 ·left;omega
 ·left;omega
 ·left;omega
 ·right;exact⟨by omega,Yh _ _ _ h2 k2⟩
theorem RF {a b:aB} (h:fq a b=false) (k:fq b a=false):a=b:=by
 rw[←aj4]
 have h1:¬vO a b<0:=fun e=>by rw[(Rw a b).1 e]at h;cases h
 have hba:vO b a=-vO a b∨True:=.inr trivial
 -- what is neither smaller nor greater is the same
 unfold vO at h1 ⊢
 simp only[fq,Bool.or_eq_false_iff,Bool.and_eq_false_iff,decide_eq_false_iff_not]at h k
 have hu:a.unit=b.unit:=by omega
 simp only[hu,not_true_eq_false,if_false]at h1 ⊢
 have e1:Op.bytesLess a.param.data.toList b.param.data.toList=false:=by
  rcases h.2 with q|q
  ·exact absurd hu q
  ·simpa [MD]using q
 have e2:Op.bytesLess b.param.data.toList a.param.data.toList=false:=by
  rcases k.2 with q|q
  ·exact absurd hu.symm q
  ·simpa [MD]using q
 rw[Ru]
 have tri:∀x y:List UInt8,Op.bytesLess x y=false→Op.bytesLess y x=false→x=y:=by
  intro x
  induction x with
  |nil=>intro y p q;cases y with|nil=>rfl|cons y l=>simp [Op.bytesLess]at p
  |cons x xs ih=>
   intro y p q
   cases y with
   |nil=>simp [Op.bytesLess]at q
   |cons y ys=>
    rw[Op.bytesLess]at p q
    by_cases h1:x<y
    ·simp [h1]at p
    ·by_cases h2:y<x
     ·simp [h2]at q
     ·have:x=y:=UInt8.le_antisymm (UInt8.not_lt.1 h2) (UInt8.not_lt.1 h1)
      subst this
      simp [h1]at p q
      rw[ih ys p q]
 exact tri _ _ e1 e2
theorem BU (a b:aB):qN a b<0↔fq a b=true:=Rw a b
theorem Gj {α:Type} (f:α→aB):SWO (fun x y=>decide (qN (f x) (f y)<0)):=by
 refine⟨fun x=>?_,fun x y z h k=>?_,fun x y z h k=>?_⟩
 ·exact decide_eq_false fun h=>by rw[BU,B8]at h;cases h
 ·have h:=(BU _ _).1 (of_decide_eq_true h)
  have k:=(BU _ _).1 (of_decide_eq_true k)
  exact decide_eq_true ((BU _ _).2 (FV h k))
 ·have h:fq (f x) (f y)=false:=by
   cases q:fq (f x) (f y)
   ·rfl
   ·exact absurd ((BU _ _).2 q) (of_decide_eq_false h)
  have k:fq (f y) (f z)=false:=by
   cases q:fq (f y) (f z)
   ·rfl
   ·exact absurd ((BU _ _).2 q) (of_decide_eq_false k)
  refine decide_eq_false fun q=>?_
  have q:=(BU _ _).1 q
  cases e:fq (f y) (f x)
  ·have:=RF h e
   rw[this,k]at q;cases q
  ·have:=FV e q
   rw[k]at this;cases this
theorem WE (x y:bk) (h:cL x=cL y):x=y:=by
 obtain⟨⟨a,b⟩,⟨p,q⟩,r⟩:=x
 obtain⟨⟨a',b'⟩,⟨p',q'⟩,r'⟩:=y
 simp [cL]at h
 obtain⟨rfl,rfl,rfl,rfl,rfl⟩:=h
 rfl
end
section
open Go.RowKit Go.Sort
set_option maxRecDepth 100000
theorem aft {α:Type} [Inhabited α] {enc:α→List Value} {k:Nat} (hk:∀x,(enc x).length=k) {w:World} {b off n:Nat} {d d':Array α} {os:Array Obj} {arr:Array Value} {bt:TypeId} (hs:d'.size=d.size)
  (hb:w.heap[b]? =some (.cells arr bt (0,0))) (hfit:off+d.size*k≤arr.size):
  Below w.heap.size (w.dW b (.cells (gb arr off (d'.toList.flatMap enc)) bt (0,0))) (sortWorldK enc k w b off n d' os):=by
 have hlt:b<w.heap.size:=(Array.getElem?_eq_some_iff.1 hb).1
 have hfl:(d'.toList.flatMap enc).length=d'.size*k:=by
  have:∀l:List α,(l.flatMap enc).length=l.length*k:=by
   intro l
   induction l with
   |nil=>simp
   |cons x l ih=>simp [hk,ih,Nat.add_mul];omega
  rw[this,Array.length_toList]
 have kj:∀(l:List α) (t:Nat),t<l.length*k→(l.flatMap enc)[t]? =some ((enc l.toArray[t / k]!)[t % k]!):=by
  intro l
  induction l with
  |nil=>intro t ht;simp at ht
  |cons x l ih=>
   intro t ht
   have hk0:0<k:=Nat.pos_of_ne_zero fun e=>by subst e;simp at ht
   rw[List.flatMap_cons]
   by_cases h:t<k
   ·rw[List.getElem?_append_left (by rw[hk];exact h),Nat.div_eq_of_lt h,Nat.mod_eq_of_lt h]
    simp [hk,h]
   ·rw[List.getElem?_append_right (by rw[hk];omega),hk,ih (t-k) (by simp [Nat.add_mul]at ht;omega)]
    have e1:t / k=(t-k) / k+1:=by rw[Nat.div_eq_sub_div hk0 (by omega)]
    have e2:t % k=(t-k) % k:=by rw[Nat.mod_eq_sub_mod (by omega)]
    rw[e1,e2]
    simp
 have hcells:putCells id off (flatK enc k d') arr=gb arr off (d'.toList.flatMap enc):=by
  apply Array.ext_getElem?
  intro j
  rw[DC _ _ _ (by rw[hfl,hs];omega)]
  simp only[putCells,Array.getElem?_mapIdx,size_flatK]
  by_cases hj:off≤j∧j<off+d'.size*k
  ·rw[if_pos (by rw[hfl];exact hj)]
   have hja:j<arr.size:=by rw[hs]at hj;omega
   rw[Array.getElem?_eq_getElem hja,Option.map_some,if_pos hj]
   have:=kj d'.toList (j-off) (by rw[Array.length_toList];omega)
   rw[this]
   simp only[id]
   rw[get_flatK _ _ _ _ (by omega)]
  ·rw[if_neg (by rw[hfl];exact hj)]
   by_cases hja:j<arr.size
   ·rw[Array.getElem?_eq_getElem hja,Option.map_some,if_neg hj]
   ·rw[Array.getElem?_eq_none (by omega),Option.map_none]
 refine⟨rfl,rfl,rfl,?_,fun i hi=>?_⟩
 ·rw[zZ]
  simp [sortWorldK,grow,putRowK,putRow,mapBlock,Sort.ahead]
 ·have hi':i<(putRowK enc k (Sort.ahead w n) b off d').heap.size:=by simp [putRowK,putRow,mapBlock,Sort.ahead];exact hi
  show(grow (putRowK enc k (Sort.ahead w n) b off d') os).heap[i]? =_
  unfold grow
  simp only
  rw[Array.getElem?_append_left hi']
  simp only[putRowK,putRow,mapBlock,Sort.ahead]
  rw[Array.getElem?_modify]
  by_cases h:b=i
  ·subst h
   rw[if_pos rfl,vq _ hlt,hb]
   simp only[Option.map_some,onCells,hcells]
  ·rw[if_neg h,yF _ h]
theorem ahh {P:Program} {nm:List Nat} {f g:FuncId} {α:Type} [Inhabited α] {sz:Nat} {c:α→List AV} {enc:α→List Value} {cf:α→α→Int} (hsz:0<sz) (hinj:∀x y,c x=c y→x=y) (fT:∀x,(c x).length=sz)
  (uB:∀cc x,aJ cc (c x) (enc x)) (am2:∀cc x vs,aJ cc (c x) vs→vs=enc x) (hone:∀x,∀v∈enc x,dK v=true)
  (hf:∀us w,(callFunc f us).run P w=.ok (.enter f us) w) (hnone:∀w,Calls P f #[.slice none 0 0,.func (.func g) #[] #[]] w fun e w'=>e=.returned (.tuple #[])∧Below w.heap.size w w')
  (amV:∀(blk off cap:Nat) (d:Array α) (w:World),HoldsK enc sz w blk off d→blk<w.heap.size→d.size<4611686018427387904→Calls P f #[.slice (some ⟨blk,off,none⟩) d.size cap,.func (.func g) #[] #[]] w fun e w'=>
   e=.returned (.tuple #[])∧∃n os,w'=sortWorldK enc sz w blk off n (pdq (fun x y=>decide (cf x y<0)) d 0 d.size (Lib.bitLen d.size) true true) os)
  (hsize:∀d:Array α,(pdq (fun x y=>decide (cf x y<0)) d 0 d.size (Lib.bitLen d.size) true true).size=d.size)
  {x:AV} {σ:Heap} {r:AV} {σ':Heap} (hm:A.IY sz c cf x σ=some (r,σ')) {n:Nat} (hn:∀f,nm.getD f 0=n→f=g):nA P nm f [x,.fn n []] σ r σ':=by
 refine .inl ⟨f,hf,fun z vs e1 e2 hh ha=>?_⟩
 obtain⟨v,u,rfl,r1,r2⟩:=Sw ha
 simp only[ak]at r2
 obtain⟨f',us,rfl,k1,k2⟩:=r2
 have hf':f'=g:=hn f' (by rw[←e1];exact k1)
 have UB:us=#[]:=by simp only[aJ]at k2;exact Array.toList_inj.1 k2
 subst hf' UB
 have hout:Out z z.w z.E:=⟨rfl,rfl,rfl,Nat.le_refl _,fun _ _ _=>rfl,fun i p hp=>.inr ⟨p,hp,rfl⟩,fun i p hp=>⟨p,hp,.inl rfl⟩,e2,fun p hp=>hh.lt hp⟩
 unfold A.IY at hm
 cases x<;>simp only at hm<;>first|(cases hm;done)|skip
 case aq=>
  simp only[Option.some.injEq,Prod.mk.injEq]at hm
  obtain⟨rfl,rfl⟩:=hm
  simp only[ak]at r1;subst r1
  refine(hnone z.w).mono ?_
  rintro e w' ⟨rfl,hb⟩
  exact⟨_,z.E,rfl,hout.grow hb,hh.mono (wR hb) rfl (fun p hp=>hb.block _ (hh.lt hp)),by simp [ak,aJ]⟩
 case os=>
  rename_i id gg fO off len
  simp only[ak]at r1
  obtain⟨hg,p,k3,k4,qa,cap,rfl,hcap,rx⟩:=r1
  split at hm
  ·rename_i g' sz' es hs
   split at hm
   ·rename_i hc
    obtain⟨⟨c1,c2,c3,c4,c5,c6⟩,c7⟩:=hc
    subst c1;subst c2;subst c3
    simp only[Option.some.injEq,Prod.mk.injEq]at hm
    obtain⟨rfl,rfl⟩:=hm
    have hl:=Classical.choose_spec c7
    generalize Classical.choose c7=l at hl ⊢
    obtain⟨j1,j2,j3,j4,⟨arr,bt,j5,j6⟩,j7,j8,j9⟩:=hh.blk id p _ k3 hs
    obtain⟨q1,q2,q3⟩:=rx j1.symm
    have yg:qa=⟨p.b,p.base+off*p.sz,none⟩:=q2.resolve_left (by omega)
    have C4:l.length=len:=by
     have:=congrArg List.length hl
     simp at this;omega
    have hmul:(off+len)*fO≤es.length*fO:=Nat.mul_le_mul_right _ c4
    rw[Nat.add_mul]at hmul
    have zJ:z.w.heap[p.b]? =some (.cells arr bt (0,0)):=j5
    have hlt:p.b<z.w.heap.size:=(Array.getElem?_eq_some_iff.1 zJ).1
    have aoG:p.sz=fO:=q1
    have alS:HoldsK enc fO z.w p.b (p.base+off*fO) l.toArray:=by
     intro t ht
     simp only[size_flatK,List.size_toArray]at ht
     rw[get_flatK _ _ _ _ (by simpa using ht)]
     have rF:t / fO<l.length:=by rw[Nat.div_lt_iff_lt_mul hsz];exact ht
     have yf:es[off+t / fO]? =some (c l[t / fO]):=by
      have h1:((es.drop off).take len)[t / fO]? =(l.map c)[t / fO]? :=by rw[hl]
      rw[List.getElem?_take_of_lt (by omega),List.getElem?_drop,List.getElem?_map,List.getElem?_eq_getElem rF]at h1
      exact h1
     obtain⟨_,m2⟩:=bC.nth j8 yf
     obtain⟨vs,m3,m4,m5⟩:=m2.Kq
     have m6:=am2 _ _ _ m3
     subst m6
     have hmod:t % fO<(enc l[t / fO]).length:=by rw[←(uB (ctx z z.w z.E cM) _).length,fT];exact Nat.mod_lt _ hsz
     have m7:=m5 (t % fO) _ (List.getElem?_eq_getElem hmod)
     have e:p.base+(off+t / fO)*fO+t % fO=p.base+off*fO+t:=by
      have:=Nat.div_add_mod t fO
      rw[Nat.add_mul,Nat.mul_comm (t / fO)];omega
     rw[e]at m7
     refine⟨?_,by simp [World.frozen?,zJ]⟩
     rw[show z.w.cell? ⟨p.b,p.base+off*fO+t,none⟩=_ from m7]
     simp [rF,hmod]
    have D8:=amV p.b (p.base+off*fO) cap l.toArray z.w alS hlt (by simpa [C4]using c6)
    rw[yg,aoG]
    simp only[List.size_toArray,C4]at D8
    refine D8.mono ?_
    rintro e w' ⟨rfl,nn,os,rfl⟩
    have hd':=hsize l.toArray
    simp only[List.size_toArray,C4]at hd'
    generalize qv:pdq (fun x y=>decide (cf x y<0)) l.toArray 0 len (Lib.bitLen len) true true=d' at hd' ⊢
    have hsw:=aft (enc:=enc) (k:=fO) (fun x=>by rw[←(uB (ctx z z.w z.E cM) x).length,fT]) (w:=z.w) (b:=p.b) (off:=p.base+off*fO) (n:=nn) (d:=l.toArray) (d':=d') (os:=os) (by rw[hd'];simp [C4]) zJ (by simp [C4];rw[j6];omega)
    have aoL:St ⟨P,nm,fun _ _ _=>none,fun _ _ _=>none,[],[],0,[]⟩ z ⟨[],fun _=>none,σ⟩ {tmps:=#[],defers:=[]} z.w z.E cM:=
     ⟨rfl,rfl,fun i av hi=>by simp at hi,fun i cs hi=>by simp at hi,fun t p hp=>(by cases hp),fun i b hb=>(by cases hb),fun i j b hb=>(by cases hb),hh,rfl,hout,e1.symm⟩
    have hnl:(d'.toList.map c).length=len:=by rw[List.length_map,Array.length_toList,hd']
    obtain⟨_,hst⟩:=Mj aoL (i:=off) (ys:=d'.toList.map c) (news:=d'.toList.flatMap enc) k3 hs j5 (by rw[hnl];exact c4) (by
      generalize d'.toList=l'
      induction l' with
      |nil=>simp [aJ]
      |cons x l' ih=>simp only[List.map_cons,List.flatten_cons,List.flatMap_cons];exact(uB _ x).append ih)
     (fun x hx=>by obtain⟨y,_,hy⟩:=List.mem_flatMap.1 hx;exact hone y x hy) (fun y hy=>by obtain⟨x,_,rfl⟩:=List.mem_map.1 hy;exact fT x)
     (by
      have:∀l:List α,(l.flatMap enc).length=l.length*fO:=by
       intro l
       induction l with
       |nil=>simp
       |cons x l ih=>simp only[List.flatMap_cons,List.length_append,ih,←(uB (ctx z z.w z.E cM) x).length,fT,List.length_cons,Nat.add_mul];omega
      rw[this,List.length_map])
    have xG:=hst.grow (w':=sortWorldK enc fO z.w p.b (p.base+off*fO) nn d' os) (by rw[zZ];exact hsw)
    refine⟨_,z.E,rfl,xG.out,?_,by simp [ak,aJ]⟩
    have hpd:uF cf l=d'.toList:=by unfold uF;rw[C4,qv]
    rw[hnl]at xG
    rw[hpd]
    exact xG.heap
   ·cases hm
  ·cases hm
def wQ (x:bk):List Value:=[.int .i64 x.key.unit,.string x.key.param,.int .i64 x.value.level,.int .i64 x.value.gh,.int .i64 x.bZ]
theorem Rg {W:World} {o1 o2:Obj}:∃q os',(W.alloc o1).alloc o2=grow (W.drewN q) os':=⟨0,_,by rw[alloc_eq_grow,alloc_eq_grow,grow_grow];rfl⟩
theorem ahU {W:World} {o1 o2:Obj} {q:Nat} {os:Array Obj}:∃q' os',grow (((W.alloc o1).alloc o2).drewN q) os=grow (W.drewN q') os':=⟨q,_,by rw[alloc_eq_grow,alloc_eq_grow,grow_grow];show grow (grow (W.drewN q) _) os=_;rw[grow_grow]⟩
theorem ae7 (a b:aB) (W:World):Calls Tryz.prog 100 #[.agg #[.int .i64 a.unit,.string a.param],.agg #[.int .i64 b.unit,.string b.param]] W fun e w'=>e=.returned (.int .i64 (qN a b))∧∃q os',w'=grow (W.drewN q) os':=by
 have D8:=fun(x y:ByteArray) W'=>Tryz.strings_Compare x y W'
 go_enter Tryz.func100,Tryz.ntmps100
 go_wp2_with (go_at_call 107;refine(D8 _ _ _).mono ?_;rintro e w' ⟨rfl,rfl⟩)
 ·go_ret
  have h1:a.unit≠b.unit:=by omega
  exact⟨by rw[qN,if_pos h1,if_pos (by omega)];rfl,Rg⟩
 ·go_ret
  have h1:a.unit≠b.unit:=by simpa using ‹(a.unit !=b.unit)=true›
  exact⟨by rw[qN,if_pos h1,if_neg (by omega)];rfl,Rg⟩
 ·go_ret
  have h1:a.unit=b.unit:=by first|simpa using ‹(a.unit !=b.unit)=false›|simpa using ‹¬(a.unit !=b.unit)=true›|omega
  exact⟨by rw[qN,if_neg (by simpa using h1)];rfl,Rg⟩
theorem air (cc:RC) (x:bk):aJ cc (cL x) (wQ x):=by
 obtain⟨⟨a,b⟩,⟨p,q⟩,r⟩:=x
 simp [cL,wQ,aJ,ak]
theorem ahl (cc:RC) (x:bk) (vs:List Value) (e:aJ cc (cL x) vs):vs=wQ x:=by
 obtain⟨⟨a,b⟩,⟨p,q⟩,r⟩:=x
 simpa [cL,wQ,aJ,ak]using e
theorem XO (x:bk) (v:Value) (h:v∈wQ x):dK v=true∧v.oneCell'=true:=by
 simp [wQ]at h
 rcases h with rfl|rfl|rfl|rfl|rfl<;>exact⟨rfl,rfl⟩
theorem aju {α:Type} [Inhabited α] {cf:α→α→Int} (hS:SWO (fun x y=>decide (cf x y<0))) (d:Array α):(pdq (fun x y=>decide (cf x y<0)) d 0 d.size (Lib.bitLen d.size) true true).size=d.size:=
 (pdq_sorts (fun x y=>decide (cf x y<0)) hS d 0 d.size (Lib.bitLen d.size) true true (Nat.zero_le _) (Nat.le_refl _) (Or.inl rfl)).1.1
theorem aeY (a b:bk) (W:World):Calls Tryz.prog 99 #[.agg (wQ a).toArray,.agg (wQ b).toArray] W fun e w'=>e=.returned (.int .i64 (qN a.key b.key))∧∃q os',w'=grow (W.drewN q) os':=by
 have D8:=fun W'=>ae7 a.key b.key W'
 unfold wQ
 generalize qN a.key b.key=r at D8 ⊢
 go_enter Tryz.func99,Tryz.ntmps99
 go_wp2_with (go_at_call 100;refine(D8 _).mono ?_;rintro e w' ⟨rfl,q,os',rfl⟩)
 go_ret
 exact⟨rfl,ahU⟩
theorem ab9:Sound Tryz.prog aG 98 Hx:=by
 intro args σ r σ' h
 unfold Hx A.bQ at h
 split at h
 ·rename_i x f aD
  simp only at h
  split at h
  ·have eg:∀args w,(callFunc 99 args).run Tryz.prog w=.ok (.enter 99 args) w:=Tryz.call99
   refine @ahh Tryz.prog aG 98 99 bk ⟨⟨⟨0,⟨#[]⟩⟩,⟨0,0⟩,0⟩⟩ 5 cL wQ (fun a b=>qN a.key b.key) (by decide) (fun x y e=>?_) (fun _=>rfl) (fun cc x=>?_) (fun cc x vs e=>?_) (fun x v hv=>?_) Tryz.call98 (fun w=>?_) (fun blk off cap d w hH hb hd=>?_) (fun d=>?_) _ _ _ _ h _ (fun f hf=>aay (by kernel_rfl) rfl hf)
   ·exact WE x y e
   ·exact air cc x
   ·exact ahl cc x vs e
   ·exact(XO x v hv).1
   ·exact(AnyF.slices_SortFunc_none (P:=Tryz.prog) {Tryz.sort98 with} none 0 _ w).mono fun e w' ⟨h1,h2⟩=>⟨h1,h2▸Below.refl _ _⟩
   ·exact AnyQ.slices_SortFunc_eq Tryz.sort98 5 Tryz.isAgg184 Tryz.sizeOf184 wQ (fun _=>rfl) (fun x v hv=>(XO x v hv).2) (fun a b=>qN a.key b.key) (Gj fun e:bk=>e.key) 99 #[] blk off cap d w eg (fun _ _ _ _ x y=>aeY x y _) hH hb hd
   ·exact aju (Gj fun e:bk=>e.key) d
  ·cases h
 ·cases h
end
section
set_option maxRecDepth 100000
theorem aha:Sound Tryz.prog aG 105 Qo:=q1 [] 35 (.s .n (.s (.s .n (.b (.l [2,7] [.exit 0,.ret] (.s .n (.s dN (.s (.b (.s .n (.s .n bu))) .n)))))) aT)) aC.nil Tryz.func105 Tryz.call105 (fun a0 σ=>by kernel_rfl) rfl rfl
theorem Qe:Sound Tryz.prog aG 85 FJ:=q1 [] 20 (.s .n aT) (aC.cons aha aC.nil) Tryz.func85 Tryz.call85 (fun a0 σ=>by kernel_rfl) rfl rfl
theorem rN:Sound Tryz.prog aG 22 jG:=q3 [] 15 (.s .n aT) aC.nil Tryz.func22 Tryz.call22 (fun a0 a1 a2 σ=>by kernel_rfl) rfl rfl
theorem Vu:Sound Tryz.prog aG 86 HE:=q1 [] 5 (.s .n aT) (aC.cons rN aC.nil) Tryz.func86 Tryz.call86 (fun a0 σ=>by kernel_rfl) rfl rfl
theorem adq:Sound Tryz.prog aG 87 OM:=q1 [5] 63 (.s .n (.s bu (.s .n (.s (.s .n (.b (.l [2,12] [.exit 0,.ret] (.s .n (.s dN (.s (.b (.s .n (.s (.b (.s .n (.j aT (.s .n (.j aT (.s .n (.j aT bu))))))) .n))) .n)))))) aT)))) (aC.cons Vu (aC.cons Qe aC.nil)) Tryz.func87 Tryz.call87 (fun a0 σ=>by kernel_rfl) rfl rfl
theorem adj:Sound Tryz.prog aG 47 OH:=q1 [1,6] 115 (.s .n (.s (.b (.s .n (.j aT (.s .n (.j aT (.s .n (.j aT bu))))))) (.s .n (.s (.s .n (.b (.l [1,2,33] [.exit 1,.ret] (.s .n (.s dN (.s (.b (.s .n (.s (.b (.s .n (.j aT (.s .n (.j aT (.s .n (.j aT (.s .n (.j aT bu))))))))) (.s (.s .n bu) (.s .n (.s .n (.c [1] .n .n))))))) .n)))))) aT)))) (aC.cons Qe (aC.cons rN (aC.cons Vu (aC.cons adq aC.nil)))) Tryz.func47 Tryz.call47 (fun a0 σ=>by kernel_rfl) rfl rfl
theorem adi:Sound Tryz.prog aG 21 OG:=q1 [5] 30 (.s .n (.s bu (.s .n (.s (.s .n (.b (.l [2,13] [.exit 0,.ret] (.s .n (.s dN (.s (.b (.s .n (.s (.s .n bu) (.s bu .n)))) .n)))))) aT)))) (aC.cons adj aC.nil) Tryz.func21 Tryz.call21 (fun a0 σ=>by kernel_rfl) rfl rfl
noncomputable def acA (dyn:Nat→List AV→Heap→Option (AV×Heap)):Fx:=⟨Tryz.prog,aG,A.tab (fun _ _=>none) [],dyn,[],[],19,[]⟩
theorem acz (dyn:Nat→List AV→Heap→Option (AV×Heap)) (hd:∀f,Sound Tryz.prog aG f (dyn (aG.getD f 0))):Sound Tryz.prog aG 48 (A.wrap true [(.s 3)] .k (A.bQ (KJ dyn))):=
 Sound.wrap (Sound.nW (X:=acA dyn) (fn:=Tryz.f48) (bL:=(.s .n (.s (.s .n (.b (.l [4,8] [.exit 0,.ret] (.s .n (.s dN (.s (.b (.s .n bu)) .n)))))) aT))) .F trivial (dB.of rfl aC.nil (hd)) Tryz.func48 Tryz.call48 (fun a0 a1 σ=>by kernel_rfl)) _ _ _ rfl rfl
theorem acy (dyn:Nat→List AV→Heap→Option (AV×Heap)) (hd:∀f,Sound Tryz.prog aG f (dyn (aG.getD f 0))):Sound Tryz.prog aG 48 (KI dyn):=acz dyn hd
theorem Vd:Sound Tryz.prog aG 49 Hz:=q2 [2] 8 (.s .n aT) aC.nil Tryz.func49 Tryz.call49 (fun a0 a1 σ=>by kernel_rfl) rfl rfl
noncomputable def adT:Fx:=⟨Tryz.prog,aG,A.tab (fun _ _=>none) [(48,KI (A.tab (fun _ _=>none) [(64,Hz)]))],(A.tab (fun _ _=>none) [(64,Hz)]),[4],[],17,[]⟩
theorem adQ:Sound Tryz.prog aG 23 (A.wrap true [(.s 3)] (.t [(.a [.k,.k,(.e 7 oV)]),.k]) (A.bQ (Lb))):=
 Sound.wrap (Sound.nW (X:=adT) (fn:=Tryz.f23) (bL:=(.s .n (.s .n (.s bu aT)))) .F trivial (dB.of rfl (aC.cons (acy _ (oO (gL.cons (mL Vd (by kernel_rfl) rfl) gL.nil))) aC.nil) (oO (gL.cons (mL Vd (by kernel_rfl) rfl) gL.nil))) Tryz.func23 Tryz.call23 (fun a0 a1 σ=>by kernel_rfl)) _ _ _ rfl rfl
theorem O8:Sound Tryz.prog aG 23 HF:=adQ
theorem ads:Sound Tryz.prog aG 24 Fk:=q3 [] 32 (.s .n (.s bu (.s (.s .n (.b (.l [6,7] [.exit 0,.ret] (.s (.s .n dN) (.s (.b bu) .n))))) aT))) aC.nil Tryz.func24 Tryz.call24 (fun a0 a1 a2 σ=>by kernel_rfl) rfl rfl
noncomputable def aeG:Fx:=⟨Tryz.prog,aG,A.tab (fun _ _=>none) [],(fun _ _ _=>none),[4],[15],33,[]⟩
theorem aeD:Sound Tryz.prog aG 25 (A.wrap false [] .k (A.ko (HQ))):=
 Sound.wrap (Sound.GY (X:=aeG) (fn:=Tryz.f25) (bL:=(.s .n (.s (.s .n (.c [4] .n .n)) (.s .n (.b (.l [4,6] [.exit 0] (.s (.s .n dN) (.s (.b .n) .n)))))))) .K trivial (dB.of rfl aC.nil (fun _=>Sound.none)) Tryz.func25 Tryz.call25 (fun a0 a1 a2 σ=>by kernel_rfl)) _ _ _ rfl rfl
theorem aey:Sound Tryz.prog aG 25 Lf:=aeD
theorem O0:Sound Tryz.prog aG 8 HD:=q1 [1,6,7] 91 (.s .n (.s (.s .n bu) (.s bu (.s .n (.s (.s .n (.b (.l [1,2,23] [.exit 0,.ret] (.s .n (.s dN (.s (.b (.s .n (.s bu (.s bu (.s .n (.s bu (.s bu (.s bu .n)))))))) .n)))))) aT))))) (aC.cons adi (aC.cons rN (aC.cons O8 (aC.cons ads (aC.cons aey aC.nil))))) Tryz.func8 Tryz.call8 (fun a0 σ=>by kernel_rfl) rfl rfl
noncomputable def ace (dyn:Nat→List AV→Heap→Option (AV×Heap)):Fx:=⟨Tryz.prog,aG,A.tab (fun _ _=>none) [],dyn,[],[],49,[]⟩
theorem acd (dyn:Nat→List AV→Heap→Option (AV×Heap)) (hd:∀f,Sound Tryz.prog aG f (dyn (aG.getD f 0))):Sound Tryz.prog aG 50 (A.wrap true [(.s 4)] .k (A.ko (Fc dyn))):=
 Sound.wrap (Sound.GY (X:=ace dyn) (fn:=Tryz.f50) (bL:=(.s .n (.s .n (.s .n (.s (.b (.l [9,10] [.exit 0] (.s (.s .n dN) (.b (.s .n (.s .n (.c [9,10] .n .n))))))) aT))))) .F trivial (dB.of rfl aC.nil (hd)) Tryz.func50 Tryz.call50 (fun a0 a1 a2 σ=>by kernel_rfl)) _ _ _ rfl rfl
theorem ab8 (dyn:Nat→List AV→Heap→Option (AV×Heap)) (hd:∀f,Sound Tryz.prog aG f (dyn (aG.getD f 0))):Sound Tryz.prog aG 50 (Fb dyn):=acd dyn hd
theorem Vm:Sound Tryz.prog aG 51 Df:=q2 [2] 9 (.s .n aT) aC.nil Tryz.func51 Tryz.call51 (fun a0 a1 σ=>by kernel_rfl) rfl rfl
noncomputable def aeH:Fx:=⟨Tryz.prog,aG,A.tab (fun _ _=>none) [(50,Fb (A.tab (fun _ _=>none) [(428,Df)]))],(A.tab (fun _ _=>none) [(428,Df)]),[2],[],12,[]⟩
theorem aeE:Sound Tryz.prog aG 26 (A.wrap true [(.a [(.s 3),(.s 4)])] .k (A.bQ (Pw))):=
 Sound.wrap (Sound.nW (X:=aeH) (fn:=Tryz.f26) (bL:=(.s .n aT)) .F trivial (dB.of rfl (aC.cons (ab8 _ (oO (gL.cons (mL Vm (by kernel_rfl) rfl) gL.nil))) aC.nil) (oO (gL.cons (mL Vm (by kernel_rfl) rfl) gL.nil))) Tryz.func26 Tryz.call26 (fun a0 a1 σ=>by kernel_rfl)) _ _ _ rfl rfl
theorem aez:Sound Tryz.prog aG 26 HN:=aeE
noncomputable def acH (dyn:Nat→List AV→Heap→Option (AV×Heap)):Fx:=⟨Tryz.prog,aG,A.tab (fun _ _=>none) [],dyn,[],[],19,[]⟩
theorem acG (dyn:Nat→List AV→Heap→Option (AV×Heap)) (hd:∀f,Sound Tryz.prog aG f (dyn (aG.getD f 0))):Sound Tryz.prog aG 52 (A.wrap true [(.s 7)] .k (A.bQ (KM dyn))):=
 Sound.wrap (Sound.nW (X:=acH dyn) (fn:=Tryz.f52) (bL:=(.s .n (.s (.s .n (.b (.l [4,8] [.exit 0,.ret] (.s .n (.s dN (.s (.b (.s .n bu)) .n)))))) aT))) .F trivial (dB.of rfl aC.nil (hd)) Tryz.func52 Tryz.call52 (fun a0 a1 σ=>by kernel_rfl)) _ _ _ rfl rfl
theorem acF (dyn:Nat→List AV→Heap→Option (AV×Heap)) (hd:∀f,Sound Tryz.prog aG f (dyn (aG.getD f 0))):Sound Tryz.prog aG 52 (KL dyn):=acG dyn hd
theorem U8:Sound Tryz.prog aG 53 Hw:=q2 [2] 8 (.s .n aT) aC.nil Tryz.func53 Tryz.call53 (fun a0 a1 σ=>by kernel_rfl) rfl rfl
noncomputable def adz:Fx:=⟨Tryz.prog,aG,A.tab (fun _ _=>none) [(52,KL (A.tab (fun _ _=>none) [(430,Hw)]))],(A.tab (fun _ _=>none) [(430,Hw)]),[2,4],[],19,[]⟩
theorem adx:Sound Tryz.prog aG 27 (A.wrap true [(.a [.k,.k,(.s 7)])] (.t [(.a oV),.k]) (A.bQ (KT))):=
 Sound.wrap (Sound.nW (X:=adz) (fn:=Tryz.f27) (bL:=(.s .n (.s .n (.s bu aT)))) .F trivial (dB.of rfl (aC.cons (acF _ (oO (gL.cons (mL U8 (by kernel_rfl) rfl) gL.nil))) aC.nil) (oO (gL.cons (mL U8 (by kernel_rfl) rfl) gL.nil))) Tryz.func27 Tryz.call27 (fun a0 a1 σ=>by kernel_rfl)) _ _ _ rfl rfl
theorem adv:Sound Tryz.prog aG 27 OP:=adx
theorem aex:Sound Tryz.prog aG 9 Pq:=q2 [2,3,4,8] 38 (.s .n (.s .n (.s bu (.s .n aT)))) (aC.cons aez (aC.cons O8 (aC.cons adv aC.nil))) Tryz.func9 Tryz.call9 (fun a0 a1 σ=>by kernel_rfl) rfl rfl
noncomputable def ac7:Fx:=⟨Tryz.prog,aG,A.tab (fun _ _=>none) [],(fun _ _ _=>none),[],[],8,[]⟩
theorem ac4:Sound Tryz.prog aG 10 (A.wrap true [(.s 3)] .k (A.dH (KR))):=
 Sound.wrap (Sound.xK (X:=ac7) (fn:=Tryz.f10) (bL:=(.s .n (.s bu aT))) .K trivial (dB.of rfl aC.nil (fun _=>Sound.none)) Tryz.func10 Tryz.call10 (fun a0 σ=>by kernel_rfl)) _ _ _ rfl rfl
theorem U7:Sound Tryz.prog aG 10 zU:=zV ac4 Tryz.call10 aiU
theorem aew:Sound Tryz.prog aG 4 Pp:=q2 [2,3,4,7] 29 (.s .n (.s (.s .n bu) (.s .n (.s bu (.s .n aT))))) (aC.cons O0 (aC.cons aex (aC.cons U7 aC.nil))) Tryz.func4 Tryz.call4 (fun a0 a1 σ=>by kernel_rfl) rfl rfl
theorem zW:Sound Tryz.prog aG 15 qE:=q2 [] 7 (.s .n (.s bu aT)) aC.nil Tryz.func15 Tryz.call15 (fun a0 a1 σ=>by kernel_rfl) rfl rfl
theorem Dp:Sound Tryz.prog aG 13 wI:=q1 [] 15 (.s .n (.s (.s .n (.b (.l [2,7] [.exit 0,.ret] (.s .n (.s dN (.s (.b (.s .n bu)) .n)))))) aT)) aC.nil Tryz.func13 Tryz.call13 (fun a0 σ=>by kernel_rfl) rfl rfl
theorem PD:Sound Tryz.prog aG 30 Fw:=q1 [1,7,8,11] 50 (.s .n (.s (.s .n bu) (.s .n (.s (.s .n (.b (.l [1,5,20] [.exit 0] (.s .n (.s dN (.s (.b (.s .n (.s .n (.s .n (.b (.l [1,5,7,35] [.exit 2] (.s .n (.s dN (.s (.b aT) .n))))))))) .n)))))) aT)))) (aC.cons O0 (aC.cons O8 aC.nil)) Tryz.func30 Tryz.call30 (fun a0 σ=>by kernel_rfl) rfl rfl
theorem af5:Sound Tryz.prog aG 88 P7:=q1 [1,7] 24 (.s .n (.s .n (.s .n (.s (.s .n (.b (.l [16] [.exit 0] (.s .n (.s dN (.s (.b aT) .n)))))) aT)))) (aC.cons PD aC.nil) Tryz.func88 Tryz.call88 (fun a0 σ=>by kernel_rfl) rfl rfl
theorem V8:Sound Tryz.prog aG 106 Lp:=q1 [] 40 (.s .n (.s (.s .n (.b (.l [2,6] [.exit 0,.ret] (.s .n (.s dN (.s (.b (.s .n bu)) .n)))))) aT)) aC.nil Tryz.func106 Tryz.call106 (fun a0 σ=>by kernel_rfl) rfl rfl
theorem afp:Sound Tryz.prog aG 89 PM:=q1 [] 9 (.s .n aT) (aC.cons V8 aC.nil) Tryz.func89 Tryz.call89 (fun a0 σ=>by kernel_rfl) rfl rfl
theorem VO:Sound Tryz.prog aG 90 Lh:=q1 [] 5 (.s .n aT) (aC.cons rN aC.nil) Tryz.func90 Tryz.call90 (fun a0 σ=>by kernel_rfl) rfl rfl
theorem aeV:Sound Tryz.prog aG 91 PE:=q2 [2,3] 21 (.s .n (.s bu aT)) (aC.cons Vw aC.nil) Tryz.func91 Tryz.call91 (fun a0 a1 σ=>by kernel_rfl) rfl rfl
theorem Vj:Sound Tryz.prog aG 54 KS:=q2 [2,8,10] 97 (.s .n (.s (.s .n bu) (.s .n (.s (.s .n (.b (.l [4,26] [.exit 0,.ret] (.s .n (.s dN (.s (.b (.s .n (.s (.b (.s .n (.j aT (.s .n (.j aT (.s .n (.j aT bu))))))) (.s .n (.b (.l [4,8,63] [.exit 3,.ret] (.s .n (.s dN (.s (.b (.s .n (.b (.s .n (.j aT (.s .n (.j aT bu))))))) .n))))))))) .n)))))) aT)))) (aC.cons O0 (aC.cons zW (aC.cons Dp (aC.cons af5 (aC.cons rN (aC.cons afp (aC.cons VO (aC.cons aeV aC.nil)))))))) Tryz.func54 Tryz.call54 (fun a0 a1 σ=>by kernel_rfl) rfl rfl
theorem V6:Sound Tryz.prog aG 108 BR:=q1 [] 5 (.s .n aT) (aC.cons rN aC.nil) Tryz.func108 Tryz.call108 (fun a0 σ=>by kernel_rfl) rfl rfl
theorem Vn:Sound Tryz.prog aG 38 KU:=q1 [1,5] 90 (.s .n (.s bu (.s .n (.s bu (.s bu (.s bu (.s (.s .n (.b (.l [2,28] [.exit 0,.ret] (.s .n (.s dN (.s (.b (.s .n bu)) .n)))))) (.s bu (.s (.s .n (.b (.l [2,6] [.exit 2,.ret] (.s (.s .n dN) (.s (.b bu) .n))))) aT))))))))) (aC.cons rN (aC.cons zW aC.nil)) Tryz.func38 Tryz.call38 (fun a0 σ=>by kernel_rfl) rfl rfl
theorem VU:Sound Tryz.prog aG 100 Lk:=q2 [2,3] 20 (.s .n (.s (.s .n (.j (.s bu aT) .n)) aT)) (aC.cons Vw aC.nil) Tryz.func100 Tryz.call100 (fun a0 a1 σ=>by kernel_rfl) rfl rfl
theorem adX:Sound Tryz.prog aG 109 O9:=q1 [4] 99 (.s .n (.s (.s .n (.b (.l [2,7] [.exit 0,.ret] (.s .n (.s dN (.s (.b (.s .n (.b (.s .n (.j aT (.s .n (.j aT (.s .n (.j aT (.s .n (.j aT (.s .n (.j aT (.s .n (.j aT bu))))))))))))))) .n)))))) aT)) (aC.cons rN (aC.cons Qe (aC.cons V6 (aC.cons VU aC.nil)))) Tryz.func109 Tryz.call109 (fun a0 σ=>by kernel_rfl) rfl rfl
theorem Xc:Sound Tryz.prog aG 92 Ig:=q1 [5] 101 (.s .n (.s bu (.s .n (.s (.s .n (.b (.l [2,3,13] [.exit 0,.ret] (.s .n (.s dN (.s (.b (.s .n (.s (.b (.s .n (.j aT (.s .n (.j aT (.s .n (.j aT bu))))))) (.s (.s .n bu) (.s bu (.s (.s .n bu) .n)))))) .n)))))) aT)))) (aC.cons rN (aC.cons V8 (aC.cons V6 (aC.cons Vn (aC.cons adX (aC.cons zW aC.nil)))))) Tryz.func92 Tryz.call92 (fun a0 σ=>by kernel_rfl) rfl rfl
theorem V7:Sound Tryz.prog aG 79 Dn:=q3 [4,5,9,11] 55 (.s .n (.s bu (.s bu (.s bu (.s (.s .n (.b (.l [4,5,6,7,31] [.exit 0,.ret] (.s .n (.s dN (.s (.b (.s .n (.s (.s .n dN) (.s (.s .n (.b (.l [4,6,7,43] [.exit 2,.ret] (.s .n (.s dN (.s (.b (.s .n bu)) .n)))))) .n)))) .n)))))) aT))))) (aC.cons VO aC.nil) Tryz.func79 Tryz.call79 (fun a0 a1 a2 σ=>by kernel_rfl) rfl rfl
theorem aec:Sound Tryz.prog aG 55 Pf:=q3 [3,12,14,16] 76 (.s .n (.s (.s .n bu) (.s .n (.s .n (.s (.s .n (.b (.l [37] [.exit 0] (.s .n (.s dN (.s (.b aT) .n)))))) (.s (.s .n (.b (.l [6,46] [.exit 2,.ret] (.s .n (.s dN (.s (.b (.s .n (.s .n (.b (.l [6,53] [.exit 4,.ret] (.s .n (.s dN (.s (.b (.s .n (.s bu (.s .n bu)))) .n)))))))) .n)))))) aT)))))) (aC.cons Vj (aC.cons Xc (aC.cons Dp (aC.cons PD (aC.cons V7 aC.nil))))) Tryz.func55 Tryz.call55 (fun a0 a1 a2 σ=>by kernel_rfl) rfl rfl
noncomputable def acP (dyn:Nat→List AV→Heap→Option (AV×Heap)):Fx:=⟨Tryz.prog,aG,A.tab (fun _ _=>none) [],dyn,[],[],19,[]⟩
theorem acM (dyn:Nat→List AV→Heap→Option (AV×Heap)) (hd:∀f,Sound Tryz.prog aG f (dyn (aG.getD f 0))):Sound Tryz.prog aG 63 (A.wrap true [(.s 2)] .k (A.bQ (KO dyn))):=
 Sound.wrap (Sound.nW (X:=acP dyn) (fn:=Tryz.f63) (bL:=(.s .n (.s (.s .n (.b (.l [4,8] [.exit 0,.ret] (.s .n (.s dN (.s (.b (.s .n bu)) .n)))))) aT))) .F trivial (dB.of rfl aC.nil (hd)) Tryz.func63 Tryz.call63 (fun a0 a1 σ=>by kernel_rfl)) _ _ _ rfl rfl
theorem acJ (dyn:Nat→List AV→Heap→Option (AV×Heap)) (hd:∀f,Sound Tryz.prog aG f (dyn (aG.getD f 0))):Sound Tryz.prog aG 63 (KN dyn):=acM dyn hd
theorem VI:Sound Tryz.prog aG 64 HL:=q2 [2] 8 (.s .n aT) aC.nil Tryz.func64 Tryz.call64 (fun a0 a1 σ=>by kernel_rfl) rfl rfl
end
end Go.Proofs.YtfcnnphidnjleaaGreat
