/- Parts of the proof of StampDueMatchesSpec, in order. -/
import Derived.Orders
import Derived.Below
import Derived.WalkKit
import Derived.Laws.StructEq
import Derived.Laws.Append
import Derived.Laws.AppendOwn
import Derived.IntWalk
import Derived.Lib.Bytealg
import Derived.Lib.Strings
import Derived.Test.YtohbeolimnpehaaKStampDueMatchesSpec2
/- What the functions of the package compute: written by a program from their code; that it is what the code does is shown elsewhere. -/
namespace Go.Proofs.Ytohbeolimnpehaa
set_option linter.unusedSectionVars false
set_option linter.unusedSimpArgs false
set_option linter.unusedVariables false
set_option maxRecDepth 100000
noncomputable def r_word_Within (a0 a1 a2 : AV) (σ : Heap) : Option (AV × Heap) :=
 (A.geq a0 a1).bind fun x1 =>
 (A.guard x1 true (some a0) (some (AV.tup []))).bind fun x2 =>
 (A.guard x1 true (some a2) (some (AV.tup []))).bind fun x3 =>
 (A.guard x1 true (A.leq x2 x3) (some (AV.tup []))).bind fun x4 =>
 (A.pick x1 x4 (AV.bool false)).bind fun x5 =>
 A.fin σ x5 σ
noncomputable def m_word_Within : List AV → Heap → Option (AV × Heap) := A.wrap true [] .k (A.ar3 r_word_Within)
noncomputable def r_word_When (a0 a1 : AV) (σ : Heap) : Option (AV × Heap) :=
 A.cond a0 (
  A.fin σ a1 σ) (
  A.fin σ (AV.int .i64 0) σ)
noncomputable def m_word_When : List AV → Heap → Option (AV × Heap) := A.wrap true [] .k (A.ar2 r_word_When)
noncomputable def r_word_First (a0 : AV) (σ : Heap) : Option (AV × Heap) :=
 (A.lenS a0).bind fun x1 =>
 (A.loop (fun v2 s3 =>
   (A.lss (v2.getD 1 AV.undef) x1).bind fun x4 =>
   A.cond x4 (
    (A.iaddr 1 a0 (v2.getD 1 AV.undef)).bind fun x5 =>
    ((A.deref x5 s3).bind fun c6 => A.part1 0 c6).bind fun x7 =>
    (A.neq .i x7 (AV.int .i64 0)).bind fun x8 =>
    A.cond x8 (
     some (AX.ret, [x7, (v2.getD 1 AV.undef)], s3)) (
     (A.add (v2.getD 1 AV.undef) (AV.int .i64 1)).bind fun x9 =>
     some (AX.normal, [(v2.getD 0 AV.undef), x9], s3))) (
    some (AX.exit 0, [(v2.getD 0 AV.undef), (v2.getD 1 AV.undef)], s3))) [(AV.int .i64 0), (AV.int .i64 0)] σ).bind fun r10 =>
 bif r10.1 == AX.exit 0 then (
  A.fin σ (AV.int .i64 0) r10.2.2) else
 bif r10.1 == AX.ret then (
  A.fin σ (r10.2.1.getD 0 AV.undef) r10.2.2) else
 none
noncomputable def m_word_First : List AV → Heap → Option (AV × Heap) := A.wrap true [(.s 1)] .k (A.ar1 r_word_First)
noncomputable def r_word_Row (a0 : AV) (σ : Heap) : Option (AV × Heap) :=
 (A.lenZ a0).bind fun x1 =>
 (A.loop (fun v2 s3 =>
   (A.lss (v2.getD 1 AV.undef) x1).bind fun x4 =>
   A.cond x4 (
    (A.sidx a0 (v2.getD 1 AV.undef)).bind fun x5 =>
    (A.geq x5 (AV.int .u8 97)).bind fun x6 =>
    (A.guard x6 true (some x5) (some (AV.tup []))).bind fun x7 =>
    (A.guard x6 true (A.leq x7 (AV.int .u8 122)) (some (AV.tup []))).bind fun x8 =>
    (A.pick x6 x8 (AV.bool false)).bind fun x9 =>
    (A.guard x9 false (some x5) (some (AV.tup []))).bind fun x10 =>
    (A.guard x9 false (A.geq x10 (AV.int .u8 48)) (some (AV.tup []))).bind fun x11 =>
    (A.guard x9 false (some x11) (some (AV.tup []))).bind fun x12 =>
    (A.guard x12 true (some x5) (some (AV.tup []))).bind fun x13 =>
    (A.guard x12 true (A.leq x13 (AV.int .u8 57)) (some (AV.tup []))).bind fun x14 =>
    (A.guard x9 false (A.pick x12 x14 (AV.bool false)) (some (AV.tup []))).bind fun x15 =>
    (A.pick x9 (AV.bool true) x15).bind fun x16 =>
    (A.guard x16 false (some x5) (some (AV.tup []))).bind fun x17 =>
    (A.guard x16 false (A.eql .i x17 (AV.int .u8 45)) (some (AV.tup []))).bind fun x18 =>
    (A.pick x16 (AV.bool true) x18).bind fun x19 =>
    (A.not x19).bind fun x20 =>
    A.cond x20 (
     some (AX.ret, [(AV.bool false), (v2.getD 1 AV.undef)], s3)) (
     (A.add (v2.getD 1 AV.undef) (AV.int .i64 1)).bind fun x21 =>
     some (AX.normal, [(v2.getD 0 AV.undef), x21], s3))) (
    some (AX.exit 0, [(v2.getD 0 AV.undef), (v2.getD 1 AV.undef)], s3))) [(AV.bool false), (AV.int .i64 0)] σ).bind fun r22 =>
 bif r22.1 == AX.exit 0 then (
  (A.neq .z a0 (AV.str ⟨#[]⟩)).bind fun x23 =>
  A.fin σ x23 r22.2.2) else
 bif r22.1 == AX.ret then (
  A.fin σ (r22.2.1.getD 0 AV.undef) r22.2.2) else
 none
noncomputable def m_word_Row : List AV → Heap → Option (AV × Heap) := A.wrap true [] .k (A.ar1 r_word_Row)
noncomputable def r_word_Name (a0 : AV) (σ : Heap) : Option (AV × Heap) :=
 (m_word_Row [a0] σ).bind fun r1 =>
 (A.guard r1.1 true (some a0) (some (AV.tup []))).bind fun x2 =>
 (A.guard r1.1 true (A.lenZ x2) (some (AV.tup []))).bind fun x3 =>
 (A.guard r1.1 true (A.leq x3 (AV.int .i64 20)) (some (AV.tup []))).bind fun x4 =>
 (A.pick r1.1 x4 (AV.bool false)).bind fun x5 =>
 (A.guard x5 true (some a0) (some (AV.tup []))).bind fun x6 =>
 (A.guard x5 true (A.sidx x6 (AV.int .i64 0)) (some (AV.tup []))).bind fun x7 =>
 (A.guard x5 true (A.geq x7 (AV.int .u8 97)) (some (AV.tup []))).bind fun x8 =>
 (A.pick x5 x8 (AV.bool false)).bind fun x9 =>
 (A.guard x9 true (some a0) (some (AV.tup []))).bind fun x10 =>
 (A.guard x9 true (A.sidx x10 (AV.int .i64 0)) (some (AV.tup []))).bind fun x11 =>
 (A.guard x9 true (A.leq x11 (AV.int .u8 122)) (some (AV.tup []))).bind fun x12 =>
 (A.pick x9 x12 (AV.bool false)).bind fun x13 =>
 A.fin σ x13 r1.2
noncomputable def m_word_Name : List AV → Heap → Option (AV × Heap) := A.wrap true [] .k (A.ar1 r_word_Name)
noncomputable def r_word_Title (a0 : AV) (σ : Heap) : Option (AV × Heap) :=
 (A.lenZ a0).bind fun x1 =>
 (A.loop (fun v2 s3 =>
   (A.lss (v2.getD 1 AV.undef) x1).bind fun x4 =>
   A.cond x4 (
    (A.sidx a0 (v2.getD 1 AV.undef)).bind fun x5 =>
    (A.lss x5 (AV.int .u8 32)).bind fun x6 =>
    (A.guard x6 false (some a0) (some (AV.tup []))).bind fun x7 =>
    (A.guard x6 false (some (v2.getD 1 AV.undef)) (some (AV.tup []))).bind fun x8 =>
    (A.guard x6 false (A.sidx x7 x8) (some (AV.tup []))).bind fun x9 =>
    (A.guard x6 false (A.gtr x9 (AV.int .u8 126)) (some (AV.tup []))).bind fun x10 =>
    (A.pick x6 (AV.bool true) x10).bind fun x11 =>
    A.cond x11 (
     some (AX.ret, [(AV.bool false), (v2.getD 1 AV.undef)], s3)) (
     (A.add (v2.getD 1 AV.undef) (AV.int .i64 1)).bind fun x12 =>
     some (AX.normal, [(v2.getD 0 AV.undef), x12], s3))) (
    some (AX.exit 0, [(v2.getD 0 AV.undef), (v2.getD 1 AV.undef)], s3))) [(AV.bool false), (AV.int .i64 0)] σ).bind fun r13 =>
 bif r13.1 == AX.exit 0 then (
  (A.neq .z a0 (AV.str ⟨#[]⟩)).bind fun x14 =>
  (A.guard x14 true (some a0) (some (AV.tup []))).bind fun x15 =>
  (A.guard x14 true (A.lenZ x15) (some (AV.tup []))).bind fun x16 =>
  (A.guard x14 true (A.leq x16 (AV.int .i64 60)) (some (AV.tup []))).bind fun x17 =>
  (A.pick x14 x17 (AV.bool false)).bind fun x18 =>
  (A.guard x18 true (some a0) (some (AV.tup []))).bind fun x19 =>
  (A.guard x18 true (A.sidx x19 (AV.int .i64 0)) (some (AV.tup []))).bind fun x20 =>
  (A.guard x18 true (A.neq .i x20 (AV.int .u8 32)) (some (AV.tup []))).bind fun x21 =>
  (A.pick x18 x21 (AV.bool false)).bind fun x22 =>
  (A.guard x22 true (some a0) (some (AV.tup []))).bind fun x23 =>
  (A.guard x22 true (some a0) (some (AV.tup []))).bind fun x24 =>
  (A.guard x22 true (A.lenZ x24) (some (AV.tup []))).bind fun x25 =>
  (A.guard x22 true (A.sub x25 (AV.int .i64 1)) (some (AV.tup []))).bind fun x26 =>
  (A.guard x22 true (A.sidx x23 x26) (some (AV.tup []))).bind fun x27 =>
  (A.guard x22 true (A.neq .i x27 (AV.int .u8 32)) (some (AV.tup []))).bind fun x28 =>
  (A.pick x22 x28 (AV.bool false)).bind fun x29 =>
  A.fin σ x29 r13.2.2) else
 bif r13.1 == AX.ret then (
  A.fin σ (r13.2.1.getD 0 AV.undef) r13.2.2) else
 none
noncomputable def m_word_Title : List AV → Heap → Option (AV × Heap) := A.wrap true [] .k (A.ar1 r_word_Title)
end Go.Proofs.Ytohbeolimnpehaa

/- What the functions of the package compute: written by a program from their code; that it is what the code does is shown elsewhere. -/
namespace Go.Proofs.Ytohbeolimnpehaa
set_option linter.unusedSectionVars false
set_option linter.unusedSimpArgs false
set_option linter.unusedVariables false
set_option maxRecDepth 100000
noncomputable def r_fixture_isLevel (a0 : AV) (σ : Heap) : Option (AV × Heap) :=
 (m_word_Within [a0, (AV.int .i64 0), (AV.int .i64 65535)] σ).bind fun r1 =>
 A.fin σ r1.1 r1.2
noncomputable def m_fixture_isLevel : List AV → Heap → Option (AV × Heap) := A.wrap true [] .k (A.ar1 r_fixture_isLevel)
noncomputable def r_fixture_checkRanges (a0 : AV) (σ : Heap) : Option (AV × Heap) :=
 (A.lenS a0).bind fun x1 =>
 (A.gtr x1 (AV.int .i64 30)).bind fun x2 =>
 A.cond x2 (
  A.fin σ (AV.int .i64 2) σ) (
  (A.lenS a0).bind fun x3 =>
  (A.loop (fun v4 s5 =>
    (A.lss (v4.getD 1 AV.undef) x3).bind fun x6 =>
    A.cond x6 (
     (A.iaddr 3 a0 (v4.getD 1 AV.undef)).bind fun x7 =>
     ((A.deref x7 s5).bind fun c8 => A.partA 0 3 c8).bind fun x9 =>
     (A.cells 3 x9).bind fun c10 =>
     (A.splice 0 c10 [(AV.int .i64 0), (AV.int .i64 0), (AV.str ⟨#[]⟩)]).bind fun c11 =>
     (A.part1 0 c11).bind fun x12 =>
     (m_fixture_isLevel [x12] s5).bind fun r13 =>
     (A.not r13.1).bind fun x14 =>
     (A.guard x14 false (A.part1 1 c11) (some (AV.tup []))).bind fun x15 =>
     (A.guard x14 false (A.quiet (m_fixture_isLevel [x15] r13.2) r13.2) (some (AV.tup []))).bind fun x16 =>
     (A.guard x14 false (A.not x16) (some (AV.tup []))).bind fun x17 =>
     (A.pick x14 (AV.bool true) x17).bind fun x18 =>
     (A.guard x18 false (A.part1 0 c11) (some (AV.tup []))).bind fun x19 =>
     (A.guard x18 false (A.part1 1 c11) (some (AV.tup []))).bind fun x20 =>
     (A.guard x18 false (A.gtr x19 x20) (some (AV.tup []))).bind fun x21 =>
     (A.pick x18 (AV.bool true) x21).bind fun x22 =>
     A.cond x22 (
      some (AX.ret, [(AV.int .i64 1), (v4.getD 1 AV.undef)], r13.2)) (
      (A.gtr (v4.getD 1 AV.undef) (AV.int .i64 0)).bind fun x23 =>
      (A.guard x23 true (A.part1 0 c11) (some (AV.tup []))).bind fun x24 =>
      (A.guard x23 true (some a0) (some (AV.tup []))).bind fun x25 =>
      (A.guard x23 true (some (v4.getD 1 AV.undef)) (some (AV.tup []))).bind fun x26 =>
      (A.guard x23 true (A.sub x26 (AV.int .i64 1)) (some (AV.tup []))).bind fun x27 =>
      (A.guard x23 true (A.iaddr 3 x25 x27) (some (AV.tup []))).bind fun x28 =>
      (A.guard x23 true (A.faddr 1 x28) (some (AV.tup []))).bind fun x29 =>
      (A.guard x23 true ((A.deref x29 r13.2).bind fun c30 => A.part1 0 c30) (some (AV.tup []))).bind fun x31 =>
      (A.guard x23 true (A.leq x24 x31) (some (AV.tup []))).bind fun x32 =>
      (A.pick x23 x32 (AV.bool false)).bind fun x33 =>
      A.cond x33 (
       some (AX.ret, [(AV.int .i64 7), (v4.getD 1 AV.undef)], r13.2)) (
       (A.part1 2 c11).bind fun x34 =>
       (m_word_Name [x34] r13.2).bind fun r35 =>
       (A.not r35.1).bind fun x36 =>
       A.cond x36 (
        some (AX.ret, [(AV.int .i64 5), (v4.getD 1 AV.undef)], r35.2)) (
        (A.part1 2 c11).bind fun x37 =>
        (A.look .z (AV.om σ.length) x37 (AV.bool false) r35.2).bind fun x38 =>
        A.cond x38 (
         some (AX.ret, [(AV.int .i64 6), (v4.getD 1 AV.undef)], r35.2)) (
         (A.part1 2 c11).bind fun x39 =>
         (A.mupd .z (AV.om σ.length) x39 (AV.bool true) r35.2).bind fun h40 =>
         (A.add (v4.getD 1 AV.undef) (AV.int .i64 1)).bind fun x41 =>
         some (AX.normal, [(v4.getD 0 AV.undef), x41], h40)))))) (
     some (AX.exit 0, [(v4.getD 0 AV.undef), (v4.getD 1 AV.undef)], s5))) [(AV.int .i64 0), (AV.int .i64 0)] (σ ++ [Blk.map []])).bind fun r42 =>
  bif r42.1 == AX.exit 0 then (
   A.fin σ (AV.int .i64 0) r42.2.2) else
  bif r42.1 == AX.ret then (
   A.fin σ (r42.2.1.getD 0 AV.undef) r42.2.2) else
  none)
noncomputable def m_fixture_checkRanges : List AV → Heap → Option (AV × Heap) := A.wrap true [(.s 3)] .k (A.ar1 r_fixture_checkRanges)
noncomputable def r_fixture_CheckProfile (a0 : AV) (σ : Heap) : Option (AV × Heap) :=
 (A.cells 3 a0).bind fun c1 =>
 (A.part1 0 c1).bind fun x2 =>
 (m_word_Name [x2] σ).bind fun r3 =>
 (A.not r3.1).bind fun x4 =>
 A.cond x4 (
  A.fin σ (AV.int .i64 5) r3.2) (
  (A.part1 1 c1).bind fun x5 =>
  (m_word_Within [x5, (AV.int .i64 1), (AV.int .i64 512)] r3.2).bind fun r6 =>
  (A.not r6.1).bind fun x7 =>
  A.cond x7 (
   A.fin σ (AV.int .i64 1) r6.2) (
   (A.part1 2 c1).bind fun x8 =>
   (A.lenS x8).bind fun x9 =>
   (A.eql .i x9 (AV.int .i64 0)).bind fun x10 =>
   A.cond x10 (
    A.fin σ (AV.int .i64 8) r6.2) (
    (A.part1 2 c1).bind fun x11 =>
    (A.lenS x11).bind fun x12 =>
    (A.gtr x12 (AV.int .i64 40)).bind fun x13 =>
    A.cond x13 (
     A.fin σ (AV.int .i64 2) r6.2) (
     (A.part1 2 c1).bind fun x14 =>
     (A.lenS x14).bind fun x15 =>
     (A.loop (fun v16 s17 =>
       (A.lss (v16.getD 2 AV.undef) x15).bind fun x18 =>
       A.cond x18 (
        (A.iaddr 7 x14 (v16.getD 2 AV.undef)).bind fun x19 =>
        ((A.deref x19 s17).bind fun c20 => A.partA 0 7 c20).bind fun x21 =>
        (A.cells 7 x21).bind fun c22 =>
        (A.splice 0 c22 [(AV.str ⟨#[]⟩), (AV.int .i64 0), (AV.int .i64 0), (AV.int .i64 0), (AV.int .i64 0), (AV.bool false), AV.nsl]).bind fun c23 =>
        (A.part1 0 c23).bind fun x24 =>
        (m_word_Name [x24] s17).bind fun r25 =>
        (A.not r25.1).bind fun x26 =>
        A.cond x26 (
         some (AX.ret, [(v16.getD 0 AV.undef), (AV.int .i64 5), (v16.getD 2 AV.undef)], r25.2)) (
         (A.part1 0 c23).bind fun x27 =>
         (A.look .z (AV.om r6.2.length) x27 (AV.bool false) r25.2).bind fun x28 =>
         A.cond x28 (
          some (AX.ret, [(v16.getD 0 AV.undef), (AV.int .i64 6), (v16.getD 2 AV.undef)], r25.2)) (
          (A.part1 1 c23).bind fun x29 =>
          (m_word_Within [x29, (AV.int .i64 1), (AV.int .i64 4)] r25.2).bind fun r30 =>
          (A.not r30.1).bind fun x31 =>
          A.cond x31 (
           some (AX.ret, [(v16.getD 0 AV.undef), (AV.int .i64 4), (v16.getD 2 AV.undef)], r30.2)) (
           (A.part1 2 c23).bind fun x32 =>
           ((A.lb (v16.getD 0 AV.undef)).bind fun _ => some (1)).bind fun p33 =>
           ((A.lb (v16.getD 0 AV.undef)).bind fun c34 => A.part1 p33 c34).bind fun x35 =>
           (m_word_Within [x32, (AV.int .i64 1), x35] r30.2).bind fun r36 =>
           (A.not r36.1).bind fun x37 =>
           (A.guard x37 false (A.part1 3 c23) (some (AV.tup []))).bind fun x38 =>
           ((A.lb (v16.getD 0 AV.undef)).bind fun _ => some (1)).bind fun p39 =>
                      (A.guard x37 false ((A.lb (v16.getD 0 AV.undef)).bind fun c40 => A.part1 p39 c40) (some (AV.tup []))).bind fun x41 =>
           (A.guard x37 false (A.quiet (m_word_Within [x38, (AV.int .i64 0), x41] r36.2) r36.2) (some (AV.tup []))).bind fun x42 =>
           (A.guard x37 false (A.not x42) (some (AV.tup []))).bind fun x43 =>
           (A.pick x37 (AV.bool true) x43).bind fun x44 =>
           (A.guard x44 false (A.part1 4 c23) (some (AV.tup []))).bind fun x45 =>
           (A.guard x44 false (A.quiet (m_fixture_isLevel [x45] r36.2) r36.2) (some (AV.tup []))).bind fun x46 =>
           (A.guard x44 false (A.not x46) (some (AV.tup []))).bind fun x47 =>
           (A.pick x44 (AV.bool true) x47).bind fun x48 =>
           A.cond x48 (
            some (AX.ret, [(v16.getD 0 AV.undef), (AV.int .i64 1), (v16.getD 2 AV.undef)], r36.2)) (
            (A.part1 2 c23).bind fun x49 =>
            (A.part1 3 c23).bind fun x50 =>
            (A.eql .i x49 x50).bind fun x51 =>
            (A.guard x51 false (some (AV.om (r6.2 ++ [Blk.map []]).length)) (some (AV.tup []))).bind fun x52 =>
            (A.guard x51 false (A.part1 2 c23) (some (AV.tup []))).bind fun x53 =>
            (A.guard x51 false (A.look .i x52 x53 (AV.bool false) r36.2) (some (AV.tup []))).bind fun x54 =>
            (A.pick x51 (AV.bool true) x54).bind fun x55 =>
            (A.guard x55 false (A.part1 3 c23) (some (AV.tup []))).bind fun x56 =>
            (A.guard x55 false (A.gtr x56 (AV.int .i64 0)) (some (AV.tup []))).bind fun x57 =>
            (A.guard x55 false (some x57) (some (AV.tup []))).bind fun x58 =>
            (A.guard x58 true (some (AV.om (r6.2 ++ [Blk.map []]).length)) (some (AV.tup []))).bind fun x59 =>
            (A.guard x58 true (A.part1 3 c23) (some (AV.tup []))).bind fun x60 =>
            (A.guard x58 true (A.look .i x59 x60 (AV.bool false) r36.2) (some (AV.tup []))).bind fun x61 =>
            (A.guard x55 false (A.pick x58 x61 (AV.bool false)) (some (AV.tup []))).bind fun x62 =>
            (A.pick x55 (AV.bool true) x62).bind fun x63 =>
            A.cond x63 (
             some (AX.ret, [(v16.getD 0 AV.undef), (AV.int .i64 12), (v16.getD 2 AV.undef)], r36.2)) (
             (A.part1 6 c23).bind fun x64 =>
             (m_fixture_checkRanges [x64] r36.2).bind fun r65 =>
             (A.neq .i r65.1 (AV.int .i64 0)).bind fun x66 =>
             A.cond x66 (
              some (AX.ret, [(v16.getD 0 AV.undef), r65.1, (v16.getD 2 AV.undef)], r65.2)) (
              (A.part1 0 c23).bind fun x67 =>
              (A.part1 2 c23).bind fun x68 =>
              (A.mupd .z (AV.om r6.2.length) x67 (AV.bool true) r65.2).bind fun h69 =>
              (A.mupd .i (AV.om (r6.2 ++ [Blk.map []]).length) x68 (AV.bool true) h69).bind fun h70 =>
              (A.part1 3 c23).bind fun x71 =>
              (A.gtr x71 (AV.int .i64 0)).bind fun x72 =>
              (A.cond x72 (
               (A.part1 3 c23).bind fun x74 =>
               (A.mupd .i (AV.om (r6.2 ++ [Blk.map []]).length) x74 (AV.bool true) h70).bind fun h75 =>
               some ([(v16.getD 0 AV.undef)], h75)) (
               some ([(v16.getD 0 AV.undef)], h70))).bind fun r73 =>
              (A.add (v16.getD 2 AV.undef) (AV.int .i64 1)).bind fun x76 =>
              some (AX.normal, [(r73.1.getD 0 AV.undef), (v16.getD 1 AV.undef), x76], r73.2)))))))) (
        some (AX.exit 1, [(v16.getD 0 AV.undef), (v16.getD 1 AV.undef), (v16.getD 2 AV.undef)], s17))) [(AV.lbx c1), (AV.int .i64 0), (AV.int .i64 0)] ((r6.2 ++ [Blk.map []]) ++ [Blk.map []])).bind fun r77 =>
     bif r77.1 == AX.exit 1 then (
      A.fin σ (AV.int .i64 0) r77.2.2) else
     bif r77.1 == AX.ret then (
      A.fin σ (r77.2.1.getD 1 AV.undef) r77.2.2) else
     none))))
noncomputable def m_fixture_CheckProfile : List AV → Heap → Option (AV × Heap) := A.wrap true [(.a [.k, .k, (.s 7)])] .k (A.ar1 r_fixture_CheckProfile)
noncomputable def r_fixture_CheckLibrary (a0 : AV) (σ : Heap) : Option (AV × Heap) :=
 (A.lenS a0).bind fun x1 =>
 (A.gtr x1 (AV.int .i64 60)).bind fun x2 =>
 A.cond x2 (
  A.fin σ (AV.int .i64 2) σ) (
  (A.lenS a0).bind fun x3 =>
  (A.loop (fun v4 s5 =>
    (A.lss (v4.getD 1 AV.undef) x3).bind fun x6 =>
    A.cond x6 (
     (A.iaddr 3 a0 (v4.getD 1 AV.undef)).bind fun x7 =>
     ((A.deref x7 s5).bind fun c8 => A.partA 0 3 c8).bind fun x9 =>
     (A.cells 3 x9).bind fun c10 =>
     (A.splice 0 c10 [(AV.str ⟨#[]⟩), (AV.int .i64 0), AV.nsl]).bind fun c11 =>
     (A.partA 0 3 c11).bind fun x12 =>
     (m_fixture_CheckProfile [x12] s5).bind fun r13 =>
     (A.neq .i r13.1 (AV.int .i64 0)).bind fun x14 =>
     A.cond x14 (
      some (AX.ret, [r13.1, (v4.getD 1 AV.undef)], r13.2)) (
      (A.part1 0 c11).bind fun x15 =>
      (A.look .z (AV.om σ.length) x15 (AV.bool false) r13.2).bind fun x16 =>
      A.cond x16 (
       some (AX.ret, [(AV.int .i64 6), (v4.getD 1 AV.undef)], r13.2)) (
       (A.part1 0 c11).bind fun x17 =>
       (A.mupd .z (AV.om σ.length) x17 (AV.bool true) r13.2).bind fun h18 =>
       (A.add (v4.getD 1 AV.undef) (AV.int .i64 1)).bind fun x19 =>
       some (AX.normal, [(v4.getD 0 AV.undef), x19], h18)))) (
     some (AX.exit 0, [(v4.getD 0 AV.undef), (v4.getD 1 AV.undef)], s5))) [(AV.int .i64 0), (AV.int .i64 0)] (σ ++ [Blk.map []])).bind fun r20 =>
  bif r20.1 == AX.exit 0 then (
   A.fin σ (AV.int .i64 0) r20.2.2) else
  bif r20.1 == AX.ret then (
   A.fin σ (r20.2.1.getD 0 AV.undef) r20.2.2) else
  none)
noncomputable def m_fixture_CheckLibrary : List AV → Heap → Option (AV × Heap) := A.wrap true [(.s 3)] .k (A.ar1 r_fixture_CheckLibrary)
noncomputable def r_fixture_profile_fn1 (a0 a1 : AV) (σ : Heap) : Option (AV × Heap) :=
 (A.cells 3 a0).bind fun c1 =>
 (A.part1 0 c1).bind fun x2 =>
 ((A.deref a1 σ).bind fun c3 => A.part1 0 c3).bind fun x4 =>
 (A.eql .z x2 x4).bind fun x5 =>
 A.fin σ x5 σ
noncomputable def m_fixture_profile_fn1 : List AV → Heap → Option (AV × Heap) := A.wrap true [(.a [.k, .k, (.s 7)])] .k (A.ar2 r_fixture_profile_fn1)
noncomputable def r_fixture_profile (a0 a1 : AV) (σ : Heap) : Option (AV × Heap) :=
 (((A.cell a1).bind fun v => some [v]).bind fun cs => some (AV.rp cs)).bind fun x1 =>
 (m_slices_IndexFunc_api_Profile (A.tab (fun _ _ => none) [(64, m_fixture_profile_fn1), (64, m_fixture_profile_fn1)]) [a0, (AV.fn 64 [x1])] σ).bind fun r2 =>
 (A.lss r2.1 (AV.int .i64 0)).bind fun x3 =>
 A.cond x3 (
  (A.cells 3 (AV.agg [(AV.str ⟨#[]⟩), (AV.int .i64 0), AV.nsl])).bind fun c4 =>
  (A.splice 0 c4 [(AV.str ⟨#[]⟩), (AV.int .i64 0), AV.nsl]).bind fun c5 =>
  (A.partA 0 3 c5).bind fun x6 =>
  A.fin σ (AV.tup [x6, (AV.bool false)]) r2.2) (
  (A.iaddr 3 a0 r2.1).bind fun x7 =>
  ((A.deref x7 r2.2).bind fun c8 => A.partA 0 3 c8).bind fun x9 =>
  (A.cells 3 x9).bind fun c10 =>
  (A.splice 0 c10 [(AV.str ⟨#[]⟩), (AV.int .i64 0), AV.nsl]).bind fun c11 =>
  (A.partA 0 3 c11).bind fun x12 =>
  A.fin σ (AV.tup [x12, (AV.bool true)]) r2.2)
noncomputable def m_fixture_profile : List AV → Heap → Option (AV × Heap) := A.wrap true [(.s 3)] (.t [(.a [.k, .k, (.e 7 [.k, .k, .k, .k, .k, .k, (.s 3)])]), .k]) (A.ar2 r_fixture_profile)
noncomputable def r_fixture_slots_free (a0 a1 a2 : AV) (σ : Heap) : Option (AV × Heap) :=
 (A.eql .p a0 AV.np).bind fun x1 =>
 A.cond x1 (
  (A.add a1 a2).bind fun x2 =>
  (A.sub x2 (AV.int .i64 1)).bind fun x3 =>
  (A.leq x3 (AV.int .i64 512)).bind fun x4 =>
  A.fin σ x4 σ) (
  (A.loop (fun v5 s6 =>
    (A.add a1 a2).bind fun x7 =>
    (A.lss (v5.getD 1 AV.undef) x7).bind fun x8 =>
    A.cond x8 (
     (A.gtr (v5.getD 1 AV.undef) (AV.int .i64 512)).bind fun x9 =>
     (A.guard x9 false (some a0) (some (AV.tup []))).bind fun x10 =>
     (A.guard x9 false (some (v5.getD 1 AV.undef)) (some (AV.tup []))).bind fun x11 =>
     (A.guard x9 false (A.nilck x10) (some (AV.tup []))).bind fun x12 =>
     (A.guard x9 false (A.aaddr 513 1 x12 x11) (some (AV.tup []))).bind fun x13 =>
     (A.guard x9 false ((A.deref x13 s6).bind fun c14 => A.part1 0 c14) (some (AV.tup []))).bind fun x15 =>
     (A.pick x9 (AV.bool true) x15).bind fun x16 =>
     A.cond x16 (
      some (AX.ret, [(AV.bool false), (v5.getD 1 AV.undef)], s6)) (
      (A.add (v5.getD 1 AV.undef) (AV.int .i64 1)).bind fun x17 =>
      some (AX.normal, [(v5.getD 0 AV.undef), x17], s6))) (
     some (AX.exit 0, [(v5.getD 0 AV.undef), (v5.getD 1 AV.undef)], s6))) [(AV.bool false), a1] σ).bind fun r18 =>
  bif r18.1 == AX.exit 0 then (
   A.fin σ (AV.bool true) r18.2.2) else
  bif r18.1 == AX.ret then (
   A.fin σ (r18.2.1.getD 0 AV.undef) r18.2.2) else
  none)
noncomputable def m_fixture_slots_free : List AV → Heap → Option (AV × Heap) := A.wrap true [] .k (A.ar3 r_fixture_slots_free)
noncomputable def r_fixture_take (a0 a1 a2 : AV) (σ : Heap) : Option (AV × Heap) :=
 (A.cells 4 a1).bind fun c1 =>
 (A.part1 2 c1).bind fun x2 =>
 (A.look .i a0 x2 AV.np σ).bind fun x3 =>
 (A.eql .p x3 AV.np).bind fun x4 =>
 (A.cond x4 (
  (A.part1 2 c1).bind fun x6 =>
  (A.mupd .i a0 x6 (AV.op σ.length 0) (σ ++ [Blk.box (List.replicate 513 (AV.bool false))])).bind fun h7 =>
  some ([(AV.lbx c1)], h7)) (
  some ([(AV.lbx c1)], σ))).bind fun r5 =>
 ((A.lb (r5.1.getD 0 AV.undef)).bind fun _ => some (3)).bind fun p8 =>
 ((A.lb (r5.1.getD 0 AV.undef)).bind fun c9 => A.part1 p8 c9).bind fun x10 =>
 (A.loop (fun v11 s12 =>
   ((A.lb (v11.getD 0 AV.undef)).bind fun _ => some (3)).bind fun p13 =>
   ((A.lb (v11.getD 0 AV.undef)).bind fun c14 => A.part1 p13 c14).bind fun x15 =>
   (A.add x15 a2).bind fun x16 =>
   (A.lss (v11.getD 1 AV.undef) x16).bind fun x17 =>
   A.cond x17 (
    ((A.lb (v11.getD 0 AV.undef)).bind fun _ => some (2)).bind fun p18 =>
    ((A.lb (v11.getD 0 AV.undef)).bind fun c19 => A.part1 p18 c19).bind fun x20 =>
    (A.look .i a0 x20 AV.np s12).bind fun x21 =>
    (A.nilck x21).bind fun x22 =>
    (A.aaddr 513 1 x22 (v11.getD 1 AV.undef)).bind fun x23 =>
    ((A.cell (AV.bool true)).bind fun v => some [v]).bind fun c24 =>
    (A.storeAt x23 c24 s12).bind fun c25 =>
    (A.add (v11.getD 1 AV.undef) (AV.int .i64 1)).bind fun x26 =>
    some (AX.normal, [(v11.getD 0 AV.undef), x26], c25)) (
    some (AX.exit 0, [(v11.getD 0 AV.undef), (v11.getD 1 AV.undef)], s12))) [(r5.1.getD 0 AV.undef), x10] r5.2).bind fun r27 =>
 bif r27.1 == AX.exit 0 then (
  some ((AV.tup []), r27.2.2)) else
 none
noncomputable def m_fixture_take : List AV → Heap → Option (AV × Heap) := A.wrap false [] .k (A.ar3 r_fixture_take)
noncomputable def r_fixture_CheckRig (a0 : AV) (σ : Heap) : Option (AV × Heap) :=
 (A.cells 2 a0).bind fun c1 =>
 (A.part1 0 c1).bind fun x2 =>
 (m_fixture_CheckLibrary [x2] σ).bind fun r3 =>
 (A.neq .i r3.1 (AV.int .i64 0)).bind fun x4 =>
 A.cond x4 (
  A.fin σ r3.1 r3.2) (
  (A.part1 1 c1).bind fun x5 =>
  (A.lenS x5).bind fun x6 =>
  (A.gtr x6 (AV.int .i64 400)).bind fun x7 =>
  A.cond x7 (
   A.fin σ (AV.int .i64 2) r3.2) (
   (A.part1 1 c1).bind fun x8 =>
   (A.lenS x8).bind fun x9 =>
   (A.loop (fun v10 s11 =>
     (A.lss (v10.getD 2 AV.undef) x9).bind fun x12 =>
     A.cond x12 (
      (A.iaddr 4 x8 (v10.getD 2 AV.undef)).bind fun x13 =>
      ((A.deref x13 s11).bind fun c14 => A.partA 0 4 c14).bind fun x15 =>
      (A.cells 4 x15).bind fun c16 =>
      (A.splice 0 c16 [(AV.int .i64 0), (AV.str ⟨#[]⟩), (AV.int .i64 0), (AV.int .i64 0)]).bind fun c17 =>
      (A.part1 0 c17).bind fun x18 =>
      (m_word_Within [x18, (AV.int .i64 1), (AV.int .i64 9999)] s11).bind fun r19 =>
      (A.not r19.1).bind fun x20 =>
      A.cond x20 (
       some (AX.ret, [(v10.getD 0 AV.undef), (AV.int .i64 1), (v10.getD 2 AV.undef)], r19.2)) (
       (A.gtr (v10.getD 2 AV.undef) (AV.int .i64 0)).bind fun x21 =>
       (A.guard x21 true (A.part1 0 c17) (some (AV.tup []))).bind fun x22 =>
       ((A.lb (v10.getD 0 AV.undef)).bind fun _ => some (1)).bind fun p23 =>
              (A.guard x21 true ((A.lb (v10.getD 0 AV.undef)).bind fun c24 => A.part1 p23 c24) (some (AV.tup []))).bind fun x25 =>
       (A.guard x21 true (some (v10.getD 2 AV.undef)) (some (AV.tup []))).bind fun x26 =>
       (A.guard x21 true (A.sub x26 (AV.int .i64 1)) (some (AV.tup []))).bind fun x27 =>
       (A.guard x21 true (A.iaddr 4 x25 x27) (some (AV.tup []))).bind fun x28 =>
       (A.guard x21 true (A.faddr 0 x28) (some (AV.tup []))).bind fun x29 =>
       (A.guard x21 true ((A.deref x29 r19.2).bind fun c30 => A.part1 0 c30) (some (AV.tup []))).bind fun x31 =>
       (A.guard x21 true (A.leq x22 x31) (some (AV.tup []))).bind fun x32 =>
       (A.pick x21 x32 (AV.bool false)).bind fun x33 =>
       A.cond x33 (
        some (AX.ret, [(v10.getD 0 AV.undef), (AV.int .i64 7), (v10.getD 2 AV.undef)], r19.2)) (
        ((A.lb (v10.getD 0 AV.undef)).bind fun _ => some (0)).bind fun p34 =>
        ((A.lb (v10.getD 0 AV.undef)).bind fun c35 => A.part1 p34 c35).bind fun x36 =>
        (A.part1 1 c17).bind fun x37 =>
        (m_fixture_profile [x36, x37] r19.2).bind fun r38 =>
        (A.ext 0 r38.1).bind fun x39 =>
        (A.ext 1 r38.1).bind fun x40 =>
        (A.cells 3 x39).bind fun c41 =>
        (A.splice 0 c41 [(AV.str ⟨#[]⟩), (AV.int .i64 0), AV.nsl]).bind fun c42 =>
        (A.not x40).bind fun x43 =>
        A.cond x43 (
         some (AX.ret, [(v10.getD 0 AV.undef), (AV.int .i64 5), (v10.getD 2 AV.undef)], r38.2)) (
         (A.part1 2 c17).bind fun x44 =>
         (m_word_Within [x44, (AV.int .i64 1), (AV.int .i64 64)] r38.2).bind fun r45 =>
         (A.not r45.1).bind fun x46 =>
         (A.guard x46 false (A.part1 3 c17) (some (AV.tup []))).bind fun x47 =>
         (A.guard x46 false (A.quiet (m_word_Within [x47, (AV.int .i64 1), (AV.int .i64 512)] r45.2) r45.2) (some (AV.tup []))).bind fun x48 =>
         (A.guard x46 false (A.not x48) (some (AV.tup []))).bind fun x49 =>
         (A.pick x46 (AV.bool true) x49).bind fun x50 =>
         (A.guard x50 false (A.part1 3 c17) (some (AV.tup []))).bind fun x51 =>
         (A.guard x50 false (A.part1 1 c42) (some (AV.tup []))).bind fun x52 =>
         (A.guard x50 false (A.add x51 x52) (some (AV.tup []))).bind fun x53 =>
         (A.guard x50 false (A.sub x53 (AV.int .i64 1)) (some (AV.tup []))).bind fun x54 =>
         (A.guard x50 false (A.gtr x54 (AV.int .i64 512)) (some (AV.tup []))).bind fun x55 =>
         (A.pick x50 (AV.bool true) x55).bind fun x56 =>
         A.cond x56 (
          some (AX.ret, [(v10.getD 0 AV.undef), (AV.int .i64 1), (v10.getD 2 AV.undef)], r45.2)) (
          (A.part1 2 c17).bind fun x57 =>
          (A.look .i (AV.om r3.2.length) x57 AV.np r45.2).bind fun x58 =>
          (A.part1 3 c17).bind fun x59 =>
          (A.part1 1 c42).bind fun x60 =>
          (m_fixture_slots_free [x58, x59, x60] r45.2).bind fun r61 =>
          (A.not r61.1).bind fun x62 =>
          A.cond x62 (
           some (AX.ret, [(v10.getD 0 AV.undef), (AV.int .i64 12), (v10.getD 2 AV.undef)], r61.2)) (
           (A.partA 0 4 c17).bind fun x63 =>
           (A.part1 1 c42).bind fun x64 =>
           (m_fixture_take [(AV.om r3.2.length), x63, x64] r61.2).bind fun r65 =>
           (A.add (v10.getD 2 AV.undef) (AV.int .i64 1)).bind fun x66 =>
           some (AX.normal, [(v10.getD 0 AV.undef), (v10.getD 1 AV.undef), x66], r65.2))))))) (
      some (AX.exit 0, [(v10.getD 0 AV.undef), (v10.getD 1 AV.undef), (v10.getD 2 AV.undef)], s11))) [(AV.lbx c1), (AV.int .i64 0), (AV.int .i64 0)] (r3.2 ++ [Blk.map []])).bind fun r67 =>
   bif r67.1 == AX.exit 0 then (
    A.fin σ (AV.int .i64 0) r67.2.2) else
   bif r67.1 == AX.ret then (
    A.fin σ (r67.2.1.getD 1 AV.undef) r67.2.2) else
   none))
noncomputable def m_fixture_CheckRig : List AV → Heap → Option (AV × Heap) := A.wrap true [(.a [(.s 3), (.s 4)])] .k (A.ar1 r_fixture_CheckRig)
noncomputable def r_fixture_Keys (a0 : AV) (σ : Heap) : Option (AV × Heap) :=
 (A.cells 2 a0).bind fun c1 =>
 (A.partA 0 2 c1).bind fun x2 =>
 (m_fixture_CheckRig [x2] σ).bind fun r3 =>
 (A.neq .i r3.1 (AV.int .i64 0)).bind fun x4 =>
 A.cond x4 (
  A.fin σ (AV.tup [AV.nsl, r3.1]) r3.2) (
  (A.part1 1 c1).bind fun x5 =>
  (A.lenS x5).bind fun x6 =>
  (A.loop (fun v7 s8 =>
    (A.lss (v7.getD 2 AV.undef) x6).bind fun x9 =>
    A.cond x9 (
     (A.iaddr 4 x5 (v7.getD 2 AV.undef)).bind fun x10 =>
     ((A.deref x10 s8).bind fun c11 => A.partA 0 4 c11).bind fun x12 =>
     (A.cells 4 x12).bind fun c13 =>
     (A.splice 0 c13 [(AV.int .i64 0), (AV.str ⟨#[]⟩), (AV.int .i64 0), (AV.int .i64 0)]).bind fun c14 =>
     ((A.lb (v7.getD 0 AV.undef)).bind fun _ => some (0)).bind fun p15 =>
     ((A.lb (v7.getD 0 AV.undef)).bind fun c16 => A.part1 p15 c16).bind fun x17 =>
     (A.part1 1 c14).bind fun x18 =>
     (m_fixture_profile [x17, x18] s8).bind fun r19 =>
     (A.ext 0 r19.1).bind fun x20 =>
     (A.ext 1 r19.1).bind fun x21 =>
     (A.cells 3 x20).bind fun c22 =>
     (A.splice 0 c22 [(AV.str ⟨#[]⟩), (AV.int .i64 0), AV.nsl]).bind fun c23 =>
     (A.part1 2 c23).bind fun x24 =>
     (A.lenS x24).bind fun x25 =>
     (A.loop (fun v26 s27 =>
       (A.lss (v26.getD 3 AV.undef) x25).bind fun x28 =>
       A.cond x28 (
        (A.iaddr 7 x24 (v26.getD 3 AV.undef)).bind fun x29 =>
        ((A.deref x29 s27).bind fun c30 => A.partA 0 7 c30).bind fun x31 =>
        (A.cells 7 x31).bind fun c32 =>
        (A.splice 0 c32 [(AV.str ⟨#[]⟩), (AV.int .i64 0), (AV.int .i64 0), (AV.int .i64 0), (AV.int .i64 0), (AV.bool false), AV.nsl]).bind fun c33 =>
        ((A.lb (v26.getD 2 AV.undef)).bind fun _ => some (0)).bind fun p34 =>
        ((A.lb (v26.getD 2 AV.undef)).bind fun c35 => A.part1 p34 c35).bind fun x36 =>
        (A.part1 0 c33).bind fun x37 =>
        ((((A.cell x36).bind fun v => some [v]).bind fun c38 => (A.splice 0 c38 [(AV.int .i64 0), (AV.str ⟨#[]⟩)]).bind fun c39 => ((A.cell x37).bind fun v => some [v]).bind fun c40 => (A.splice 1 c40 c39).bind fun c41 => some c41).bind fun cs => some (AV.agg cs)).bind fun x42 =>
        (((A.cells 2 x42).bind fun c43 => (A.splice 0 c43 [(AV.int .i64 0), (AV.str ⟨#[]⟩)]).bind fun c44 => some c44).bind fun cs => some (AV.sl 2 (chunks 2 1 cs))).bind fun x45 =>
        (A.append 2 (140737488355328 / 24) (v26.getD 1 AV.undef) x45 s27).bind fun r46 =>
        (A.add (v26.getD 3 AV.undef) (AV.int .i64 1)).bind fun x47 =>
        some (AX.normal, [(v26.getD 0 AV.undef), r46.1, (v26.getD 2 AV.undef), x47], r46.2)) (
        some (AX.exit 2, [(v26.getD 0 AV.undef), (v26.getD 1 AV.undef), (v26.getD 2 AV.undef), (v26.getD 3 AV.undef)], s27))) [(v7.getD 0 AV.undef), (v7.getD 1 AV.undef), (AV.lbx c14), (AV.int .i64 0)] r19.2).bind fun r48 =>
     bif r48.1 == AX.exit 2 then (
      (A.add (v7.getD 2 AV.undef) (AV.int .i64 1)).bind fun x49 =>
      some (AX.normal, [(r48.2.1.getD 0 AV.undef), (r48.2.1.getD 1 AV.undef), x49], r48.2.2)) else
     none) (
     some (AX.exit 0, [(v7.getD 0 AV.undef), (v7.getD 1 AV.undef), (v7.getD 2 AV.undef)], s8))) [(AV.lbx c1), AV.nsl, (AV.int .i64 0)] r3.2).bind fun r50 =>
  bif r50.1 == AX.exit 0 then (
   A.fin σ (AV.tup [(r50.2.1.getD 1 AV.undef), (AV.int .i64 0)]) r50.2.2) else
  none)
noncomputable def m_fixture_Keys : List AV → Heap → Option (AV × Heap) := A.wrap true [(.a [(.s 3), (.s 4)])] (.t [(.s 2), .k]) (A.ar1 r_fixture_Keys)
end Go.Proofs.Ytohbeolimnpehaa

/- What the functions of the package compute: written by a program from their code; that it is what the code does is shown elsewhere. -/
namespace Go.Proofs.Ytohbeolimnpehaa
set_option linter.unusedSectionVars false
set_option linter.unusedSimpArgs false
set_option linter.unusedVariables false
set_option maxRecDepth 100000
noncomputable def r_level_CheckCurve (a0 : AV) (σ : Heap) : Option (AV × Heap) :=
 (A.cells 2 a0).bind fun c1 =>
 (A.part1 0 c1).bind fun x2 =>
 (m_word_Within [x2, (AV.int .i64 1), (AV.int .i64 6)] σ).bind fun r3 =>
 (A.not r3.1).bind fun x4 =>
 A.cond x4 (
  A.fin σ (AV.int .i64 4) r3.2) (
  (A.part1 1 c1).bind fun x5 =>
  (A.part1 0 c1).bind fun x6 =>
  (A.neq .i x6 (AV.int .i64 6)).bind fun x7 =>
  A.cond x7 (
   (A.lenS x5).bind fun x8 =>
   (A.gtr x8 (AV.int .i64 0)).bind fun x9 =>
   (m_word_When [x9, (AV.int .i64 3)] r3.2).bind fun r10 =>
   A.fin σ r10.1 r10.2) (
   (A.lenS x5).bind fun x11 =>
   (A.lss x11 (AV.int .i64 2)).bind fun x12 =>
   A.cond x12 (
    A.fin σ (AV.int .i64 8) r3.2) (
    (A.lenS x5).bind fun x13 =>
    (A.gtr x13 (AV.int .i64 20)).bind fun x14 =>
    A.cond x14 (
     A.fin σ (AV.int .i64 2) r3.2) (
     (A.lenS x5).bind fun x15 =>
     (A.loop (fun v16 s17 =>
       (A.lss (v16.getD 1 AV.undef) x15).bind fun x18 =>
       A.cond x18 (
        (A.iaddr 2 x5 (v16.getD 1 AV.undef)).bind fun x19 =>
        ((A.deref x19 s17).bind fun c20 => A.partA 0 2 c20).bind fun x21 =>
        (A.cells 2 x21).bind fun c22 =>
        (A.splice 0 c22 [(AV.int .i64 0), (AV.int .i64 0)]).bind fun c23 =>
        (A.part1 0 c23).bind fun x24 =>
        (m_word_Within [x24, (AV.int .i64 0), (AV.int .i64 1000)] s17).bind fun r25 =>
        (A.not r25.1).bind fun x26 =>
        (A.guard x26 false (A.part1 1 c23) (some (AV.tup []))).bind fun x27 =>
        (A.guard x26 false (A.quiet (m_word_Within [x27, (AV.int .i64 0), (AV.int .i64 1000)] r25.2) r25.2) (some (AV.tup []))).bind fun x28 =>
        (A.guard x26 false (A.not x28) (some (AV.tup []))).bind fun x29 =>
        (A.pick x26 (AV.bool true) x29).bind fun x30 =>
        A.cond x30 (
         some (AX.ret, [(AV.int .i64 1), (v16.getD 1 AV.undef)], r25.2)) (
         (A.add (v16.getD 1 AV.undef) (AV.int .i64 1)).bind fun x31 =>
         some (AX.normal, [(v16.getD 0 AV.undef), x31], r25.2))) (
        some (AX.exit 0, [(v16.getD 0 AV.undef), (v16.getD 1 AV.undef)], s17))) [(AV.int .i64 0), (AV.int .i64 0)] r3.2).bind fun r32 =>
     bif r32.1 == AX.exit 0 then (
      (A.iaddr 2 x5 (AV.int .i64 0)).bind fun x33 =>
      ((A.deref x33 r32.2.2).bind fun c34 => A.partA 0 2 c34).bind fun x35 =>
      (A.neq (.s [0, 0]) x35 (AV.agg [(AV.int .i64 0), (AV.int .i64 0)])).bind fun x36 =>
      (A.guard x36 false (some x5) (some (AV.tup []))).bind fun x37 =>
      (A.guard x36 false (some x5) (some (AV.tup []))).bind fun x38 =>
      (A.guard x36 false (A.lenS x38) (some (AV.tup []))).bind fun x39 =>
      (A.guard x36 false (A.sub x39 (AV.int .i64 1)) (some (AV.tup []))).bind fun x40 =>
      (A.guard x36 false (A.iaddr 2 x37 x40) (some (AV.tup []))).bind fun x41 =>
      (A.guard x36 false ((A.deref x41 r32.2.2).bind fun c42 => A.partA 0 2 c42) (some (AV.tup []))).bind fun x43 =>
      (A.guard x36 false ((((A.cell (AV.int .i64 1000)).bind fun v => some [v]).bind fun c44 => (A.splice 0 c44 [(AV.int .i64 0), (AV.int .i64 0)]).bind fun c45 => ((A.cell (AV.int .i64 1000)).bind fun v => some [v]).bind fun c46 => (A.splice 1 c46 c45).bind fun c47 => some c47).bind fun cs => some (AV.agg cs)) (some (AV.tup []))).bind fun x48 =>
      (A.guard x36 false (A.neq (.s [0, 0]) x43 x48) (some (AV.tup []))).bind fun x49 =>
      (A.pick x36 (AV.bool true) x49).bind fun x50 =>
      A.cond x50 (
       A.fin σ (AV.int .i64 3) r32.2.2) (
       (A.loop (fun v51 s52 =>
         (A.lenS x5).bind fun x53 =>
         (A.lss (v51.getD 1 AV.undef) x53).bind fun x54 =>
         A.cond x54 (
          (A.iaddr 2 x5 (v51.getD 1 AV.undef)).bind fun x55 =>
          (A.faddr 0 x55).bind fun x56 =>
          ((A.deref x56 s52).bind fun c57 => A.part1 0 c57).bind fun x58 =>
          (A.sub (v51.getD 1 AV.undef) (AV.int .i64 1)).bind fun x59 =>
          (A.iaddr 2 x5 x59).bind fun x60 =>
          (A.faddr 0 x60).bind fun x61 =>
          ((A.deref x61 s52).bind fun c62 => A.part1 0 c62).bind fun x63 =>
          (A.leq x58 x63).bind fun x64 =>
          (A.guard x64 false (some x5) (some (AV.tup []))).bind fun x65 =>
          (A.guard x64 false (some (v51.getD 1 AV.undef)) (some (AV.tup []))).bind fun x66 =>
          (A.guard x64 false (A.iaddr 2 x65 x66) (some (AV.tup []))).bind fun x67 =>
          (A.guard x64 false (A.faddr 1 x67) (some (AV.tup []))).bind fun x68 =>
          (A.guard x64 false ((A.deref x68 s52).bind fun c69 => A.part1 0 c69) (some (AV.tup []))).bind fun x70 =>
          (A.guard x64 false (some x5) (some (AV.tup []))).bind fun x71 =>
          (A.guard x64 false (some (v51.getD 1 AV.undef)) (some (AV.tup []))).bind fun x72 =>
          (A.guard x64 false (A.sub x72 (AV.int .i64 1)) (some (AV.tup []))).bind fun x73 =>
          (A.guard x64 false (A.iaddr 2 x71 x73) (some (AV.tup []))).bind fun x74 =>
          (A.guard x64 false (A.faddr 1 x74) (some (AV.tup []))).bind fun x75 =>
          (A.guard x64 false ((A.deref x75 s52).bind fun c76 => A.part1 0 c76) (some (AV.tup []))).bind fun x77 =>
          (A.guard x64 false (A.lss x70 x77) (some (AV.tup []))).bind fun x78 =>
          (A.pick x64 (AV.bool true) x78).bind fun x79 =>
          A.cond x79 (
           some (AX.ret, [(AV.int .i64 7), (v51.getD 1 AV.undef)], s52)) (
           (A.add (v51.getD 1 AV.undef) (AV.int .i64 1)).bind fun x80 =>
           some (AX.normal, [(v51.getD 0 AV.undef), x80], s52))) (
          some (AX.exit 2, [(v51.getD 0 AV.undef), (v51.getD 1 AV.undef)], s52))) [(r32.2.1.getD 0 AV.undef), (AV.int .i64 1)] r32.2.2).bind fun r81 =>
       bif r81.1 == AX.exit 2 then (
        A.fin σ (AV.int .i64 0) r81.2.2) else
       bif r81.1 == AX.ret then (
        A.fin σ (r81.2.1.getD 0 AV.undef) r81.2.2) else
       none)) else
     bif r32.1 == AX.ret then (
      A.fin σ (r32.2.1.getD 0 AV.undef) r32.2.2) else
     none))))
noncomputable def m_level_CheckCurve : List AV → Heap → Option (AV × Heap) := A.wrap true [(.a [.k, (.s 2)])] .k (A.ar1 r_level_CheckCurve)
end Go.Proofs.Ytohbeolimnpehaa

/- What the functions of the package compute: written by a program from their code; that it is what the code does is shown elsewhere. -/
namespace Go.Proofs.Ytohbeolimnpehaa
set_option linter.unusedSectionVars false
set_option linter.unusedSimpArgs false
set_option linter.unusedVariables false
set_option maxRecDepth 100000
noncomputable def r_pick_isLevel (a0 : AV) (σ : Heap) : Option (AV × Heap) :=
 (m_word_Within [a0, (AV.int .i64 0), (AV.int .i64 65535)] σ).bind fun r1 =>
 A.fin σ r1.1 r1.2
noncomputable def m_pick_isLevel : List AV → Heap → Option (AV × Heap) := A.wrap true [] .k (A.ar1 r_pick_isLevel)
noncomputable def r_pick_Level (a0 a1 a2 : AV) (σ : Heap) : Option (AV × Heap) :=
 (A.cells 2 a1).bind fun c1 =>
 (A.cells 2 a2).bind fun c2 =>
 (A.part1 0 c2).bind fun x3 =>
 (A.neq .i x3 (AV.int .i64 0)).bind fun x4 =>
 (A.guard x4 true (A.part1 1 c2) (some (AV.tup []))).bind fun x5 =>
 (A.guard x4 true (A.neq .i x5 (AV.int .i64 0)) (some (AV.tup []))).bind fun x6 =>
 (A.pick x4 x6 (AV.bool false)).bind fun x7 =>
 A.cond x7 (
  A.fin σ (AV.tup [(AV.int .i64 0), (AV.int .i64 3)]) σ) (
  (A.part1 0 c2).bind fun x8 =>
  (m_pick_isLevel [x8] σ).bind fun r9 =>
  (A.not r9.1).bind fun x10 =>
  A.cond x10 (
   A.fin σ (AV.tup [(AV.int .i64 0), (AV.int .i64 1)]) r9.2) (
   (A.part1 1 c2).bind fun x11 =>
   (A.eql .i x11 (AV.int .i64 0)).bind fun x12 =>
   A.cond x12 (
    (A.part1 0 c2).bind fun x13 =>
    A.fin σ (AV.tup [x13, (AV.int .i64 0)]) r9.2) (
    (A.lenS a0).bind fun x14 =>
    (A.loop (fun v15 s16 =>
      (A.lss (v15.getD 4 AV.undef) x14).bind fun x17 =>
      A.cond x17 (
       (A.iaddr 3 a0 (v15.getD 4 AV.undef)).bind fun x18 =>
       ((A.deref x18 s16).bind fun c19 => A.partA 0 3 c19).bind fun x20 =>
       (A.cells 3 x20).bind fun c21 =>
       (A.splice 0 c21 [(AV.int .i64 0), (AV.str ⟨#[]⟩), AV.nsl]).bind fun c22 =>
       (A.part1 0 c22).bind fun x23 =>
       ((A.lb (v15.getD 1 AV.undef)).bind fun _ => some (1)).bind fun p24 =>
       ((A.lb (v15.getD 1 AV.undef)).bind fun c25 => A.part1 p24 c25).bind fun x26 =>
       (A.neq .i x23 x26).bind fun x27 =>
       A.cond x27 (
        (A.add (v15.getD 4 AV.undef) (AV.int .i64 1)).bind fun x28 =>
        some (AX.normal, [(v15.getD 0 AV.undef), (v15.getD 1 AV.undef), (v15.getD 2 AV.undef), (v15.getD 3 AV.undef), x28], s16)) (
        (A.part1 2 c22).bind fun x29 =>
        (A.lenS x29).bind fun x30 =>
        (A.loop (fun v31 s32 =>
          (A.lss (v31.getD 3 AV.undef) x30).bind fun x33 =>
          A.cond x33 (
           (A.iaddr 3 x29 (v31.getD 3 AV.undef)).bind fun x34 =>
           ((A.deref x34 s32).bind fun c35 => A.partA 0 3 c35).bind fun x36 =>
           (A.cells 3 x36).bind fun c37 =>
           (A.splice 0 c37 [(AV.int .i64 0), (AV.str ⟨#[]⟩), (AV.int .i64 0)]).bind fun c38 =>
           (A.partA 0 2 c38).bind fun x39 =>
           ((A.lb (v31.getD 0 AV.undef)).bind fun c40 => A.partA 0 2 c40).bind fun x41 =>
           (A.eql (.s [0, 2]) x39 x41).bind fun x42 =>
           A.cond x42 (
            (A.part1 2 c38).bind fun x43 =>
            some (AX.ret, [(v31.getD 0 AV.undef), x43, (AV.int .i64 0), (v31.getD 3 AV.undef)], s32)) (
            (A.add (v31.getD 3 AV.undef) (AV.int .i64 1)).bind fun x44 =>
            some (AX.normal, [(v31.getD 0 AV.undef), (v31.getD 1 AV.undef), (v31.getD 2 AV.undef), x44], s32))) (
           some (AX.exit 2, [(v31.getD 0 AV.undef), (v31.getD 1 AV.undef), (v31.getD 2 AV.undef), (v31.getD 3 AV.undef)], s32))) [(v15.getD 0 AV.undef), (v15.getD 2 AV.undef), (v15.getD 3 AV.undef), (AV.int .i64 0)] s16).bind fun r45 =>
        bif r45.1 == AX.exit 2 then (
         some (AX.exit 0, [(r45.2.1.getD 0 AV.undef), AV.undef, (r45.2.1.getD 1 AV.undef), (r45.2.1.getD 2 AV.undef), (v15.getD 4 AV.undef)], r45.2.2)) else
        bif r45.1 == AX.ret then (
         some (AX.ret, [(r45.2.1.getD 0 AV.undef), AV.undef, (r45.2.1.getD 1 AV.undef), (r45.2.1.getD 2 AV.undef), (v15.getD 4 AV.undef)], r45.2.2)) else
        none)) (
       some (AX.exit 0, [(v15.getD 0 AV.undef), (v15.getD 1 AV.undef), (v15.getD 2 AV.undef), (v15.getD 3 AV.undef), (v15.getD 4 AV.undef)], s16))) [(AV.lbx c1), (AV.lbx c2), (AV.int .i64 0), (AV.int .i64 0), (AV.int .i64 0)] r9.2).bind fun r46 =>
    bif r46.1 == AX.exit 0 then (
     A.fin σ (AV.tup [(AV.int .i64 0), (AV.int .i64 8)]) r46.2.2) else
    bif r46.1 == AX.ret then (
     A.fin σ (AV.tup [(r46.2.1.getD 2 AV.undef), (r46.2.1.getD 3 AV.undef)]) r46.2.2) else
    none)))
noncomputable def m_pick_Level : List AV → Heap → Option (AV × Heap) := A.wrap true [(.s 3)] .k (A.ar3 r_pick_Level)
noncomputable def r_pick_keys (a0 : AV) (σ : Heap) : Option (AV × Heap) :=
 (A.cells 2 a0).bind fun c1 =>
 (A.partA 0 2 c1).bind fun x2 =>
 (m_fixture_Keys [x2] σ).bind fun r3 =>
 (A.ext 0 r3.1).bind fun x4 =>
 (A.ext 1 r3.1).bind fun x5 =>
 (A.lenS x4).bind fun x6 =>
 (A.loop (fun v7 s8 =>
   (A.lss (v7.getD 0 AV.undef) x6).bind fun x9 =>
   A.cond x9 (
    (A.iaddr 2 x4 (v7.getD 0 AV.undef)).bind fun x10 =>
    ((A.deref x10 s8).bind fun c11 => A.partA 0 2 c11).bind fun x12 =>
    (A.cells 2 x12).bind fun c13 =>
    (A.splice 0 c13 [(AV.int .i64 0), (AV.str ⟨#[]⟩)]).bind fun c14 =>
    (A.partA 0 2 c14).bind fun x15 =>
    (A.mupd (.s [0, 2]) (AV.om r3.2.length) x15 (AV.bool true) s8).bind fun h16 =>
    (A.add (v7.getD 0 AV.undef) (AV.int .i64 1)).bind fun x17 =>
    some (AX.normal, [x17], h16)) (
    some (AX.exit 0, [(v7.getD 0 AV.undef)], s8))) [(AV.int .i64 0)] (r3.2 ++ [Blk.map []])).bind fun r18 =>
 bif r18.1 == AX.exit 0 then (
  A.fin σ (AV.om r3.2.length) r18.2.2) else
 none
noncomputable def m_pick_keys : List AV → Heap → Option (AV × Heap) := A.wrap true [(.a [(.s 3), (.s 4)])] .k (A.ar1 r_pick_keys)
noncomputable def r_pick_blank (a0 : AV) (σ : Heap) : Option (AV × Heap) :=
 (A.eql .z a0 (AV.str ⟨#[]⟩)).bind fun x1 =>
 (A.guard x1 false (some a0) (some (AV.tup []))).bind fun x2 =>
 (A.guard x1 false (A.quiet (m_word_Title [x2] σ) σ) (some (AV.tup []))).bind fun x3 =>
 (A.pick x1 (AV.bool true) x3).bind fun x4 =>
 A.fin σ x4 σ
noncomputable def m_pick_blank : List AV → Heap → Option (AV × Heap) := A.wrap true [] .k (A.ar1 r_pick_blank)
noncomputable def r_pick_before (a0 a1 : AV) (σ : Heap) : Option (AV × Heap) :=
 (A.cells 2 a0).bind fun c1 =>
 (A.cells 2 a1).bind fun c2 =>
 (A.part1 0 c1).bind fun x3 =>
 (A.part1 0 c2).bind fun x4 =>
 (A.neq .i x3 x4).bind fun x5 =>
 A.cond x5 (
  (A.part1 0 c1).bind fun x6 =>
  (A.part1 0 c2).bind fun x7 =>
  (A.lss x6 x7).bind fun x8 =>
  A.fin σ x8 σ) (
  (A.part1 1 c1).bind fun x9 =>
  (A.part1 1 c2).bind fun x10 =>
  (m_strings_Compare [x9, x10] σ).bind fun r11 =>
  (A.lss r11.1 (AV.int .i64 0)).bind fun x12 =>
  A.fin σ x12 r11.2)
noncomputable def m_pick_before : List AV → Heap → Option (AV × Heap) := A.wrap true [] .k (A.ar2 r_pick_before)
noncomputable def r_pick_CheckPresets (a0 a1 : AV) (σ : Heap) : Option (AV × Heap) :=
 (A.cells 2 a0).bind fun c1 =>
 (A.partA 0 2 c1).bind fun x2 =>
 (m_fixture_CheckRig [x2] σ).bind fun r3 =>
 (A.lenS a1).bind fun x4 =>
 (A.gtr x4 (AV.int .i64 200)).bind fun x5 =>
 (m_word_When [x5, (AV.int .i64 2)] r3.2).bind fun r6 =>
 ((((A.cell r3.1).bind fun v => some [v]).bind fun c7 => (A.splice 0 c7 [(AV.int .i64 0), (AV.int .i64 0)]).bind fun c8 => ((A.cell r6.1).bind fun v => some [v]).bind fun c9 => (A.splice 1 c9 c8).bind fun c10 => some c10).bind fun cs => some (AV.sl 1 (chunks 1 2 cs))).bind fun x11 =>
 (m_word_First [x11] r6.2).bind fun r12 =>
 (A.neq .i r12.1 (AV.int .i64 0)).bind fun x13 =>
 A.cond x13 (
  A.fin σ r12.1 r12.2) (
  (A.partA 0 2 c1).bind fun x14 =>
  (m_pick_keys [x14] r12.2).bind fun r15 =>
  (A.lenS a1).bind fun x16 =>
  (A.loop (fun v17 s18 =>
    (A.lss (v17.getD 1 AV.undef) x16).bind fun x19 =>
    A.cond x19 (
     (A.iaddr 3 a1 (v17.getD 1 AV.undef)).bind fun x20 =>
     ((A.deref x20 s18).bind fun c21 => A.partA 0 3 c21).bind fun x22 =>
     (A.cells 3 x22).bind fun c23 =>
     (A.splice 0 c23 [(AV.int .i64 0), (AV.str ⟨#[]⟩), AV.nsl]).bind fun c24 =>
     (A.part1 0 c24).bind fun x25 =>
     (m_word_Within [x25, (AV.int .i64 1), (AV.int .i64 999)] s18).bind fun r26 =>
     (A.not r26.1).bind fun x27 =>
     A.cond x27 (
      some (AX.ret, [(AV.int .i64 1), (v17.getD 1 AV.undef)], r26.2)) (
      (A.gtr (v17.getD 1 AV.undef) (AV.int .i64 0)).bind fun x28 =>
      (A.guard x28 true (A.part1 0 c24) (some (AV.tup []))).bind fun x29 =>
      (A.guard x28 true (some a1) (some (AV.tup []))).bind fun x30 =>
      (A.guard x28 true (some (v17.getD 1 AV.undef)) (some (AV.tup []))).bind fun x31 =>
      (A.guard x28 true (A.sub x31 (AV.int .i64 1)) (some (AV.tup []))).bind fun x32 =>
      (A.guard x28 true (A.iaddr 3 x30 x32) (some (AV.tup []))).bind fun x33 =>
      (A.guard x28 true (A.faddr 0 x33) (some (AV.tup []))).bind fun x34 =>
      (A.guard x28 true ((A.deref x34 r26.2).bind fun c35 => A.part1 0 c35) (some (AV.tup []))).bind fun x36 =>
      (A.guard x28 true (A.leq x29 x36) (some (AV.tup []))).bind fun x37 =>
      (A.pick x28 x37 (AV.bool false)).bind fun x38 =>
      A.cond x38 (
       some (AX.ret, [(AV.int .i64 7), (v17.getD 1 AV.undef)], r26.2)) (
       (A.part1 1 c24).bind fun x39 =>
       (m_pick_blank [x39] r26.2).bind fun r40 =>
       (A.not r40.1).bind fun x41 =>
       A.cond x41 (
        some (AX.ret, [(AV.int .i64 3), (v17.getD 1 AV.undef)], r40.2)) (
        (A.part1 2 c24).bind fun x42 =>
        (A.lenS x42).bind fun x43 =>
        (A.gtr x43 (AV.int .i64 2000)).bind fun x44 =>
        A.cond x44 (
         some (AX.ret, [(AV.int .i64 2), (v17.getD 1 AV.undef)], r40.2)) (
         (A.part1 2 c24).bind fun x45 =>
         (A.lenS x45).bind fun x46 =>
         (A.loop (fun v47 s48 =>
           (A.lss (v47.getD 2 AV.undef) x46).bind fun x49 =>
           A.cond x49 (
            (A.iaddr 3 x45 (v47.getD 2 AV.undef)).bind fun x50 =>
            ((A.deref x50 s48).bind fun c51 => A.partA 0 3 c51).bind fun x52 =>
            (A.cells 3 x52).bind fun c53 =>
            (A.splice 0 c53 [(AV.int .i64 0), (AV.str ⟨#[]⟩), (AV.int .i64 0)]).bind fun c54 =>
            (A.partA 0 2 c54).bind fun x55 =>
            (A.look (.s [0, 2]) r15.1 x55 (AV.bool false) s48).bind fun x56 =>
            (A.not x56).bind fun x57 =>
            A.cond x57 (
             some (AX.ret, [(AV.int .i64 8), (v47.getD 1 AV.undef), (v47.getD 2 AV.undef)], s48)) (
             (A.part1 2 c54).bind fun x58 =>
             (m_pick_isLevel [x58] s48).bind fun r59 =>
             (A.not r59.1).bind fun x60 =>
             A.cond x60 (
              some (AX.ret, [(AV.int .i64 1), (v47.getD 1 AV.undef), (v47.getD 2 AV.undef)], r59.2)) (
              (A.gtr (v47.getD 2 AV.undef) (AV.int .i64 0)).bind fun x61 =>
              ((A.lb (v47.getD 1 AV.undef)).bind fun _ => some (2)).bind fun p62 =>
                            (A.guard x61 true ((A.lb (v47.getD 1 AV.undef)).bind fun c63 => A.part1 p62 c63) (some (AV.tup []))).bind fun x64 =>
              (A.guard x61 true (some (v47.getD 2 AV.undef)) (some (AV.tup []))).bind fun x65 =>
              (A.guard x61 true (A.sub x65 (AV.int .i64 1)) (some (AV.tup []))).bind fun x66 =>
              (A.guard x61 true (A.iaddr 3 x64 x66) (some (AV.tup []))).bind fun x67 =>
              (A.guard x61 true (A.faddr 0 x67) (some (AV.tup []))).bind fun x68 =>
              (A.guard x61 true ((A.deref x68 r59.2).bind fun c69 => A.partA 0 2 c69) (some (AV.tup []))).bind fun x70 =>
              (A.guard x61 true (A.partA 0 2 c54) (some (AV.tup []))).bind fun x71 =>
              (A.guard x61 true (A.quiet (m_pick_before [x70, x71] r59.2) r59.2) (some (AV.tup []))).bind fun x72 =>
              (A.guard x61 true (A.not x72) (some (AV.tup []))).bind fun x73 =>
              (A.pick x61 x73 (AV.bool false)).bind fun x74 =>
              A.cond x74 (
               some (AX.ret, [(AV.int .i64 7), (v47.getD 1 AV.undef), (v47.getD 2 AV.undef)], r59.2)) (
               (A.add (v47.getD 2 AV.undef) (AV.int .i64 1)).bind fun x75 =>
               some (AX.normal, [(v47.getD 0 AV.undef), (v47.getD 1 AV.undef), x75], r59.2))))) (
            some (AX.exit 3, [(v47.getD 0 AV.undef), (v47.getD 1 AV.undef), (v47.getD 2 AV.undef)], s48))) [(v17.getD 0 AV.undef), (AV.lbx c24), (AV.int .i64 0)] r40.2).bind fun r76 =>
         bif r76.1 == AX.exit 3 then (
          (A.add (v17.getD 1 AV.undef) (AV.int .i64 1)).bind fun x77 =>
          some (AX.normal, [(r76.2.1.getD 0 AV.undef), x77], r76.2.2)) else
         bif r76.1 == AX.ret then (
          some (AX.ret, [(r76.2.1.getD 0 AV.undef), (v17.getD 1 AV.undef)], r76.2.2)) else
         none))))) (
     some (AX.exit 0, [(v17.getD 0 AV.undef), (v17.getD 1 AV.undef)], s18))) [(AV.int .i64 0), (AV.int .i64 0)] r15.2).bind fun r78 =>
  bif r78.1 == AX.exit 0 then (
   A.fin σ (AV.int .i64 0) r78.2.2) else
  bif r78.1 == AX.ret then (
   A.fin σ (r78.2.1.getD 0 AV.undef) r78.2.2) else
  none)
noncomputable def m_pick_CheckPresets : List AV → Heap → Option (AV × Heap) := A.wrap true [(.a [(.s 3), (.s 4)]), (.s 3)] .k (A.ar2 r_pick_CheckPresets)
end Go.Proofs.Ytohbeolimnpehaa

/- What the functions of the package compute: written by a program from their code; that it is what the code does is shown elsewhere. -/
namespace Go.Proofs.Ytohbeolimnpehaa
set_option linter.unusedSectionVars false
set_option linter.unusedSimpArgs false
set_option linter.unusedVariables false
set_option maxRecDepth 100000
noncomputable def r_cue_isTime (a0 : AV) (σ : Heap) : Option (AV × Heap) :=
 (m_word_Within [a0, (AV.int .i64 0), (AV.int .i64 36000000)] σ).bind fun r1 =>
 A.fin σ r1.1 r1.2
noncomputable def m_cue_isTime : List AV → Heap → Option (AV × Heap) := A.wrap true [] .k (A.ar1 r_cue_isTime)
noncomputable def r_cue_compare (a0 a1 : AV) (σ : Heap) : Option (AV × Heap) :=
 (A.cells 2 a0).bind fun c1 =>
 (A.cells 2 a1).bind fun c2 =>
 (A.part1 0 c1).bind fun x3 =>
 (A.part1 0 c2).bind fun x4 =>
 (A.neq .i x3 x4).bind fun x5 =>
 A.cond x5 (
  (A.part1 0 c1).bind fun x6 =>
  (A.part1 0 c2).bind fun x7 =>
  (A.lss x6 x7).bind fun x8 =>
  A.cond x8 (
   A.fin σ (AV.int .i64 (-1)) σ) (
   A.fin σ (AV.int .i64 1) σ)) (
  (A.part1 1 c1).bind fun x9 =>
  (A.part1 1 c2).bind fun x10 =>
  (m_strings_Compare [x9, x10] σ).bind fun r11 =>
  A.fin σ r11.1 r11.2)
noncomputable def m_cue_compare : List AV → Heap → Option (AV × Heap) := A.wrap true [] .k (A.ar2 r_cue_compare)
noncomputable def r_cue_checkMoves (a0 : AV) (σ : Heap) : Option (AV × Heap) :=
 (A.lenS a0).bind fun x1 =>
 (A.loop (fun v2 s3 =>
   (A.lss (v2.getD 1 AV.undef) x1).bind fun x4 =>
   A.cond x4 (
    (A.iaddr 8 a0 (v2.getD 1 AV.undef)).bind fun x5 =>
    ((A.deref x5 s3).bind fun c6 => A.partA 0 8 c6).bind fun x7 =>
    (A.cells 8 x7).bind fun c8 =>
    (A.splice 0 c8 [(AV.int .i64 0), (AV.str ⟨#[]⟩), (AV.int .i64 0), (AV.int .i64 0), (AV.bool false), (AV.bool false), (AV.int .i64 0), (AV.int .i64 0)]).bind fun c9 =>
    (A.part1 0 c9).bind fun x10 =>
    (m_word_Within [x10, (AV.int .i64 1), (AV.int .i64 9999)] s3).bind fun r11 =>
    (A.not r11.1).bind fun x12 =>
    A.cond x12 (
     some (AX.ret, [(AV.int .i64 1), (v2.getD 1 AV.undef)], r11.2)) (
     (A.part1 1 c9).bind fun x13 =>
     (m_word_Name [x13] r11.2).bind fun r14 =>
     (A.not r14.1).bind fun x15 =>
     A.cond x15 (
      some (AX.ret, [(AV.int .i64 5), (v2.getD 1 AV.undef)], r14.2)) (
      (A.part1 4 c9).bind fun x16 =>
      (A.guard x16 true (A.partA 2 2 c9) (some (AV.tup []))).bind fun x17 =>
      (A.guard x16 true (some (AV.agg [(AV.int .i64 0), (AV.int .i64 0)])) (some (AV.tup []))).bind fun x18 =>
      (A.guard x16 true (A.neq (.s [0, 0]) x17 x18) (some (AV.tup []))).bind fun x19 =>
      (A.pick x16 x19 (AV.bool false)).bind fun x20 =>
      (A.guard x20 false (A.part1 2 c9) (some (AV.tup []))).bind fun x21 =>
      (A.guard x20 false (A.neq .i x21 (AV.int .i64 0)) (some (AV.tup []))).bind fun x22 =>
      (A.guard x20 false (some x22) (some (AV.tup []))).bind fun x23 =>
      (A.guard x23 true (A.part1 3 c9) (some (AV.tup []))).bind fun x24 =>
      (A.guard x23 true (A.neq .i x24 (AV.int .i64 0)) (some (AV.tup []))).bind fun x25 =>
      (A.guard x20 false (A.pick x23 x25 (AV.bool false)) (some (AV.tup []))).bind fun x26 =>
      (A.pick x20 (AV.bool true) x26).bind fun x27 =>
      A.cond x27 (
       some (AX.ret, [(AV.int .i64 3), (v2.getD 1 AV.undef)], r14.2)) (
       (A.part1 2 c9).bind fun x28 =>
       (m_word_Within [x28, (AV.int .i64 0), (AV.int .i64 65535)] r14.2).bind fun r29 =>
       (A.not r29.1).bind fun x30 =>
       (A.guard x30 false (A.part1 3 c9) (some (AV.tup []))).bind fun x31 =>
       (A.guard x30 false (A.quiet (m_word_Within [x31, (AV.int .i64 0), (AV.int .i64 999)] r29.2) r29.2) (some (AV.tup []))).bind fun x32 =>
       (A.guard x30 false (A.not x32) (some (AV.tup []))).bind fun x33 =>
       (A.pick x30 (AV.bool true) x33).bind fun x34 =>
       A.cond x34 (
        some (AX.ret, [(AV.int .i64 1), (v2.getD 1 AV.undef)], r29.2)) (
        (A.part1 5 c9).bind fun x35 =>
        (A.not x35).bind fun x36 =>
        (A.guard x36 true (A.part1 6 c9) (some (AV.tup []))).bind fun x37 =>
        (A.guard x36 true (A.neq .i x37 (AV.int .i64 0)) (some (AV.tup []))).bind fun x38 =>
        (A.guard x36 true (some x38) (some (AV.tup []))).bind fun x39 =>
        (A.guard x39 false (A.part1 7 c9) (some (AV.tup []))).bind fun x40 =>
        (A.guard x39 false (A.neq .i x40 (AV.int .i64 0)) (some (AV.tup []))).bind fun x41 =>
        (A.guard x36 true (A.pick x39 (AV.bool true) x41) (some (AV.tup []))).bind fun x42 =>
        (A.pick x36 x42 (AV.bool false)).bind fun x43 =>
        A.cond x43 (
         some (AX.ret, [(AV.int .i64 3), (v2.getD 1 AV.undef)], r29.2)) (
         (A.part1 6 c9).bind fun x44 =>
         (m_cue_isTime [x44] r29.2).bind fun r45 =>
         (A.not r45.1).bind fun x46 =>
         (A.guard x46 false (A.part1 7 c9) (some (AV.tup []))).bind fun x47 =>
         (A.guard x46 false (A.quiet (m_cue_isTime [x47] r45.2) r45.2) (some (AV.tup []))).bind fun x48 =>
         (A.guard x46 false (A.not x48) (some (AV.tup []))).bind fun x49 =>
         (A.pick x46 (AV.bool true) x49).bind fun x50 =>
         A.cond x50 (
          some (AX.ret, [(AV.int .i64 1), (v2.getD 1 AV.undef)], r45.2)) (
          (A.gtr (v2.getD 1 AV.undef) (AV.int .i64 0)).bind fun x51 =>
          (A.guard x51 true (some a0) (some (AV.tup []))).bind fun x52 =>
          (A.guard x51 true (some (v2.getD 1 AV.undef)) (some (AV.tup []))).bind fun x53 =>
          (A.guard x51 true (A.sub x53 (AV.int .i64 1)) (some (AV.tup []))).bind fun x54 =>
          (A.guard x51 true (A.iaddr 8 x52 x54) (some (AV.tup []))).bind fun x55 =>
          (A.guard x51 true (A.faddr 0 x55) (some (AV.tup []))).bind fun x56 =>
          (A.guard x51 true ((A.deref x56 r45.2).bind fun c57 => A.partA 0 2 c57) (some (AV.tup []))).bind fun x58 =>
          (A.guard x51 true (A.partA 0 2 c9) (some (AV.tup []))).bind fun x59 =>
          (A.guard x51 true (A.quiet (m_cue_compare [x58, x59] r45.2) r45.2) (some (AV.tup []))).bind fun x60 =>
          (A.guard x51 true (A.geq x60 (AV.int .i64 0)) (some (AV.tup []))).bind fun x61 =>
          (A.pick x51 x61 (AV.bool false)).bind fun x62 =>
          A.cond x62 (
           some (AX.ret, [(AV.int .i64 7), (v2.getD 1 AV.undef)], r45.2)) (
           (A.add (v2.getD 1 AV.undef) (AV.int .i64 1)).bind fun x63 =>
           some (AX.normal, [(v2.getD 0 AV.undef), x63], r45.2))))))))) (
    some (AX.exit 0, [(v2.getD 0 AV.undef), (v2.getD 1 AV.undef)], s3))) [(AV.int .i64 0), (AV.int .i64 0)] σ).bind fun r64 =>
 bif r64.1 == AX.exit 0 then (
  A.fin σ (AV.int .i64 0) r64.2.2) else
 bif r64.1 == AX.ret then (
  A.fin σ (r64.2.1.getD 0 AV.undef) r64.2.2) else
 none
noncomputable def m_cue_checkMoves : List AV → Heap → Option (AV × Heap) := A.wrap true [(.s 8)] .k (A.ar1 r_cue_checkMoves)
noncomputable def r_cue_form (a0 : AV) (σ : Heap) : Option (AV × Heap) :=
 (A.lenS a0).bind fun x1 =>
 (A.gtr x1 (AV.int .i64 300)).bind fun x2 =>
 A.cond x2 (
  A.fin σ (AV.int .i64 2) σ) (
  (A.lenS a0).bind fun x3 =>
  (A.loop (fun v4 s5 =>
    (A.lss (v4.getD 2 AV.undef) x3).bind fun x6 =>
    A.cond x6 (
     (A.iaddr 11 a0 (v4.getD 2 AV.undef)).bind fun x7 =>
     ((A.deref x7 s5).bind fun c8 => A.partA 0 11 c8).bind fun x9 =>
     (A.cells 11 x9).bind fun c10 =>
     (A.splice 0 c10 [(AV.int .i64 0), (AV.str ⟨#[]⟩), (AV.int .i64 0), (AV.int .i64 0), (AV.int .i64 0), (AV.int .i64 0), (AV.int .i64 0), AV.nsl, (AV.bool false), (AV.int .i64 0), AV.nsl]).bind fun c11 =>
     (A.part1 0 c11).bind fun x12 =>
     (m_word_Within [x12, (AV.int .i64 1), (AV.int .i64 9999999)] s5).bind fun r13 =>
     (A.not r13.1).bind fun x14 =>
     A.cond x14 (
      some (AX.ret, [(AV.int .i64 1), (v4.getD 1 AV.undef), (v4.getD 2 AV.undef)], r13.2)) (
      (A.gtr (v4.getD 2 AV.undef) (AV.int .i64 0)).bind fun x15 =>
      (A.guard x15 true (A.part1 0 c11) (some (AV.tup []))).bind fun x16 =>
      (A.guard x15 true (some a0) (some (AV.tup []))).bind fun x17 =>
      (A.guard x15 true (some (v4.getD 2 AV.undef)) (some (AV.tup []))).bind fun x18 =>
      (A.guard x15 true (A.sub x18 (AV.int .i64 1)) (some (AV.tup []))).bind fun x19 =>
      (A.guard x15 true (A.iaddr 11 x17 x19) (some (AV.tup []))).bind fun x20 =>
      (A.guard x15 true (A.faddr 0 x20) (some (AV.tup []))).bind fun x21 =>
      (A.guard x15 true ((A.deref x21 r13.2).bind fun c22 => A.part1 0 c22) (some (AV.tup []))).bind fun x23 =>
      (A.guard x15 true (A.leq x16 x23) (some (AV.tup []))).bind fun x24 =>
      (A.pick x15 x24 (AV.bool false)).bind fun x25 =>
      A.cond x25 (
       some (AX.ret, [(AV.int .i64 7), (v4.getD 1 AV.undef), (v4.getD 2 AV.undef)], r13.2)) (
       (A.part1 1 c11).bind fun x26 =>
       (A.neq .z x26 (AV.str ⟨#[]⟩)).bind fun x27 =>
       (A.guard x27 true (A.part1 1 c11) (some (AV.tup []))).bind fun x28 =>
       (A.guard x27 true (A.quiet (m_word_Title [x28] r13.2) r13.2) (some (AV.tup []))).bind fun x29 =>
       (A.guard x27 true (A.not x29) (some (AV.tup []))).bind fun x30 =>
       (A.pick x27 x30 (AV.bool false)).bind fun x31 =>
       A.cond x31 (
        some (AX.ret, [(AV.int .i64 3), (v4.getD 1 AV.undef), (v4.getD 2 AV.undef)], r13.2)) (
        (A.part1 2 c11).bind fun x32 =>
        (m_cue_isTime [x32] r13.2).bind fun r33 =>
        (A.not r33.1).bind fun x34 =>
        (A.guard x34 false (A.part1 3 c11) (some (AV.tup []))).bind fun x35 =>
        (A.guard x34 false (A.quiet (m_cue_isTime [x35] r33.2) r33.2) (some (AV.tup []))).bind fun x36 =>
        (A.guard x34 false (A.not x36) (some (AV.tup []))).bind fun x37 =>
        (A.pick x34 (AV.bool true) x37).bind fun x38 =>
        (A.guard x38 false (A.part1 4 c11) (some (AV.tup []))).bind fun x39 =>
        (A.guard x38 false (A.quiet (m_cue_isTime [x39] r33.2) r33.2) (some (AV.tup []))).bind fun x40 =>
        (A.guard x38 false (A.not x40) (some (AV.tup []))).bind fun x41 =>
        (A.pick x38 (AV.bool true) x41).bind fun x42 =>
        (A.guard x42 false (A.part1 5 c11) (some (AV.tup []))).bind fun x43 =>
        (A.guard x42 false (A.quiet (m_cue_isTime [x43] r33.2) r33.2) (some (AV.tup []))).bind fun x44 =>
        (A.guard x42 false (A.not x44) (some (AV.tup []))).bind fun x45 =>
        (A.pick x42 (AV.bool true) x45).bind fun x46 =>
        (A.guard x46 false (A.part1 9 c11) (some (AV.tup []))).bind fun x47 =>
        (A.guard x46 false (A.quiet (m_word_Within [x47, (AV.int .i64 (-1)), (AV.int .i64 36000000)] r33.2) r33.2) (some (AV.tup []))).bind fun x48 =>
        (A.guard x46 false (A.not x48) (some (AV.tup []))).bind fun x49 =>
        (A.pick x46 (AV.bool true) x49).bind fun x50 =>
        A.cond x50 (
         some (AX.ret, [(AV.int .i64 1), (v4.getD 1 AV.undef), (v4.getD 2 AV.undef)], r33.2)) (
         (A.partA 6 2 c11).bind fun x51 =>
         (m_level_CheckCurve [x51] r33.2).bind fun r52 =>
         (A.neq .i r52.1 (AV.int .i64 0)).bind fun x53 =>
         A.cond x53 (
          some (AX.ret, [r52.1, (v4.getD 1 AV.undef), (v4.getD 2 AV.undef)], r52.2)) (
          (A.part1 10 c11).bind fun x54 =>
          (A.lenS x54).bind fun x55 =>
          (A.gtr x55 (AV.int .i64 2000)).bind fun x56 =>
          A.cond x56 (
           some (AX.ret, [(AV.int .i64 2), (v4.getD 1 AV.undef), (v4.getD 2 AV.undef)], r52.2)) (
           (A.part1 10 c11).bind fun x57 =>
           (m_cue_checkMoves [x57] r52.2).bind fun r58 =>
           (A.neq .i r58.1 (AV.int .i64 0)).bind fun x59 =>
           A.cond x59 (
            some (AX.ret, [r58.1, (v4.getD 1 AV.undef), (v4.getD 2 AV.undef)], r58.2)) (
            (A.part1 10 c11).bind fun x60 =>
            (A.lenS x60).bind fun x61 =>
            (A.add (v4.getD 1 AV.undef) x61).bind fun x62 =>
            (A.add (v4.getD 2 AV.undef) (AV.int .i64 1)).bind fun x63 =>
            some (AX.normal, [(v4.getD 0 AV.undef), x62, x63], r58.2))))))))) (
     some (AX.exit 0, [(v4.getD 0 AV.undef), (v4.getD 1 AV.undef), (v4.getD 2 AV.undef)], s5))) [(AV.int .i64 0), (AV.int .i64 0), (AV.int .i64 0)] σ).bind fun r64 =>
  bif r64.1 == AX.exit 0 then (
   (A.gtr (r64.2.1.getD 1 AV.undef) (AV.int .i64 10000)).bind fun x65 =>
   (m_word_When [x65, (AV.int .i64 2)] r64.2.2).bind fun r66 =>
   A.fin σ r66.1 r66.2) else
  bif r64.1 == AX.ret then (
   A.fin σ (r64.2.1.getD 0 AV.undef) r64.2.2) else
  none)
noncomputable def m_cue_form : List AV → Heap → Option (AV × Heap) := A.wrap true [(.s 11)] .k (A.ar1 r_cue_form)
noncomputable def r_cue_CheckList (a0 a1 a2 : AV) (σ : Heap) : Option (AV × Heap) :=
 (A.cells 2 a0).bind fun c1 =>
 (A.partA 0 2 c1).bind fun x2 =>
 (m_pick_CheckPresets [x2, a1] σ).bind fun r3 =>
 (m_cue_form [a2] r3.2).bind fun r4 =>
 ((((A.cell r3.1).bind fun v => some [v]).bind fun c5 => (A.splice 0 c5 [(AV.int .i64 0), (AV.int .i64 0)]).bind fun c6 => ((A.cell r4.1).bind fun v => some [v]).bind fun c7 => (A.splice 1 c7 c6).bind fun c8 => some c8).bind fun cs => some (AV.sl 1 (chunks 1 2 cs))).bind fun x9 =>
 (m_word_First [x9] r4.2).bind fun r10 =>
 (A.neq .i r10.1 (AV.int .i64 0)).bind fun x11 =>
 A.cond x11 (
  A.fin σ r10.1 r10.2) (
  (A.partA 0 2 c1).bind fun x12 =>
  (m_fixture_Keys [x12] r10.2).bind fun r13 =>
  (A.ext 0 r13.1).bind fun x14 =>
  (A.ext 1 r13.1).bind fun x15 =>
  (A.lenS x14).bind fun x16 =>
  (A.loop (fun v17 s18 =>
    (A.lss (v17.getD 0 AV.undef) x16).bind fun x19 =>
    A.cond x19 (
     (A.iaddr 2 x14 (v17.getD 0 AV.undef)).bind fun x20 =>
     ((A.deref x20 s18).bind fun c21 => A.partA 0 2 c21).bind fun x22 =>
     (A.cells 2 x22).bind fun c23 =>
     (A.splice 0 c23 [(AV.int .i64 0), (AV.str ⟨#[]⟩)]).bind fun c24 =>
     (A.partA 0 2 c24).bind fun x25 =>
     (A.mupd (.s [0, 2]) (AV.om r13.2.length) x25 (AV.bool true) s18).bind fun h26 =>
     (A.add (v17.getD 0 AV.undef) (AV.int .i64 1)).bind fun x27 =>
     some (AX.normal, [x27], h26)) (
     some (AX.exit 0, [(v17.getD 0 AV.undef)], s18))) [(AV.int .i64 0)] (r13.2 ++ [Blk.map []])).bind fun r28 =>
  bif r28.1 == AX.exit 0 then (
   (A.lenS a2).bind fun x29 =>
   (A.loop (fun v30 s31 =>
     (A.lss (v30.getD 1 AV.undef) x29).bind fun x32 =>
     A.cond x32 (
      (A.iaddr 11 a2 (v30.getD 1 AV.undef)).bind fun x33 =>
      ((A.deref x33 s31).bind fun c34 => A.partA 0 11 c34).bind fun x35 =>
      (A.cells 11 x35).bind fun c36 =>
      (A.splice 0 c36 [(AV.int .i64 0), (AV.str ⟨#[]⟩), (AV.int .i64 0), (AV.int .i64 0), (AV.int .i64 0), (AV.int .i64 0), (AV.int .i64 0), AV.nsl, (AV.bool false), (AV.int .i64 0), AV.nsl]).bind fun c37 =>
      (A.part1 10 c37).bind fun x38 =>
      (A.lenS x38).bind fun x39 =>
      (A.loop (fun v40 s41 =>
        (A.lss (v40.getD 1 AV.undef) x39).bind fun x42 =>
        A.cond x42 (
         (A.iaddr 8 x38 (v40.getD 1 AV.undef)).bind fun x43 =>
         ((A.deref x43 s41).bind fun c44 => A.partA 0 8 c44).bind fun x45 =>
         (A.cells 8 x45).bind fun c46 =>
         (A.splice 0 c46 [(AV.int .i64 0), (AV.str ⟨#[]⟩), (AV.int .i64 0), (AV.int .i64 0), (AV.bool false), (AV.bool false), (AV.int .i64 0), (AV.int .i64 0)]).bind fun c47 =>
         (A.partA 0 2 c47).bind fun x48 =>
         (A.look (.s [0, 2]) (AV.om r13.2.length) x48 (AV.bool false) s41).bind fun x49 =>
         (A.not x49).bind fun x50 =>
         A.cond x50 (
          some (AX.ret, [(AV.int .i64 8), (v40.getD 1 AV.undef)], s41)) (
          (A.partA 0 2 c47).bind fun x51 =>
          (A.partA 2 2 c47).bind fun x52 =>
          (m_pick_Level [a1, x51, x52] s41).bind fun r53 =>
          (A.ext 0 r53.1).bind fun x54 =>
          (A.ext 1 r53.1).bind fun x55 =>
          (A.neq .i x55 (AV.int .i64 0)).bind fun x56 =>
          A.cond x56 (
           some (AX.ret, [x55, (v40.getD 1 AV.undef)], r53.2)) (
           (A.add (v40.getD 1 AV.undef) (AV.int .i64 1)).bind fun x57 =>
           some (AX.normal, [(v40.getD 0 AV.undef), x57], r53.2)))) (
         some (AX.exit 4, [(v40.getD 0 AV.undef), (v40.getD 1 AV.undef)], s41))) [(v30.getD 0 AV.undef), (AV.int .i64 0)] s31).bind fun r58 =>
      bif r58.1 == AX.exit 4 then (
       (A.add (v30.getD 1 AV.undef) (AV.int .i64 1)).bind fun x59 =>
       some (AX.normal, [(r58.2.1.getD 0 AV.undef), x59], r58.2.2)) else
      bif r58.1 == AX.ret then (
       some (AX.ret, [(r58.2.1.getD 0 AV.undef), (v30.getD 1 AV.undef)], r58.2.2)) else
      none) (
      some (AX.exit 2, [(v30.getD 0 AV.undef), (v30.getD 1 AV.undef)], s31))) [(AV.int .i64 0), (AV.int .i64 0)] r28.2.2).bind fun r60 =>
   bif r60.1 == AX.exit 2 then (
    A.fin σ (AV.int .i64 0) r60.2.2) else
   bif r60.1 == AX.ret then (
    A.fin σ (r60.2.1.getD 0 AV.undef) r60.2.2) else
   none) else
  none)
noncomputable def m_cue_CheckList : List AV → Heap → Option (AV × Heap) := A.wrap true [(.a [(.s 3), (.s 4)]), (.s 3), (.s 11)] .k (A.ar3 r_cue_CheckList)
end Go.Proofs.Ytohbeolimnpehaa

/- What the functions of the package compute: written by a program from their code; that it is what the code does is shown elsewhere. -/
namespace Go.Proofs.Ytohbeolimnpehaa
set_option linter.unusedSectionVars false
set_option linter.unusedSimpArgs false
set_option linter.unusedVariables false
set_option maxRecDepth 100000
noncomputable def r_R1_Within (a0 a1 a2 : AV) (σ : Heap) : Option (AV × Heap) :=
 (A.geq a0 a1).bind fun x1 =>
 (A.guard x1 true (some a0) (some (AV.tup []))).bind fun x2 =>
 (A.guard x1 true (some a2) (some (AV.tup []))).bind fun x3 =>
 (A.guard x1 true (A.leq x2 x3) (some (AV.tup []))).bind fun x4 =>
 (A.pick x1 x4 (AV.bool false)).bind fun x5 =>
 A.fin σ x5 σ
noncomputable def m_R1_Within : List AV → Heap → Option (AV × Heap) := A.wrap true [] .k (A.ar3 r_R1_Within)
noncomputable def r_R1_IsLevel (a0 : AV) (σ : Heap) : Option (AV × Heap) :=
 (m_R1_Within [a0, (AV.int .i64 0), (AV.int .i64 65535)] σ).bind fun r1 =>
 A.fin σ r1.1 r1.2
noncomputable def m_R1_IsLevel : List AV → Heap → Option (AV × Heap) := A.wrap true [] .k (A.ar1 r_R1_IsLevel)
noncomputable def r_R1_IsWord (a0 : AV) (σ : Heap) : Option (AV × Heap) :=
 (A.lenZ a0).bind fun x1 =>
 (A.loop (fun v2 s3 =>
   (A.lss (v2.getD 1 AV.undef) x1).bind fun x4 =>
   A.cond x4 (
    (A.sidx a0 (v2.getD 1 AV.undef)).bind fun x5 =>
    (A.lss x5 (AV.int .u8 97)).bind fun x6 =>
    (A.guard x6 false (some x5) (some (AV.tup []))).bind fun x7 =>
    (A.guard x6 false (A.gtr x7 (AV.int .u8 122)) (some (AV.tup []))).bind fun x8 =>
    (A.pick x6 (AV.bool true) x8).bind fun x9 =>
    (A.guard x9 true (some x5) (some (AV.tup []))).bind fun x10 =>
    (A.guard x9 true (A.lss x10 (AV.int .u8 48)) (some (AV.tup []))).bind fun x11 =>
    (A.guard x9 true (some x11) (some (AV.tup []))).bind fun x12 =>
    (A.guard x12 false (some x5) (some (AV.tup []))).bind fun x13 =>
    (A.guard x12 false (A.gtr x13 (AV.int .u8 57)) (some (AV.tup []))).bind fun x14 =>
    (A.guard x9 true (A.pick x12 (AV.bool true) x14) (some (AV.tup []))).bind fun x15 =>
    (A.pick x9 x15 (AV.bool false)).bind fun x16 =>
    (A.guard x16 true (some x5) (some (AV.tup []))).bind fun x17 =>
    (A.guard x16 true (A.neq .i x17 (AV.int .u8 45)) (some (AV.tup []))).bind fun x18 =>
    (A.pick x16 x18 (AV.bool false)).bind fun x19 =>
    A.cond x19 (
     some (AX.ret, [(AV.bool false), (v2.getD 1 AV.undef)], s3)) (
     (A.add (v2.getD 1 AV.undef) (AV.int .i64 1)).bind fun x20 =>
     some (AX.normal, [(v2.getD 0 AV.undef), x20], s3))) (
    some (AX.exit 0, [(v2.getD 0 AV.undef), (v2.getD 1 AV.undef)], s3))) [(AV.bool false), (AV.int .i64 0)] σ).bind fun r21 =>
 bif r21.1 == AX.exit 0 then (
  (A.neq .z a0 (AV.str ⟨#[]⟩)).bind fun x22 =>
  A.fin σ x22 r21.2.2) else
 bif r21.1 == AX.ret then (
  A.fin σ (r21.2.1.getD 0 AV.undef) r21.2.2) else
 none
noncomputable def m_R1_IsWord : List AV → Heap → Option (AV × Heap) := A.wrap true [] .k (A.ar1 r_R1_IsWord)
noncomputable def r_R1_IsName (a0 : AV) (σ : Heap) : Option (AV × Heap) :=
 (m_R1_IsWord [a0] σ).bind fun r1 =>
 (A.guard r1.1 true (some a0) (some (AV.tup []))).bind fun x2 =>
 (A.guard r1.1 true (A.lenZ x2) (some (AV.tup []))).bind fun x3 =>
 (A.guard r1.1 true (A.leq x3 (AV.int .i64 20)) (some (AV.tup []))).bind fun x4 =>
 (A.pick r1.1 x4 (AV.bool false)).bind fun x5 =>
 (A.guard x5 true (some a0) (some (AV.tup []))).bind fun x6 =>
 (A.guard x5 true (A.sidx x6 (AV.int .i64 0)) (some (AV.tup []))).bind fun x7 =>
 (A.guard x5 true (A.geq x7 (AV.int .u8 97)) (some (AV.tup []))).bind fun x8 =>
 (A.pick x5 x8 (AV.bool false)).bind fun x9 =>
 (A.guard x9 true (some a0) (some (AV.tup []))).bind fun x10 =>
 (A.guard x9 true (A.sidx x10 (AV.int .i64 0)) (some (AV.tup []))).bind fun x11 =>
 (A.guard x9 true (A.leq x11 (AV.int .u8 122)) (some (AV.tup []))).bind fun x12 =>
 (A.pick x9 x12 (AV.bool false)).bind fun x13 =>
 A.fin σ x13 r1.2
noncomputable def m_R1_IsName : List AV → Heap → Option (AV × Heap) := A.wrap true [] .k (A.ar1 r_R1_IsName)
noncomputable def r_R1_IsTitle (a0 : AV) (σ : Heap) : Option (AV × Heap) :=
 (A.eql .z a0 (AV.str ⟨#[]⟩)).bind fun x1 =>
 (A.guard x1 false (some a0) (some (AV.tup []))).bind fun x2 =>
 (A.guard x1 false (A.lenZ x2) (some (AV.tup []))).bind fun x3 =>
 (A.guard x1 false (A.gtr x3 (AV.int .i64 60)) (some (AV.tup []))).bind fun x4 =>
 (A.pick x1 (AV.bool true) x4).bind fun x5 =>
 (A.guard x5 false (some a0) (some (AV.tup []))).bind fun x6 =>
 (A.guard x5 false (A.sidx x6 (AV.int .i64 0)) (some (AV.tup []))).bind fun x7 =>
 (A.guard x5 false (A.eql .i x7 (AV.int .u8 32)) (some (AV.tup []))).bind fun x8 =>
 (A.pick x5 (AV.bool true) x8).bind fun x9 =>
 (A.guard x9 false (some a0) (some (AV.tup []))).bind fun x10 =>
 (A.guard x9 false (some a0) (some (AV.tup []))).bind fun x11 =>
 (A.guard x9 false (A.lenZ x11) (some (AV.tup []))).bind fun x12 =>
 (A.guard x9 false (A.sub x12 (AV.int .i64 1)) (some (AV.tup []))).bind fun x13 =>
 (A.guard x9 false (A.sidx x10 x13) (some (AV.tup []))).bind fun x14 =>
 (A.guard x9 false (A.eql .i x14 (AV.int .u8 32)) (some (AV.tup []))).bind fun x15 =>
 (A.pick x9 (AV.bool true) x15).bind fun x16 =>
 A.cond x16 (
  A.fin σ (AV.bool false) σ) (
  (A.lenZ a0).bind fun x17 =>
  (A.loop (fun v18 s19 =>
    (A.lss (v18.getD 1 AV.undef) x17).bind fun x20 =>
    A.cond x20 (
     (A.sidx a0 (v18.getD 1 AV.undef)).bind fun x21 =>
     (A.lss x21 (AV.int .u8 32)).bind fun x22 =>
     (A.guard x22 false (some a0) (some (AV.tup []))).bind fun x23 =>
     (A.guard x22 false (some (v18.getD 1 AV.undef)) (some (AV.tup []))).bind fun x24 =>
     (A.guard x22 false (A.sidx x23 x24) (some (AV.tup []))).bind fun x25 =>
     (A.guard x22 false (A.gtr x25 (AV.int .u8 126)) (some (AV.tup []))).bind fun x26 =>
     (A.pick x22 (AV.bool true) x26).bind fun x27 =>
     A.cond x27 (
      some (AX.ret, [(AV.bool false), (v18.getD 1 AV.undef)], s19)) (
      (A.add (v18.getD 1 AV.undef) (AV.int .i64 1)).bind fun x28 =>
      some (AX.normal, [(v18.getD 0 AV.undef), x28], s19))) (
     some (AX.exit 0, [(v18.getD 0 AV.undef), (v18.getD 1 AV.undef)], s19))) [(AV.bool false), (AV.int .i64 0)] σ).bind fun r29 =>
  bif r29.1 == AX.exit 0 then (
   A.fin σ (AV.bool true) r29.2.2) else
  bif r29.1 == AX.ret then (
   A.fin σ (r29.2.1.getD 0 AV.undef) r29.2.2) else
  none)
noncomputable def m_R1_IsTitle : List AV → Heap → Option (AV × Heap) := A.wrap true [] .k (A.ar1 r_R1_IsTitle)
noncomputable def r_R1_IsTime (a0 : AV) (σ : Heap) : Option (AV × Heap) :=
 (m_R1_Within [a0, (AV.int .i64 0), (AV.int .i64 36000000)] σ).bind fun r1 =>
 A.fin σ r1.1 r1.2
noncomputable def m_R1_IsTime : List AV → Heap → Option (AV × Heap) := A.wrap true [] .k (A.ar1 r_R1_IsTime)
noncomputable def r_R1_CheckCurve (a0 : AV) (σ : Heap) : Option (AV × Heap) :=
 (A.cells 2 a0).bind fun c1 =>
 (A.part1 0 c1).bind fun x2 =>
 (m_R1_Within [x2, (AV.int .i64 1), (AV.int .i64 6)] σ).bind fun r3 =>
 (A.not r3.1).bind fun x4 =>
 A.cond x4 (
  A.fin σ (AV.int .i64 4) r3.2) (
  (A.part1 0 c1).bind fun x5 =>
  (A.neq .i x5 (AV.int .i64 6)).bind fun x6 =>
  (A.guard x6 true (A.part1 1 c1) (some (AV.tup []))).bind fun x7 =>
  (A.guard x6 true (A.lenS x7) (some (AV.tup []))).bind fun x8 =>
  (A.guard x6 true (A.gtr x8 (AV.int .i64 0)) (some (AV.tup []))).bind fun x9 =>
  (A.pick x6 x9 (AV.bool false)).bind fun x10 =>
  A.cond x10 (
   A.fin σ (AV.int .i64 3) r3.2) (
   (A.part1 0 c1).bind fun x11 =>
   (A.neq .i x11 (AV.int .i64 6)).bind fun x12 =>
   A.cond x12 (
    A.fin σ (AV.int .i64 0) r3.2) (
    (A.part1 1 c1).bind fun x13 =>
    (A.lenS x13).bind fun x14 =>
    (A.lss x14 (AV.int .i64 2)).bind fun x15 =>
    A.cond x15 (
     A.fin σ (AV.int .i64 8) r3.2) (
     (A.part1 1 c1).bind fun x16 =>
     (A.lenS x16).bind fun x17 =>
     (A.gtr x17 (AV.int .i64 20)).bind fun x18 =>
     A.cond x18 (
      A.fin σ (AV.int .i64 2) r3.2) (
      (A.part1 1 c1).bind fun x19 =>
      (A.lenS x19).bind fun x20 =>
      (A.loop (fun v21 s22 =>
        (A.lss (v21.getD 2 AV.undef) x20).bind fun x23 =>
        A.cond x23 (
         (A.iaddr 2 x19 (v21.getD 2 AV.undef)).bind fun x24 =>
         ((A.deref x24 s22).bind fun c25 => A.partA 0 2 c25).bind fun x26 =>
         (A.cells 2 x26).bind fun c27 =>
         (A.splice 0 c27 [(AV.int .i64 0), (AV.int .i64 0)]).bind fun c28 =>
         (A.part1 0 c28).bind fun x29 =>
         (m_R1_Within [x29, (AV.int .i64 0), (AV.int .i64 1000)] s22).bind fun r30 =>
         (A.not r30.1).bind fun x31 =>
         (A.guard x31 false (A.part1 1 c28) (some (AV.tup []))).bind fun x32 =>
         (A.guard x31 false (A.quiet (m_R1_Within [x32, (AV.int .i64 0), (AV.int .i64 1000)] r30.2) r30.2) (some (AV.tup []))).bind fun x33 =>
         (A.guard x31 false (A.not x33) (some (AV.tup []))).bind fun x34 =>
         (A.pick x31 (AV.bool true) x34).bind fun x35 =>
         A.cond x35 (
          some (AX.ret, [(v21.getD 0 AV.undef), (AV.int .i64 1), (v21.getD 2 AV.undef)], r30.2)) (
          (A.add (v21.getD 2 AV.undef) (AV.int .i64 1)).bind fun x36 =>
          some (AX.normal, [(v21.getD 0 AV.undef), (v21.getD 1 AV.undef), x36], r30.2))) (
         some (AX.exit 1, [(v21.getD 0 AV.undef), (v21.getD 1 AV.undef), (v21.getD 2 AV.undef)], s22))) [(AV.lbx c1), (AV.int .i64 0), (AV.int .i64 0)] r3.2).bind fun r37 =>
      bif r37.1 == AX.exit 1 then (
       ((A.lb (r37.2.1.getD 0 AV.undef)).bind fun _ => some (1)).bind fun p38 =>
       ((A.lb (r37.2.1.getD 0 AV.undef)).bind fun c39 => A.part1 p38 c39).bind fun x40 =>
       (A.iaddr 2 x40 (AV.int .i64 0)).bind fun x41 =>
       ((A.deref x41 r37.2.2).bind fun c42 => A.partA 0 2 c42).bind fun x43 =>
       (A.neq (.s [0, 0]) x43 (AV.agg [(AV.int .i64 0), (AV.int .i64 0)])).bind fun x44 =>
       ((A.lb (r37.2.1.getD 0 AV.undef)).bind fun _ => some (1)).bind fun p45 =>
              (A.guard x44 false ((A.lb (r37.2.1.getD 0 AV.undef)).bind fun c46 => A.part1 p45 c46) (some (AV.tup []))).bind fun x47 =>
       ((A.lb (r37.2.1.getD 0 AV.undef)).bind fun _ => some (1)).bind fun p48 =>
              (A.guard x44 false ((A.lb (r37.2.1.getD 0 AV.undef)).bind fun c49 => A.part1 p48 c49) (some (AV.tup []))).bind fun x50 =>
       (A.guard x44 false (A.lenS x50) (some (AV.tup []))).bind fun x51 =>
       (A.guard x44 false (A.sub x51 (AV.int .i64 1)) (some (AV.tup []))).bind fun x52 =>
       (A.guard x44 false (A.iaddr 2 x47 x52) (some (AV.tup []))).bind fun x53 =>
       (A.guard x44 false ((A.deref x53 r37.2.2).bind fun c54 => A.partA 0 2 c54) (some (AV.tup []))).bind fun x55 =>
       (A.guard x44 false ((((A.cell (AV.int .i64 1000)).bind fun v => some [v]).bind fun c56 => (A.splice 0 c56 [(AV.int .i64 0), (AV.int .i64 0)]).bind fun c57 => ((A.cell (AV.int .i64 1000)).bind fun v => some [v]).bind fun c58 => (A.splice 1 c58 c57).bind fun c59 => some c59).bind fun cs => some (AV.agg cs)) (some (AV.tup []))).bind fun x60 =>
       (A.guard x44 false (A.neq (.s [0, 0]) x55 x60) (some (AV.tup []))).bind fun x61 =>
       (A.pick x44 (AV.bool true) x61).bind fun x62 =>
       A.cond x62 (
        A.fin σ (AV.int .i64 3) r37.2.2) (
        (A.loop (fun v63 s64 =>
          ((A.lb (v63.getD 0 AV.undef)).bind fun _ => some (1)).bind fun p65 =>
          ((A.lb (v63.getD 0 AV.undef)).bind fun c66 => A.part1 p65 c66).bind fun x67 =>
          (A.lenS x67).bind fun x68 =>
          (A.lss (v63.getD 2 AV.undef) x68).bind fun x69 =>
          A.cond x69 (
           ((A.lb (v63.getD 0 AV.undef)).bind fun _ => some (1)).bind fun p70 =>
           ((A.lb (v63.getD 0 AV.undef)).bind fun c71 => A.part1 p70 c71).bind fun x72 =>
           (A.iaddr 2 x72 (v63.getD 2 AV.undef)).bind fun x73 =>
           (A.faddr 0 x73).bind fun x74 =>
           ((A.deref x74 s64).bind fun c75 => A.part1 0 c75).bind fun x76 =>
           ((A.lb (v63.getD 0 AV.undef)).bind fun _ => some (1)).bind fun p77 =>
           ((A.lb (v63.getD 0 AV.undef)).bind fun c78 => A.part1 p77 c78).bind fun x79 =>
           (A.sub (v63.getD 2 AV.undef) (AV.int .i64 1)).bind fun x80 =>
           (A.iaddr 2 x79 x80).bind fun x81 =>
           (A.faddr 0 x81).bind fun x82 =>
           ((A.deref x82 s64).bind fun c83 => A.part1 0 c83).bind fun x84 =>
           (A.leq x76 x84).bind fun x85 =>
           ((A.lb (v63.getD 0 AV.undef)).bind fun _ => some (1)).bind fun p86 =>
                      (A.guard x85 false ((A.lb (v63.getD 0 AV.undef)).bind fun c87 => A.part1 p86 c87) (some (AV.tup []))).bind fun x88 =>
           (A.guard x85 false (some (v63.getD 2 AV.undef)) (some (AV.tup []))).bind fun x89 =>
           (A.guard x85 false (A.iaddr 2 x88 x89) (some (AV.tup []))).bind fun x90 =>
           (A.guard x85 false (A.faddr 1 x90) (some (AV.tup []))).bind fun x91 =>
           (A.guard x85 false ((A.deref x91 s64).bind fun c92 => A.part1 0 c92) (some (AV.tup []))).bind fun x93 =>
           ((A.lb (v63.getD 0 AV.undef)).bind fun _ => some (1)).bind fun p94 =>
                      (A.guard x85 false ((A.lb (v63.getD 0 AV.undef)).bind fun c95 => A.part1 p94 c95) (some (AV.tup []))).bind fun x96 =>
           (A.guard x85 false (some (v63.getD 2 AV.undef)) (some (AV.tup []))).bind fun x97 =>
           (A.guard x85 false (A.sub x97 (AV.int .i64 1)) (some (AV.tup []))).bind fun x98 =>
           (A.guard x85 false (A.iaddr 2 x96 x98) (some (AV.tup []))).bind fun x99 =>
           (A.guard x85 false (A.faddr 1 x99) (some (AV.tup []))).bind fun x100 =>
           (A.guard x85 false ((A.deref x100 s64).bind fun c101 => A.part1 0 c101) (some (AV.tup []))).bind fun x102 =>
           (A.guard x85 false (A.lss x93 x102) (some (AV.tup []))).bind fun x103 =>
           (A.pick x85 (AV.bool true) x103).bind fun x104 =>
           A.cond x104 (
            some (AX.ret, [(v63.getD 0 AV.undef), (AV.int .i64 7), (v63.getD 2 AV.undef)], s64)) (
            (A.add (v63.getD 2 AV.undef) (AV.int .i64 1)).bind fun x105 =>
            some (AX.normal, [(v63.getD 0 AV.undef), (v63.getD 1 AV.undef), x105], s64))) (
           some (AX.exit 3, [(v63.getD 0 AV.undef), (v63.getD 1 AV.undef), (v63.getD 2 AV.undef)], s64))) [(r37.2.1.getD 0 AV.undef), (r37.2.1.getD 1 AV.undef), (AV.int .i64 1)] r37.2.2).bind fun r106 =>
        bif r106.1 == AX.exit 3 then (
         A.fin σ (AV.int .i64 0) r106.2.2) else
        bif r106.1 == AX.ret then (
         A.fin σ (r106.2.1.getD 1 AV.undef) r106.2.2) else
        none)) else
      bif r37.1 == AX.ret then (
       A.fin σ (r37.2.1.getD 1 AV.undef) r37.2.2) else
      none)))))
noncomputable def m_R1_CheckCurve : List AV → Heap → Option (AV × Heap) := A.wrap true [(.a [.k, (.s 2)])] .k (A.ar1 r_R1_CheckCurve)
end Go.Proofs.Ytohbeolimnpehaa

/- What the functions of the package compute: written by a program from their code; that it is what the code does is shown elsewhere. -/
namespace Go.Proofs.Ytohbeolimnpehaa
set_option linter.unusedSectionVars false
set_option linter.unusedSimpArgs false
set_option linter.unusedVariables false
set_option maxRecDepth 100000
noncomputable def r_R2_slots (a0 : AV) (σ : Heap) : Option (AV × Heap) :=
 (A.cells 7 a0).bind fun c1 =>
 (A.part1 3 c1).bind fun x2 =>
 (A.eql .i x2 (AV.int .i64 0)).bind fun x3 =>
 A.cond x3 (
  (A.part1 2 c1).bind fun x4 =>
  ((((A.cell x4).bind fun v => some [v]).bind fun c5 => (A.splice 0 c5 [(AV.int .i64 0)]).bind fun c6 => some c6).bind fun cs => some (AV.sl 1 (chunks 1 1 cs))).bind fun x7 =>
  A.fin σ x7 σ) (
  (A.part1 2 c1).bind fun x8 =>
  (A.part1 3 c1).bind fun x9 =>
  ((((A.cell x8).bind fun v => some [v]).bind fun c10 => (A.splice 0 c10 [(AV.int .i64 0), (AV.int .i64 0)]).bind fun c11 => ((A.cell x9).bind fun v => some [v]).bind fun c12 => (A.splice 1 c12 c11).bind fun c13 => some c13).bind fun cs => some (AV.sl 1 (chunks 1 2 cs))).bind fun x14 =>
  A.fin σ x14 σ)
noncomputable def m_R2_slots : List AV → Heap → Option (AV × Heap) := A.wrap true [(.a [.k, .k, .k, .k, .k, .k, (.s 3)])] (.s 1) (A.ar1 r_R2_slots)
noncomputable def r_R2_checkParam (a0 a1 a2 : AV) (σ : Heap) : Option (AV × Heap) :=
 (A.cells 7 a0).bind fun c1 =>
 (A.part1 0 c1).bind fun x2 =>
 (m_R1_IsName [x2] σ).bind fun r3 =>
 (A.not r3.1).bind fun x4 =>
 A.cond x4 (
  A.fin σ (AV.int .i64 5) r3.2) (
  (A.lenS a1).bind fun x5 =>
  (A.loop (fun v6 s7 =>
    (A.lss (v6.getD 2 AV.undef) x5).bind fun x8 =>
    A.cond x8 (
     (A.iaddr 7 a1 (v6.getD 2 AV.undef)).bind fun x9 =>
     ((A.deref x9 s7).bind fun c10 => A.partA 0 7 c10).bind fun x11 =>
     (A.cells 7 x11).bind fun c12 =>
     (A.splice 0 c12 [(AV.str ⟨#[]⟩), (AV.int .i64 0), (AV.int .i64 0), (AV.int .i64 0), (AV.int .i64 0), (AV.bool false), AV.nsl]).bind fun c13 =>
     (A.part1 0 c13).bind fun x14 =>
     ((A.lb (v6.getD 0 AV.undef)).bind fun _ => some (0)).bind fun p15 =>
     ((A.lb (v6.getD 0 AV.undef)).bind fun c16 => A.part1 p15 c16).bind fun x17 =>
     (A.eql .z x14 x17).bind fun x18 =>
     A.cond x18 (
      some (AX.ret, [(v6.getD 0 AV.undef), (AV.int .i64 6), (v6.getD 2 AV.undef)], s7)) (
      (A.add (v6.getD 2 AV.undef) (AV.int .i64 1)).bind fun x19 =>
      some (AX.normal, [(v6.getD 0 AV.undef), (v6.getD 1 AV.undef), x19], s7))) (
     some (AX.exit 0, [(v6.getD 0 AV.undef), (v6.getD 1 AV.undef), (v6.getD 2 AV.undef)], s7))) [(AV.lbx c1), (AV.int .i64 0), (AV.int .i64 0)] r3.2).bind fun r20 =>
  bif r20.1 == AX.exit 0 then (
   ((A.lb (r20.2.1.getD 0 AV.undef)).bind fun _ => some (1)).bind fun p21 =>
   ((A.lb (r20.2.1.getD 0 AV.undef)).bind fun c22 => A.part1 p21 c22).bind fun x23 =>
   (m_R1_Within [x23, (AV.int .i64 1), (AV.int .i64 4)] r20.2.2).bind fun r24 =>
   (A.not r24.1).bind fun x25 =>
   A.cond x25 (
    A.fin σ (AV.int .i64 4) r24.2) (
    ((A.lb (r20.2.1.getD 0 AV.undef)).bind fun _ => some (2)).bind fun p26 =>
    ((A.lb (r20.2.1.getD 0 AV.undef)).bind fun c27 => A.part1 p26 c27).bind fun x28 =>
    (m_R1_Within [x28, (AV.int .i64 1), a2] r24.2).bind fun r29 =>
    (A.not r29.1).bind fun x30 =>
    ((A.lb (r20.2.1.getD 0 AV.undef)).bind fun _ => some (3)).bind fun p31 =>
        (A.guard x30 false ((A.lb (r20.2.1.getD 0 AV.undef)).bind fun c32 => A.part1 p31 c32) (some (AV.tup []))).bind fun x33 =>
    (A.guard x30 false (some a2) (some (AV.tup []))).bind fun x34 =>
    (A.guard x30 false (A.quiet (m_R1_Within [x33, (AV.int .i64 0), x34] r29.2) r29.2) (some (AV.tup []))).bind fun x35 =>
    (A.guard x30 false (A.not x35) (some (AV.tup []))).bind fun x36 =>
    (A.pick x30 (AV.bool true) x36).bind fun x37 =>
    ((A.lb (r20.2.1.getD 0 AV.undef)).bind fun _ => some (4)).bind fun p38 =>
        (A.guard x37 false ((A.lb (r20.2.1.getD 0 AV.undef)).bind fun c39 => A.part1 p38 c39) (some (AV.tup []))).bind fun x40 =>
    (A.guard x37 false (A.quiet (m_R1_IsLevel [x40] r29.2) r29.2) (some (AV.tup []))).bind fun x41 =>
    (A.guard x37 false (A.not x41) (some (AV.tup []))).bind fun x42 =>
    (A.pick x37 (AV.bool true) x42).bind fun x43 =>
    A.cond x43 (
     A.fin σ (AV.int .i64 1) r29.2) (
     ((A.lb (r20.2.1.getD 0 AV.undef)).bind fun _ => some (2)).bind fun p44 =>
     ((A.lb (r20.2.1.getD 0 AV.undef)).bind fun c45 => A.part1 p44 c45).bind fun x46 =>
     ((A.lb (r20.2.1.getD 0 AV.undef)).bind fun _ => some (3)).bind fun p47 =>
     ((A.lb (r20.2.1.getD 0 AV.undef)).bind fun c48 => A.part1 p47 c48).bind fun x49 =>
     (A.eql .i x46 x49).bind fun x50 =>
     A.cond x50 (
      A.fin σ (AV.int .i64 12) r29.2) (
      (A.lenS a1).bind fun x51 =>
      (A.loop (fun v52 s53 =>
        (A.lss (v52.getD 2 AV.undef) x51).bind fun x54 =>
        A.cond x54 (
         (A.iaddr 7 a1 (v52.getD 2 AV.undef)).bind fun x55 =>
         ((A.deref x55 s53).bind fun c56 => A.partA 0 7 c56).bind fun x57 =>
         (A.cells 7 x57).bind fun c58 =>
         (A.splice 0 c58 [(AV.str ⟨#[]⟩), (AV.int .i64 0), (AV.int .i64 0), (AV.int .i64 0), (AV.int .i64 0), (AV.bool false), AV.nsl]).bind fun c59 =>
         ((A.lb (v52.getD 0 AV.undef)).bind fun c60 => A.partA 0 7 c60).bind fun x61 =>
         (m_R2_slots [x61] s53).bind fun r62 =>
         (A.lenS r62.1).bind fun x63 =>
         (A.loop (fun v64 s65 =>
           (A.lss (v64.getD 3 AV.undef) x63).bind fun x66 =>
           A.cond x66 (
            (A.iaddr 1 r62.1 (v64.getD 3 AV.undef)).bind fun x67 =>
            ((A.deref x67 s65).bind fun c68 => A.part1 0 c68).bind fun x69 =>
            ((A.lb (v64.getD 2 AV.undef)).bind fun c70 => A.partA 0 7 c70).bind fun x71 =>
            (m_R2_slots [x71] s65).bind fun r72 =>
            (m_slices_Contains_int [r72.1, x69] r72.2).bind fun r73 =>
            A.cond r73.1 (
             some (AX.ret, [(v64.getD 0 AV.undef), (AV.int .i64 12), (v64.getD 2 AV.undef), (v64.getD 3 AV.undef)], r73.2)) (
             (A.add (v64.getD 3 AV.undef) (AV.int .i64 1)).bind fun x74 =>
             some (AX.normal, [(v64.getD 0 AV.undef), (v64.getD 1 AV.undef), (v64.getD 2 AV.undef), x74], r73.2))) (
            some (AX.exit 5, [(v64.getD 0 AV.undef), (v64.getD 1 AV.undef), (v64.getD 2 AV.undef), (v64.getD 3 AV.undef)], s65))) [(v52.getD 0 AV.undef), (v52.getD 1 AV.undef), (AV.lbx c59), (AV.int .i64 0)] r62.2).bind fun r75 =>
         bif r75.1 == AX.exit 5 then (
          (A.add (v52.getD 2 AV.undef) (AV.int .i64 1)).bind fun x76 =>
          some (AX.normal, [(r75.2.1.getD 0 AV.undef), (r75.2.1.getD 1 AV.undef), x76], r75.2.2)) else
         bif r75.1 == AX.ret then (
          some (AX.ret, [(r75.2.1.getD 0 AV.undef), (r75.2.1.getD 1 AV.undef), (v52.getD 2 AV.undef)], r75.2.2)) else
         none) (
         some (AX.exit 3, [(v52.getD 0 AV.undef), (v52.getD 1 AV.undef), (v52.getD 2 AV.undef)], s53))) [(r20.2.1.getD 0 AV.undef), (r20.2.1.getD 1 AV.undef), (AV.int .i64 0)] r29.2).bind fun r77 =>
      bif r77.1 == AX.exit 3 then (
       ((A.lb (r77.2.1.getD 0 AV.undef)).bind fun _ => some (6)).bind fun p78 =>
       ((A.lb (r77.2.1.getD 0 AV.undef)).bind fun c79 => A.part1 p78 c79).bind fun x80 =>
       (A.lenS x80).bind fun x81 =>
       (A.gtr x81 (AV.int .i64 30)).bind fun x82 =>
       A.cond x82 (
        A.fin σ (AV.int .i64 2) r77.2.2) (
        ((A.lb (r77.2.1.getD 0 AV.undef)).bind fun _ => some (6)).bind fun p83 =>
        ((A.lb (r77.2.1.getD 0 AV.undef)).bind fun c84 => A.part1 p83 c84).bind fun x85 =>
        (A.lenS x85).bind fun x86 =>
        (A.loop (fun v87 s88 =>
          (A.lss (v87.getD 2 AV.undef) x86).bind fun x89 =>
          A.cond x89 (
           (A.iaddr 3 x85 (v87.getD 2 AV.undef)).bind fun x90 =>
           ((A.deref x90 s88).bind fun c91 => A.partA 0 3 c91).bind fun x92 =>
           (A.cells 3 x92).bind fun c93 =>
           (A.splice 0 c93 [(AV.int .i64 0), (AV.int .i64 0), (AV.str ⟨#[]⟩)]).bind fun c94 =>
           (A.part1 0 c94).bind fun x95 =>
           (m_R1_IsLevel [x95] s88).bind fun r96 =>
           (A.not r96.1).bind fun x97 =>
           (A.guard x97 false (A.part1 1 c94) (some (AV.tup []))).bind fun x98 =>
           (A.guard x97 false (A.quiet (m_R1_IsLevel [x98] r96.2) r96.2) (some (AV.tup []))).bind fun x99 =>
           (A.guard x97 false (A.not x99) (some (AV.tup []))).bind fun x100 =>
           (A.pick x97 (AV.bool true) x100).bind fun x101 =>
           (A.guard x101 false (A.part1 0 c94) (some (AV.tup []))).bind fun x102 =>
           (A.guard x101 false (A.part1 1 c94) (some (AV.tup []))).bind fun x103 =>
           (A.guard x101 false (A.gtr x102 x103) (some (AV.tup []))).bind fun x104 =>
           (A.pick x101 (AV.bool true) x104).bind fun x105 =>
           A.cond x105 (
            some (AX.ret, [(v87.getD 0 AV.undef), (AV.int .i64 1), (v87.getD 2 AV.undef)], r96.2)) (
            (A.gtr (v87.getD 2 AV.undef) (AV.int .i64 0)).bind fun x106 =>
            (A.guard x106 true (A.part1 0 c94) (some (AV.tup []))).bind fun x107 =>
            ((A.lb (v87.getD 0 AV.undef)).bind fun _ => some (6)).bind fun p108 =>
                        (A.guard x106 true ((A.lb (v87.getD 0 AV.undef)).bind fun c109 => A.part1 p108 c109) (some (AV.tup []))).bind fun x110 =>
            (A.guard x106 true (some (v87.getD 2 AV.undef)) (some (AV.tup []))).bind fun x111 =>
            (A.guard x106 true (A.sub x111 (AV.int .i64 1)) (some (AV.tup []))).bind fun x112 =>
            (A.guard x106 true (A.iaddr 3 x110 x112) (some (AV.tup []))).bind fun x113 =>
            (A.guard x106 true (A.faddr 1 x113) (some (AV.tup []))).bind fun x114 =>
            (A.guard x106 true ((A.deref x114 r96.2).bind fun c115 => A.part1 0 c115) (some (AV.tup []))).bind fun x116 =>
            (A.guard x106 true (A.leq x107 x116) (some (AV.tup []))).bind fun x117 =>
            (A.pick x106 x117 (AV.bool false)).bind fun x118 =>
            A.cond x118 (
             some (AX.ret, [(v87.getD 0 AV.undef), (AV.int .i64 7), (v87.getD 2 AV.undef)], r96.2)) (
             (A.part1 2 c94).bind fun x119 =>
             (m_R1_IsName [x119] r96.2).bind fun r120 =>
             (A.not r120.1).bind fun x121 =>
             A.cond x121 (
              some (AX.ret, [(v87.getD 0 AV.undef), (AV.int .i64 5), (v87.getD 2 AV.undef)], r120.2)) (
              ((A.lb (v87.getD 0 AV.undef)).bind fun _ => some (6)).bind fun p122 =>
              ((A.lb (v87.getD 0 AV.undef)).bind fun c123 => A.part1 p122 c123).bind fun x124 =>
              (A.sliceS 3 x124 none (some (v87.getD 2 AV.undef))).bind fun x125 =>
              (A.lenS x125).bind fun x126 =>
              (A.loop (fun v127 s128 =>
                (A.lss (v127.getD 3 AV.undef) x126).bind fun x129 =>
                A.cond x129 (
                 (A.iaddr 3 x125 (v127.getD 3 AV.undef)).bind fun x130 =>
                 ((A.deref x130 s128).bind fun c131 => A.partA 0 3 c131).bind fun x132 =>
                 (A.cells 3 x132).bind fun c133 =>
                 (A.splice 0 c133 [(AV.int .i64 0), (AV.int .i64 0), (AV.str ⟨#[]⟩)]).bind fun c134 =>
                 (A.part1 2 c134).bind fun x135 =>
                 ((A.lb (v127.getD 2 AV.undef)).bind fun _ => some (2)).bind fun p136 =>
                 ((A.lb (v127.getD 2 AV.undef)).bind fun c137 => A.part1 p136 c137).bind fun x138 =>
                 (A.eql .z x135 x138).bind fun x139 =>
                 A.cond x139 (
                  some (AX.ret, [(v127.getD 0 AV.undef), (AV.int .i64 6), (v127.getD 2 AV.undef), (v127.getD 3 AV.undef)], s128)) (
                  (A.add (v127.getD 3 AV.undef) (AV.int .i64 1)).bind fun x140 =>
                  some (AX.normal, [(v127.getD 0 AV.undef), (v127.getD 1 AV.undef), (v127.getD 2 AV.undef), x140], s128))) (
                 some (AX.exit 10, [(v127.getD 0 AV.undef), (v127.getD 1 AV.undef), (v127.getD 2 AV.undef), (v127.getD 3 AV.undef)], s128))) [(v87.getD 0 AV.undef), (v87.getD 1 AV.undef), (AV.lbx c94), (AV.int .i64 0)] r120.2).bind fun r141 =>
              bif r141.1 == AX.exit 10 then (
               (A.add (v87.getD 2 AV.undef) (AV.int .i64 1)).bind fun x142 =>
               some (AX.normal, [(r141.2.1.getD 0 AV.undef), (r141.2.1.getD 1 AV.undef), x142], r141.2.2)) else
              bif r141.1 == AX.ret then (
               some (AX.ret, [(r141.2.1.getD 0 AV.undef), (r141.2.1.getD 1 AV.undef), (v87.getD 2 AV.undef)], r141.2.2)) else
              none)))) (
           some (AX.exit 7, [(v87.getD 0 AV.undef), (v87.getD 1 AV.undef), (v87.getD 2 AV.undef)], s88))) [(r77.2.1.getD 0 AV.undef), (r77.2.1.getD 1 AV.undef), (AV.int .i64 0)] r77.2.2).bind fun r143 =>
        bif r143.1 == AX.exit 7 then (
         A.fin σ (AV.int .i64 0) r143.2.2) else
        bif r143.1 == AX.ret then (
         A.fin σ (r143.2.1.getD 1 AV.undef) r143.2.2) else
        none)) else
      bif r77.1 == AX.ret then (
       A.fin σ (r77.2.1.getD 1 AV.undef) r77.2.2) else
      none)))) else
  bif r20.1 == AX.ret then (
   A.fin σ (r20.2.1.getD 1 AV.undef) r20.2.2) else
  none)
noncomputable def m_R2_checkParam : List AV → Heap → Option (AV × Heap) := A.wrap true [(.a [.k, .k, .k, .k, .k, .k, (.s 3)]), (.s 7)] .k (A.ar3 r_R2_checkParam)
noncomputable def r_R2_CheckProfile (a0 : AV) (σ : Heap) : Option (AV × Heap) :=
 (A.cells 3 a0).bind fun c1 =>
 (A.part1 0 c1).bind fun x2 =>
 (m_R1_IsName [x2] σ).bind fun r3 =>
 (A.not r3.1).bind fun x4 =>
 A.cond x4 (
  A.fin σ (AV.int .i64 5) r3.2) (
  (A.part1 1 c1).bind fun x5 =>
  (m_R1_Within [x5, (AV.int .i64 1), (AV.int .i64 512)] r3.2).bind fun r6 =>
  (A.not r6.1).bind fun x7 =>
  A.cond x7 (
   A.fin σ (AV.int .i64 1) r6.2) (
   (A.part1 2 c1).bind fun x8 =>
   (A.lenS x8).bind fun x9 =>
   (A.eql .i x9 (AV.int .i64 0)).bind fun x10 =>
   A.cond x10 (
    A.fin σ (AV.int .i64 8) r6.2) (
    (A.part1 2 c1).bind fun x11 =>
    (A.lenS x11).bind fun x12 =>
    (A.gtr x12 (AV.int .i64 40)).bind fun x13 =>
    A.cond x13 (
     A.fin σ (AV.int .i64 2) r6.2) (
     (A.part1 2 c1).bind fun x14 =>
     (A.lenS x14).bind fun x15 =>
     (A.loop (fun v16 s17 =>
       (A.lss (v16.getD 2 AV.undef) x15).bind fun x18 =>
       A.cond x18 (
        (A.iaddr 7 x14 (v16.getD 2 AV.undef)).bind fun x19 =>
        ((A.deref x19 s17).bind fun c20 => A.partA 0 7 c20).bind fun x21 =>
        (A.cells 7 x21).bind fun c22 =>
        (A.splice 0 c22 [(AV.str ⟨#[]⟩), (AV.int .i64 0), (AV.int .i64 0), (AV.int .i64 0), (AV.int .i64 0), (AV.bool false), AV.nsl]).bind fun c23 =>
        (A.partA 0 7 c23).bind fun x24 =>
        ((A.lb (v16.getD 0 AV.undef)).bind fun _ => some (2)).bind fun p25 =>
        ((A.lb (v16.getD 0 AV.undef)).bind fun c26 => A.part1 p25 c26).bind fun x27 =>
        (A.sliceS 7 x27 none (some (v16.getD 2 AV.undef))).bind fun x28 =>
        ((A.lb (v16.getD 0 AV.undef)).bind fun _ => some (1)).bind fun p29 =>
        ((A.lb (v16.getD 0 AV.undef)).bind fun c30 => A.part1 p29 c30).bind fun x31 =>
        (A.quiet (m_R2_checkParam [x24, x28, x31] s17) s17).bind fun x32 =>
        (A.neq .i x32 (AV.int .i64 0)).bind fun x33 =>
        A.cond x33 (
         some (AX.ret, [(v16.getD 0 AV.undef), x32, (v16.getD 2 AV.undef)], s17)) (
         (A.add (v16.getD 2 AV.undef) (AV.int .i64 1)).bind fun x34 =>
         some (AX.normal, [(v16.getD 0 AV.undef), (v16.getD 1 AV.undef), x34], s17))) (
        some (AX.exit 1, [(v16.getD 0 AV.undef), (v16.getD 1 AV.undef), (v16.getD 2 AV.undef)], s17))) [(AV.lbx c1), (AV.int .i64 0), (AV.int .i64 0)] r6.2).bind fun r35 =>
     bif r35.1 == AX.exit 1 then (
      A.fin σ (AV.int .i64 0) r35.2.2) else
     bif r35.1 == AX.ret then (
      A.fin σ (r35.2.1.getD 1 AV.undef) r35.2.2) else
     none))))
noncomputable def m_R2_CheckProfile : List AV → Heap → Option (AV × Heap) := A.wrap true [(.a [.k, .k, (.s 7)])] .k (A.ar1 r_R2_CheckProfile)
noncomputable def r_R2_CheckLibrary (a0 : AV) (σ : Heap) : Option (AV × Heap) :=
 (A.lenS a0).bind fun x1 =>
 (A.gtr x1 (AV.int .i64 60)).bind fun x2 =>
 A.cond x2 (
  A.fin σ (AV.int .i64 2) σ) (
  (A.lenS a0).bind fun x3 =>
  (A.loop (fun v4 s5 =>
    (A.lss (v4.getD 1 AV.undef) x3).bind fun x6 =>
    A.cond x6 (
     (A.iaddr 3 a0 (v4.getD 1 AV.undef)).bind fun x7 =>
     ((A.deref x7 s5).bind fun c8 => A.partA 0 3 c8).bind fun x9 =>
     (A.cells 3 x9).bind fun c10 =>
     (A.splice 0 c10 [(AV.str ⟨#[]⟩), (AV.int .i64 0), AV.nsl]).bind fun c11 =>
     (A.partA 0 3 c11).bind fun x12 =>
     (m_R2_CheckProfile [x12] s5).bind fun r13 =>
     (A.neq .i r13.1 (AV.int .i64 0)).bind fun x14 =>
     A.cond x14 (
      some (AX.ret, [r13.1, (v4.getD 1 AV.undef)], r13.2)) (
      (A.sliceS 3 a0 none (some (v4.getD 1 AV.undef))).bind fun x15 =>
      (A.lenS x15).bind fun x16 =>
      (A.loop (fun v17 s18 =>
        (A.lss (v17.getD 2 AV.undef) x16).bind fun x19 =>
        A.cond x19 (
         (A.iaddr 3 x15 (v17.getD 2 AV.undef)).bind fun x20 =>
         ((A.deref x20 s18).bind fun c21 => A.partA 0 3 c21).bind fun x22 =>
         (A.cells 3 x22).bind fun c23 =>
         (A.splice 0 c23 [(AV.str ⟨#[]⟩), (AV.int .i64 0), AV.nsl]).bind fun c24 =>
         (A.part1 0 c24).bind fun x25 =>
         ((A.lb (v17.getD 1 AV.undef)).bind fun _ => some (0)).bind fun p26 =>
         ((A.lb (v17.getD 1 AV.undef)).bind fun c27 => A.part1 p26 c27).bind fun x28 =>
         (A.eql .z x25 x28).bind fun x29 =>
         A.cond x29 (
          some (AX.ret, [(AV.int .i64 6), (v17.getD 1 AV.undef), (v17.getD 2 AV.undef)], s18)) (
          (A.add (v17.getD 2 AV.undef) (AV.int .i64 1)).bind fun x30 =>
          some (AX.normal, [(v17.getD 0 AV.undef), (v17.getD 1 AV.undef), x30], s18))) (
         some (AX.exit 2, [(v17.getD 0 AV.undef), (v17.getD 1 AV.undef), (v17.getD 2 AV.undef)], s18))) [(v4.getD 0 AV.undef), (AV.lbx c11), (AV.int .i64 0)] r13.2).bind fun r31 =>
      bif r31.1 == AX.exit 2 then (
       (A.add (v4.getD 1 AV.undef) (AV.int .i64 1)).bind fun x32 =>
       some (AX.normal, [(r31.2.1.getD 0 AV.undef), x32], r31.2.2)) else
      bif r31.1 == AX.ret then (
       some (AX.ret, [(r31.2.1.getD 0 AV.undef), (v4.getD 1 AV.undef)], r31.2.2)) else
      none)) (
     some (AX.exit 0, [(v4.getD 0 AV.undef), (v4.getD 1 AV.undef)], s5))) [(AV.int .i64 0), (AV.int .i64 0)] σ).bind fun r33 =>
  bif r33.1 == AX.exit 0 then (
   A.fin σ (AV.int .i64 0) r33.2.2) else
  bif r33.1 == AX.ret then (
   A.fin σ (r33.2.1.getD 0 AV.undef) r33.2.2) else
  none)
noncomputable def m_R2_CheckLibrary : List AV → Heap → Option (AV × Heap) := A.wrap true [(.s 3)] .k (A.ar1 r_R2_CheckLibrary)
noncomputable def r_R2_Profile (a0 a1 : AV) (σ : Heap) : Option (AV × Heap) :=
 (A.lenS a0).bind fun x1 =>
 (A.loop (fun v2 s3 =>
   (A.lss (v2.getD 2 AV.undef) x1).bind fun x4 =>
   A.cond x4 (
    (A.iaddr 3 a0 (v2.getD 2 AV.undef)).bind fun x5 =>
    ((A.deref x5 s3).bind fun c6 => A.partA 0 3 c6).bind fun x7 =>
    (A.cells 3 x7).bind fun c8 =>
    (A.splice 0 c8 [(AV.str ⟨#[]⟩), (AV.int .i64 0), AV.nsl]).bind fun c9 =>
    (A.part1 0 c9).bind fun x10 =>
    (A.eql .z x10 a1).bind fun x11 =>
    A.cond x11 (
     (A.partA 0 3 c9).bind fun x12 =>
     (A.lb (v2.getD 0 AV.undef)).bind fun c15 =>
     (A.cells 3 x12).bind fun c13 =>
     (A.splice 0 c13 c15).bind fun c14 =>
     some (AX.ret, [(AV.lbx c14), (AV.bool true), (v2.getD 2 AV.undef)], s3)) (
     (A.add (v2.getD 2 AV.undef) (AV.int .i64 1)).bind fun x16 =>
     some (AX.normal, [(v2.getD 0 AV.undef), (v2.getD 1 AV.undef), x16], s3))) (
    some (AX.exit 0, [(v2.getD 0 AV.undef), (v2.getD 1 AV.undef), (v2.getD 2 AV.undef)], s3))) [(AV.lbx [(AV.str ⟨#[]⟩), (AV.int .i64 0), AV.nsl]), (AV.bool false), (AV.int .i64 0)] σ).bind fun r17 =>
 bif r17.1 == AX.exit 0 then (
  (A.lb (r17.2.1.getD 0 AV.undef)).bind fun c20 =>
  (A.cells 3 (AV.agg [(AV.str ⟨#[]⟩), (AV.int .i64 0), AV.nsl])).bind fun c18 =>
  (A.splice 0 c18 c20).bind fun c19 =>
  (A.partA 0 3 c19).bind fun x21 =>
  A.fin σ (AV.tup [x21, (AV.bool false)]) r17.2.2) else
 bif r17.1 == AX.ret then (
  ((A.lb (r17.2.1.getD 0 AV.undef)).bind fun c23 => A.partA 0 3 c23).bind fun x22 =>
  A.fin σ (AV.tup [x22, (r17.2.1.getD 1 AV.undef)]) r17.2.2) else
 none
noncomputable def m_R2_Profile : List AV → Heap → Option (AV × Heap) := A.wrap true [(.s 3)] (.t [(.a [.k, .k, (.e 7 [.k, .k, .k, .k, .k, .k, (.s 3)])]), .k]) (A.ar2 r_R2_Profile)
noncomputable def r_R2_last (a0 a1 : AV) (σ : Heap) : Option (AV × Heap) :=
 (A.cells 2 a0).bind fun c1 =>
 (A.cells 4 a1).bind fun c2 =>
 (A.part1 0 c1).bind fun x3 =>
 (A.part1 1 c2).bind fun x4 =>
 (m_R2_Profile [x3, x4] σ).bind fun r5 =>
 (A.ext 0 r5.1).bind fun x6 =>
 (A.ext 1 r5.1).bind fun x7 =>
 (A.cells 3 x6).bind fun c8 =>
 (A.splice 0 c8 [(AV.str ⟨#[]⟩), (AV.int .i64 0), AV.nsl]).bind fun c9 =>
 (A.part1 3 c2).bind fun x10 =>
 (A.part1 1 c9).bind fun x11 =>
 (A.add x10 x11).bind fun x12 =>
 (A.sub x12 (AV.int .i64 1)).bind fun x13 =>
 A.fin σ x13 r5.2
noncomputable def m_R2_last : List AV → Heap → Option (AV × Heap) := A.wrap true [(.a [(.s 3), (.s 4)])] .k (A.ar2 r_R2_last)
noncomputable def r_R2_CheckRig (a0 : AV) (σ : Heap) : Option (AV × Heap) :=
 (A.cells 2 a0).bind fun c1 =>
 (A.part1 0 c1).bind fun x2 =>
 (m_R2_CheckLibrary [x2] σ).bind fun r3 =>
 (A.neq .i r3.1 (AV.int .i64 0)).bind fun x4 =>
 A.cond x4 (
  A.fin σ r3.1 r3.2) (
  (A.part1 1 c1).bind fun x5 =>
  (A.lenS x5).bind fun x6 =>
  (A.gtr x6 (AV.int .i64 400)).bind fun x7 =>
  A.cond x7 (
   A.fin σ (AV.int .i64 2) r3.2) (
   (A.part1 1 c1).bind fun x8 =>
   (A.lenS x8).bind fun x9 =>
   (A.loop (fun v10 s11 =>
     (A.lss (v10.getD 2 AV.undef) x9).bind fun x12 =>
     A.cond x12 (
      (A.iaddr 4 x8 (v10.getD 2 AV.undef)).bind fun x13 =>
      ((A.deref x13 s11).bind fun c14 => A.partA 0 4 c14).bind fun x15 =>
      (A.cells 4 x15).bind fun c16 =>
      (A.splice 0 c16 [(AV.int .i64 0), (AV.str ⟨#[]⟩), (AV.int .i64 0), (AV.int .i64 0)]).bind fun c17 =>
      ((A.lb (v10.getD 0 AV.undef)).bind fun _ => some (0)).bind fun p18 =>
      ((A.lb (v10.getD 0 AV.undef)).bind fun c19 => A.part1 p18 c19).bind fun x20 =>
      (A.part1 1 c17).bind fun x21 =>
      (m_R2_Profile [x20, x21] s11).bind fun r22 =>
      (A.ext 0 r22.1).bind fun x23 =>
      (A.ext 1 r22.1).bind fun x24 =>
      (A.cells 3 x23).bind fun c25 =>
      (A.splice 0 c25 [(AV.str ⟨#[]⟩), (AV.int .i64 0), AV.nsl]).bind fun c26 =>
      (A.part1 0 c17).bind fun x27 =>
      (m_R1_Within [x27, (AV.int .i64 1), (AV.int .i64 9999)] r22.2).bind fun r28 =>
      (A.not r28.1).bind fun x29 =>
      A.cond x29 (
       some (AX.ret, [(v10.getD 0 AV.undef), (AV.int .i64 1), (v10.getD 2 AV.undef)], r28.2)) (
       (A.gtr (v10.getD 2 AV.undef) (AV.int .i64 0)).bind fun x30 =>
       (A.guard x30 true (A.part1 0 c17) (some (AV.tup []))).bind fun x31 =>
       ((A.lb (v10.getD 0 AV.undef)).bind fun _ => some (1)).bind fun p32 =>
              (A.guard x30 true ((A.lb (v10.getD 0 AV.undef)).bind fun c33 => A.part1 p32 c33) (some (AV.tup []))).bind fun x34 =>
       (A.guard x30 true (some (v10.getD 2 AV.undef)) (some (AV.tup []))).bind fun x35 =>
       (A.guard x30 true (A.sub x35 (AV.int .i64 1)) (some (AV.tup []))).bind fun x36 =>
       (A.guard x30 true (A.iaddr 4 x34 x36) (some (AV.tup []))).bind fun x37 =>
       (A.guard x30 true (A.faddr 0 x37) (some (AV.tup []))).bind fun x38 =>
       (A.guard x30 true ((A.deref x38 r28.2).bind fun c39 => A.part1 0 c39) (some (AV.tup []))).bind fun x40 =>
       (A.guard x30 true (A.leq x31 x40) (some (AV.tup []))).bind fun x41 =>
       (A.pick x30 x41 (AV.bool false)).bind fun x42 =>
       A.cond x42 (
        some (AX.ret, [(v10.getD 0 AV.undef), (AV.int .i64 7), (v10.getD 2 AV.undef)], r28.2)) (
        (A.not x24).bind fun x43 =>
        A.cond x43 (
         some (AX.ret, [(v10.getD 0 AV.undef), (AV.int .i64 5), (v10.getD 2 AV.undef)], r28.2)) (
         (A.part1 2 c17).bind fun x44 =>
         (m_R1_Within [x44, (AV.int .i64 1), (AV.int .i64 64)] r28.2).bind fun r45 =>
         (A.not r45.1).bind fun x46 =>
         (A.guard x46 false (A.part1 3 c17) (some (AV.tup []))).bind fun x47 =>
         (A.guard x46 false (A.quiet (m_R1_Within [x47, (AV.int .i64 1), (AV.int .i64 512)] r45.2) r45.2) (some (AV.tup []))).bind fun x48 =>
         (A.guard x46 false (A.not x48) (some (AV.tup []))).bind fun x49 =>
         (A.pick x46 (AV.bool true) x49).bind fun x50 =>
         (A.guard x50 false ((A.lb (v10.getD 0 AV.undef)).bind fun c51 => A.partA 0 2 c51) (some (AV.tup []))).bind fun x52 =>
         (A.guard x50 false (A.partA 0 4 c17) (some (AV.tup []))).bind fun x53 =>
         (A.guard x50 false (A.quiet (m_R2_last [x52, x53] r45.2) r45.2) (some (AV.tup []))).bind fun x54 =>
         (A.guard x50 false (A.gtr x54 (AV.int .i64 512)) (some (AV.tup []))).bind fun x55 =>
         (A.pick x50 (AV.bool true) x55).bind fun x56 =>
         A.cond x56 (
          some (AX.ret, [(v10.getD 0 AV.undef), (AV.int .i64 1), (v10.getD 2 AV.undef)], r45.2)) (
          ((A.lb (v10.getD 0 AV.undef)).bind fun _ => some (1)).bind fun p57 =>
          ((A.lb (v10.getD 0 AV.undef)).bind fun c58 => A.part1 p57 c58).bind fun x59 =>
          (A.sliceS 4 x59 none (some (v10.getD 2 AV.undef))).bind fun x60 =>
          (A.lenS x60).bind fun x61 =>
          (A.loop (fun v62 s63 =>
            (A.lss (v62.getD 3 AV.undef) x61).bind fun x64 =>
            A.cond x64 (
             (A.iaddr 4 x60 (v62.getD 3 AV.undef)).bind fun x65 =>
             ((A.deref x65 s63).bind fun c66 => A.partA 0 4 c66).bind fun x67 =>
             (A.cells 4 x67).bind fun c68 =>
             (A.splice 0 c68 [(AV.int .i64 0), (AV.str ⟨#[]⟩), (AV.int .i64 0), (AV.int .i64 0)]).bind fun c69 =>
             (A.part1 2 c69).bind fun x70 =>
             ((A.lb (v62.getD 2 AV.undef)).bind fun _ => some (2)).bind fun p71 =>
             ((A.lb (v62.getD 2 AV.undef)).bind fun c72 => A.part1 p71 c72).bind fun x73 =>
             (A.eql .i x70 x73).bind fun x74 =>
             (A.guard x74 true (A.part1 3 c69) (some (AV.tup []))).bind fun x75 =>
             (A.guard x74 true ((A.lb (v62.getD 0 AV.undef)).bind fun c76 => A.partA 0 2 c76) (some (AV.tup []))).bind fun x77 =>
             (A.guard x74 true ((A.lb (v62.getD 2 AV.undef)).bind fun c78 => A.partA 0 4 c78) (some (AV.tup []))).bind fun x79 =>
             (A.guard x74 true (A.quiet (m_R2_last [x77, x79] s63) s63) (some (AV.tup []))).bind fun x80 =>
             (A.guard x74 true (A.leq x75 x80) (some (AV.tup []))).bind fun x81 =>
             (A.pick x74 x81 (AV.bool false)).bind fun x82 =>
             ((A.lb (v62.getD 2 AV.undef)).bind fun _ => some (3)).bind fun p83 =>
                          (A.guard x82 true ((A.lb (v62.getD 2 AV.undef)).bind fun c84 => A.part1 p83 c84) (some (AV.tup []))).bind fun x85 =>
             (A.guard x82 true ((A.lb (v62.getD 0 AV.undef)).bind fun c86 => A.partA 0 2 c86) (some (AV.tup []))).bind fun x87 =>
             (A.guard x82 true (A.partA 0 4 c69) (some (AV.tup []))).bind fun x88 =>
             (A.guard x82 true (A.quiet (m_R2_last [x87, x88] s63) s63) (some (AV.tup []))).bind fun x89 =>
             (A.guard x82 true (A.leq x85 x89) (some (AV.tup []))).bind fun x90 =>
             (A.pick x82 x90 (AV.bool false)).bind fun x91 =>
             A.cond x91 (
              some (AX.ret, [(v62.getD 0 AV.undef), (AV.int .i64 12), (v62.getD 2 AV.undef), (v62.getD 3 AV.undef)], s63)) (
              (A.add (v62.getD 3 AV.undef) (AV.int .i64 1)).bind fun x92 =>
              some (AX.normal, [(v62.getD 0 AV.undef), (v62.getD 1 AV.undef), (v62.getD 2 AV.undef), x92], s63))) (
             some (AX.exit 3, [(v62.getD 0 AV.undef), (v62.getD 1 AV.undef), (v62.getD 2 AV.undef), (v62.getD 3 AV.undef)], s63))) [(v10.getD 0 AV.undef), (v10.getD 1 AV.undef), (AV.lbx c17), (AV.int .i64 0)] r45.2).bind fun r93 =>
          bif r93.1 == AX.exit 3 then (
           (A.add (v10.getD 2 AV.undef) (AV.int .i64 1)).bind fun x94 =>
           some (AX.normal, [(r93.2.1.getD 0 AV.undef), (r93.2.1.getD 1 AV.undef), x94], r93.2.2)) else
          bif r93.1 == AX.ret then (
           some (AX.ret, [(r93.2.1.getD 0 AV.undef), (r93.2.1.getD 1 AV.undef), (v10.getD 2 AV.undef)], r93.2.2)) else
          none))))) (
      some (AX.exit 0, [(v10.getD 0 AV.undef), (v10.getD 1 AV.undef), (v10.getD 2 AV.undef)], s11))) [(AV.lbx c1), (AV.int .i64 0), (AV.int .i64 0)] r3.2).bind fun r95 =>
   bif r95.1 == AX.exit 0 then (
    A.fin σ (AV.int .i64 0) r95.2.2) else
   bif r95.1 == AX.ret then (
    A.fin σ (r95.2.1.getD 1 AV.undef) r95.2.2) else
   none))
noncomputable def m_R2_CheckRig : List AV → Heap → Option (AV × Heap) := A.wrap true [(.a [(.s 3), (.s 4)])] .k (A.ar1 r_R2_CheckRig)
noncomputable def r_R2_unit (a0 a1 : AV) (σ : Heap) : Option (AV × Heap) :=
 (A.cells 2 a0).bind fun c1 =>
 (A.part1 1 c1).bind fun x2 =>
 (A.lenS x2).bind fun x3 =>
 (A.loop (fun v4 s5 =>
   (A.lss (v4.getD 1 AV.undef) x3).bind fun x6 =>
   A.cond x6 (
    (A.iaddr 4 x2 (v4.getD 1 AV.undef)).bind fun x7 =>
    ((A.deref x7 s5).bind fun c8 => A.partA 0 4 c8).bind fun x9 =>
    (A.cells 4 x9).bind fun c10 =>
    (A.splice 0 c10 [(AV.int .i64 0), (AV.str ⟨#[]⟩), (AV.int .i64 0), (AV.int .i64 0)]).bind fun c11 =>
    (A.part1 0 c11).bind fun x12 =>
    (A.eql .i x12 a1).bind fun x13 =>
    A.cond x13 (
     some (AX.ret, [(v4.getD 1 AV.undef), (v4.getD 1 AV.undef)], s5)) (
     (A.add (v4.getD 1 AV.undef) (AV.int .i64 1)).bind fun x14 =>
     some (AX.normal, [(v4.getD 0 AV.undef), x14], s5))) (
    some (AX.exit 0, [(v4.getD 0 AV.undef), (v4.getD 1 AV.undef)], s5))) [(AV.int .i64 0), (AV.int .i64 0)] σ).bind fun r15 =>
 bif r15.1 == AX.exit 0 then (
  A.fin σ (AV.int .i64 (-1)) r15.2.2) else
 bif r15.1 == AX.ret then (
  A.fin σ (r15.2.1.getD 0 AV.undef) r15.2.2) else
 none
noncomputable def m_R2_unit : List AV → Heap → Option (AV × Heap) := A.wrap true [(.a [(.s 3), (.s 4)])] .k (A.ar2 r_R2_unit)
noncomputable def r_R2_param (a0 a1 : AV) (σ : Heap) : Option (AV × Heap) :=
 (A.cells 3 a0).bind fun c1 =>
 (A.part1 2 c1).bind fun x2 =>
 (A.lenS x2).bind fun x3 =>
 (A.loop (fun v4 s5 =>
   (A.lss (v4.getD 2 AV.undef) x3).bind fun x6 =>
   A.cond x6 (
    (A.iaddr 7 x2 (v4.getD 2 AV.undef)).bind fun x7 =>
    ((A.deref x7 s5).bind fun c8 => A.partA 0 7 c8).bind fun x9 =>
    (A.cells 7 x9).bind fun c10 =>
    (A.splice 0 c10 [(AV.str ⟨#[]⟩), (AV.int .i64 0), (AV.int .i64 0), (AV.int .i64 0), (AV.int .i64 0), (AV.bool false), AV.nsl]).bind fun c11 =>
    (A.part1 0 c11).bind fun x12 =>
    (A.eql .z x12 a1).bind fun x13 =>
    A.cond x13 (
     (A.partA 0 7 c11).bind fun x14 =>
     (A.lb (v4.getD 0 AV.undef)).bind fun c17 =>
     (A.cells 7 x14).bind fun c15 =>
     (A.splice 0 c15 c17).bind fun c16 =>
     some (AX.ret, [(AV.lbx c16), (AV.bool true), (v4.getD 2 AV.undef)], s5)) (
     (A.add (v4.getD 2 AV.undef) (AV.int .i64 1)).bind fun x18 =>
     some (AX.normal, [(v4.getD 0 AV.undef), (v4.getD 1 AV.undef), x18], s5))) (
    some (AX.exit 0, [(v4.getD 0 AV.undef), (v4.getD 1 AV.undef), (v4.getD 2 AV.undef)], s5))) [(AV.lbx [(AV.str ⟨#[]⟩), (AV.int .i64 0), (AV.int .i64 0), (AV.int .i64 0), (AV.int .i64 0), (AV.bool false), AV.nsl]), (AV.bool false), (AV.int .i64 0)] σ).bind fun r19 =>
 bif r19.1 == AX.exit 0 then (
  (A.lb (r19.2.1.getD 0 AV.undef)).bind fun c22 =>
  (A.cells 7 (AV.agg [(AV.str ⟨#[]⟩), (AV.int .i64 0), (AV.int .i64 0), (AV.int .i64 0), (AV.int .i64 0), (AV.bool false), AV.nsl])).bind fun c20 =>
  (A.splice 0 c20 c22).bind fun c21 =>
  (A.partA 0 7 c21).bind fun x23 =>
  A.fin σ (AV.tup [x23, (AV.bool false)]) r19.2.2) else
 bif r19.1 == AX.ret then (
  ((A.lb (r19.2.1.getD 0 AV.undef)).bind fun c25 => A.partA 0 7 c25).bind fun x24 =>
  A.fin σ (AV.tup [x24, (r19.2.1.getD 1 AV.undef)]) r19.2.2) else
 none
noncomputable def m_R2_param : List AV → Heap → Option (AV × Heap) := A.wrap true [(.a [.k, .k, (.s 7)])] (.t [(.a [.k, .k, .k, .k, .k, .k, (.s 3)]), .k]) (A.ar2 r_R2_param)
noncomputable def r_R2_ParamOf (a0 a1 : AV) (σ : Heap) : Option (AV × Heap) :=
 (A.cells 2 a0).bind fun c1 =>
 (A.cells 2 a1).bind fun c2 =>
 (A.partA 0 2 c1).bind fun x3 =>
 (A.part1 0 c2).bind fun x4 =>
 (m_R2_unit [x3, x4] σ).bind fun r5 =>
 (A.lss r5.1 (AV.int .i64 0)).bind fun x6 =>
 A.cond x6 (
  (A.cells 7 (AV.agg [(AV.str ⟨#[]⟩), (AV.int .i64 0), (AV.int .i64 0), (AV.int .i64 0), (AV.int .i64 0), (AV.bool false), AV.nsl])).bind fun c7 =>
  (A.splice 0 c7 [(AV.str ⟨#[]⟩), (AV.int .i64 0), (AV.int .i64 0), (AV.int .i64 0), (AV.int .i64 0), (AV.bool false), AV.nsl]).bind fun c8 =>
  (A.partA 0 7 c8).bind fun x9 =>
  A.fin σ (AV.tup [x9, (AV.bool false)]) r5.2) (
  (A.part1 0 c1).bind fun x10 =>
  (A.part1 1 c1).bind fun x11 =>
  (A.iaddr 4 x11 r5.1).bind fun x12 =>
  (A.faddr 1 x12).bind fun x13 =>
  ((A.deref x13 r5.2).bind fun c14 => A.part1 0 c14).bind fun x15 =>
  (A.quiet (m_R2_Profile [x10, x15] r5.2) r5.2).bind fun x16 =>
  (A.ext 0 x16).bind fun x17 =>
  (A.ext 1 x16).bind fun x18 =>
  (A.cells 3 x17).bind fun c19 =>
  (A.splice 0 c19 [(AV.str ⟨#[]⟩), (AV.int .i64 0), AV.nsl]).bind fun c20 =>
  (A.partA 0 3 c20).bind fun x21 =>
  (A.part1 1 c2).bind fun x22 =>
  (m_R2_param [x21, x22] r5.2).bind fun r23 =>
  (A.ext 0 r23.1).bind fun x24 =>
  (A.ext 1 r23.1).bind fun x25 =>
  (A.cells 7 x24).bind fun c26 =>
  (A.splice 0 c26 [(AV.str ⟨#[]⟩), (AV.int .i64 0), (AV.int .i64 0), (AV.int .i64 0), (AV.int .i64 0), (AV.bool false), AV.nsl]).bind fun c27 =>
  (A.partA 0 7 c27).bind fun x28 =>
  A.fin σ (AV.tup [x28, x25]) r23.2)
noncomputable def m_R2_ParamOf : List AV → Heap → Option (AV × Heap) := A.wrap true [(.a [(.s 3), (.s 4)])] (.t [(.a [.k, .k, .k, .k, .k, .k, (.s 3)]), .k]) (A.ar2 r_R2_ParamOf)
end Go.Proofs.Ytohbeolimnpehaa

/- What the functions of the package compute: written by a program from their code; that it is what the code does is shown elsewhere. -/
namespace Go.Proofs.Ytohbeolimnpehaa
set_option linter.unusedSectionVars false
set_option linter.unusedSimpArgs false
set_option linter.unusedVariables false
set_option maxRecDepth 100000
noncomputable def r_R4_PresetOf (a0 a1 : AV) (σ : Heap) : Option (AV × Heap) :=
 (A.lenS a0).bind fun x1 =>
 (A.loop (fun v2 s3 =>
   (A.lss (v2.getD 2 AV.undef) x1).bind fun x4 =>
   A.cond x4 (
    (A.iaddr 3 a0 (v2.getD 2 AV.undef)).bind fun x5 =>
    ((A.deref x5 s3).bind fun c6 => A.partA 0 3 c6).bind fun x7 =>
    (A.cells 3 x7).bind fun c8 =>
    (A.splice 0 c8 [(AV.int .i64 0), (AV.str ⟨#[]⟩), AV.nsl]).bind fun c9 =>
    (A.part1 0 c9).bind fun x10 =>
    (A.eql .i x10 a1).bind fun x11 =>
    A.cond x11 (
     (A.partA 0 3 c9).bind fun x12 =>
     (A.lb (v2.getD 0 AV.undef)).bind fun c15 =>
     (A.cells 3 x12).bind fun c13 =>
     (A.splice 0 c13 c15).bind fun c14 =>
     some (AX.ret, [(AV.lbx c14), (AV.bool true), (v2.getD 2 AV.undef)], s3)) (
     (A.add (v2.getD 2 AV.undef) (AV.int .i64 1)).bind fun x16 =>
     some (AX.normal, [(v2.getD 0 AV.undef), (v2.getD 1 AV.undef), x16], s3))) (
    some (AX.exit 0, [(v2.getD 0 AV.undef), (v2.getD 1 AV.undef), (v2.getD 2 AV.undef)], s3))) [(AV.lbx [(AV.int .i64 0), (AV.str ⟨#[]⟩), AV.nsl]), (AV.bool false), (AV.int .i64 0)] σ).bind fun r17 =>
 bif r17.1 == AX.exit 0 then (
  (A.lb (r17.2.1.getD 0 AV.undef)).bind fun c20 =>
  (A.cells 3 (AV.agg [(AV.int .i64 0), (AV.str ⟨#[]⟩), AV.nsl])).bind fun c18 =>
  (A.splice 0 c18 c20).bind fun c19 =>
  (A.partA 0 3 c19).bind fun x21 =>
  A.fin σ (AV.tup [x21, (AV.bool false)]) r17.2.2) else
 bif r17.1 == AX.ret then (
  ((A.lb (r17.2.1.getD 0 AV.undef)).bind fun c23 => A.partA 0 3 c23).bind fun x22 =>
  A.fin σ (AV.tup [x22, (r17.2.1.getD 1 AV.undef)]) r17.2.2) else
 none
noncomputable def m_R4_PresetOf : List AV → Heap → Option (AV × Heap) := A.wrap true [(.s 3)] (.t [(.a [.k, .k, (.s 3)]), .k]) (A.ar2 r_R4_PresetOf)
noncomputable def r_R4_Level (a0 a1 a2 : AV) (σ : Heap) : Option (AV × Heap) :=
 (A.cells 2 a1).bind fun c1 =>
 (A.cells 2 a2).bind fun c2 =>
 (A.part1 0 c2).bind fun x3 =>
 (A.neq .i x3 (AV.int .i64 0)).bind fun x4 =>
 (A.guard x4 true (A.part1 1 c2) (some (AV.tup []))).bind fun x5 =>
 (A.guard x4 true (A.neq .i x5 (AV.int .i64 0)) (some (AV.tup []))).bind fun x6 =>
 (A.pick x4 x6 (AV.bool false)).bind fun x7 =>
 A.cond x7 (
  A.fin σ (AV.tup [(AV.int .i64 0), (AV.int .i64 3)]) σ) (
  (A.part1 0 c2).bind fun x8 =>
  (m_R1_IsLevel [x8] σ).bind fun r9 =>
  (A.not r9.1).bind fun x10 =>
  A.cond x10 (
   A.fin σ (AV.tup [(AV.int .i64 0), (AV.int .i64 1)]) r9.2) (
   (A.part1 1 c2).bind fun x11 =>
   (A.eql .i x11 (AV.int .i64 0)).bind fun x12 =>
   A.cond x12 (
    (A.part1 0 c2).bind fun x13 =>
    A.fin σ (AV.tup [x13, (AV.int .i64 0)]) r9.2) (
    (A.part1 1 c2).bind fun x14 =>
    (m_R4_PresetOf [a0, x14] r9.2).bind fun r15 =>
    (A.ext 0 r15.1).bind fun x16 =>
    (A.ext 1 r15.1).bind fun x17 =>
    (A.cells 3 x16).bind fun c18 =>
    (A.splice 0 c18 [(AV.int .i64 0), (AV.str ⟨#[]⟩), AV.nsl]).bind fun c19 =>
    (A.not x17).bind fun x20 =>
    A.cond x20 (
     A.fin σ (AV.tup [(AV.int .i64 0), (AV.int .i64 8)]) r15.2) (
     (A.part1 2 c19).bind fun x21 =>
     (A.lenS x21).bind fun x22 =>
     (A.loop (fun v23 s24 =>
       (A.lss (v23.getD 3 AV.undef) x22).bind fun x25 =>
       A.cond x25 (
        (A.iaddr 3 x21 (v23.getD 3 AV.undef)).bind fun x26 =>
        ((A.deref x26 s24).bind fun c27 => A.partA 0 3 c27).bind fun x28 =>
        (A.cells 3 x28).bind fun c29 =>
        (A.splice 0 c29 [(AV.int .i64 0), (AV.str ⟨#[]⟩), (AV.int .i64 0)]).bind fun c30 =>
        (A.partA 0 2 c30).bind fun x31 =>
        ((A.lb (v23.getD 0 AV.undef)).bind fun c32 => A.partA 0 2 c32).bind fun x33 =>
        (A.eql (.s [0, 2]) x31 x33).bind fun x34 =>
        A.cond x34 (
         (A.part1 2 c30).bind fun x35 =>
         some (AX.ret, [(v23.getD 0 AV.undef), x35, (AV.int .i64 0), (v23.getD 3 AV.undef)], s24)) (
         (A.add (v23.getD 3 AV.undef) (AV.int .i64 1)).bind fun x36 =>
         some (AX.normal, [(v23.getD 0 AV.undef), (v23.getD 1 AV.undef), (v23.getD 2 AV.undef), x36], s24))) (
        some (AX.exit 1, [(v23.getD 0 AV.undef), (v23.getD 1 AV.undef), (v23.getD 2 AV.undef), (v23.getD 3 AV.undef)], s24))) [(AV.lbx c1), (AV.int .i64 0), (AV.int .i64 0), (AV.int .i64 0)] r15.2).bind fun r37 =>
     bif r37.1 == AX.exit 1 then (
      A.fin σ (AV.tup [(AV.int .i64 0), (AV.int .i64 8)]) r37.2.2) else
     bif r37.1 == AX.ret then (
      A.fin σ (AV.tup [(r37.2.1.getD 1 AV.undef), (r37.2.1.getD 2 AV.undef)]) r37.2.2) else
     none))))
noncomputable def m_R4_Level : List AV → Heap → Option (AV × Heap) := A.wrap true [(.s 3)] .k (A.ar3 r_R4_Level)
noncomputable def r_R4_Before (a0 a1 : AV) (σ : Heap) : Option (AV × Heap) :=
 (A.cells 2 a0).bind fun c1 =>
 (A.cells 2 a1).bind fun c2 =>
 (A.part1 0 c1).bind fun x3 =>
 (A.part1 0 c2).bind fun x4 =>
 (A.lss x3 x4).bind fun x5 =>
 (A.guard x5 false (A.part1 0 c1) (some (AV.tup []))).bind fun x6 =>
 (A.guard x5 false (A.part1 0 c2) (some (AV.tup []))).bind fun x7 =>
 (A.guard x5 false (A.eql .i x6 x7) (some (AV.tup []))).bind fun x8 =>
 (A.guard x5 false (some x8) (some (AV.tup []))).bind fun x9 =>
 (A.guard x9 true (A.part1 1 c1) (some (AV.tup []))).bind fun x10 =>
 (A.guard x9 true (A.part1 1 c2) (some (AV.tup []))).bind fun x11 =>
 (A.guard x9 true (A.lss x10 x11) (some (AV.tup []))).bind fun x12 =>
 (A.guard x5 false (A.pick x9 x12 (AV.bool false)) (some (AV.tup []))).bind fun x13 =>
 (A.pick x5 (AV.bool true) x13).bind fun x14 =>
 A.fin σ x14 σ
noncomputable def m_R4_Before : List AV → Heap → Option (AV × Heap) := A.wrap true [] .k (A.ar2 r_R4_Before)
noncomputable def r_R4_CheckPresets (a0 a1 : AV) (σ : Heap) : Option (AV × Heap) :=
 (A.cells 2 a0).bind fun c1 =>
 (A.partA 0 2 c1).bind fun x2 =>
 (m_R2_CheckRig [x2] σ).bind fun r3 =>
 (A.neq .i r3.1 (AV.int .i64 0)).bind fun x4 =>
 A.cond x4 (
  A.fin σ r3.1 r3.2) (
  (A.lenS a1).bind fun x5 =>
  (A.gtr x5 (AV.int .i64 200)).bind fun x6 =>
  A.cond x6 (
   A.fin σ (AV.int .i64 2) r3.2) (
   (A.lenS a1).bind fun x7 =>
   (A.loop (fun v8 s9 =>
     (A.lss (v8.getD 2 AV.undef) x7).bind fun x10 =>
     A.cond x10 (
      (A.iaddr 3 a1 (v8.getD 2 AV.undef)).bind fun x11 =>
      ((A.deref x11 s9).bind fun c12 => A.partA 0 3 c12).bind fun x13 =>
      (A.cells 3 x13).bind fun c14 =>
      (A.splice 0 c14 [(AV.int .i64 0), (AV.str ⟨#[]⟩), AV.nsl]).bind fun c15 =>
      (A.part1 0 c15).bind fun x16 =>
      (m_R1_Within [x16, (AV.int .i64 1), (AV.int .i64 999)] s9).bind fun r17 =>
      (A.not r17.1).bind fun x18 =>
      A.cond x18 (
       some (AX.ret, [(v8.getD 0 AV.undef), (AV.int .i64 1), (v8.getD 2 AV.undef)], r17.2)) (
       (A.gtr (v8.getD 2 AV.undef) (AV.int .i64 0)).bind fun x19 =>
       (A.guard x19 true (A.part1 0 c15) (some (AV.tup []))).bind fun x20 =>
       (A.guard x19 true (some a1) (some (AV.tup []))).bind fun x21 =>
       (A.guard x19 true (some (v8.getD 2 AV.undef)) (some (AV.tup []))).bind fun x22 =>
       (A.guard x19 true (A.sub x22 (AV.int .i64 1)) (some (AV.tup []))).bind fun x23 =>
       (A.guard x19 true (A.iaddr 3 x21 x23) (some (AV.tup []))).bind fun x24 =>
       (A.guard x19 true (A.faddr 0 x24) (some (AV.tup []))).bind fun x25 =>
       (A.guard x19 true ((A.deref x25 r17.2).bind fun c26 => A.part1 0 c26) (some (AV.tup []))).bind fun x27 =>
       (A.guard x19 true (A.leq x20 x27) (some (AV.tup []))).bind fun x28 =>
       (A.pick x19 x28 (AV.bool false)).bind fun x29 =>
       A.cond x29 (
        some (AX.ret, [(v8.getD 0 AV.undef), (AV.int .i64 7), (v8.getD 2 AV.undef)], r17.2)) (
        (A.part1 1 c15).bind fun x30 =>
        (A.neq .z x30 (AV.str ⟨#[]⟩)).bind fun x31 =>
        (A.guard x31 true (A.part1 1 c15) (some (AV.tup []))).bind fun x32 =>
        (A.guard x31 true (A.quiet (m_R1_IsTitle [x32] r17.2) r17.2) (some (AV.tup []))).bind fun x33 =>
        (A.guard x31 true (A.not x33) (some (AV.tup []))).bind fun x34 =>
        (A.pick x31 x34 (AV.bool false)).bind fun x35 =>
        A.cond x35 (
         some (AX.ret, [(v8.getD 0 AV.undef), (AV.int .i64 3), (v8.getD 2 AV.undef)], r17.2)) (
         (A.part1 2 c15).bind fun x36 =>
         (A.lenS x36).bind fun x37 =>
         (A.gtr x37 (AV.int .i64 2000)).bind fun x38 =>
         A.cond x38 (
          some (AX.ret, [(v8.getD 0 AV.undef), (AV.int .i64 2), (v8.getD 2 AV.undef)], r17.2)) (
          (A.part1 2 c15).bind fun x39 =>
          (A.lenS x39).bind fun x40 =>
          (A.loop (fun v41 s42 =>
            (A.lss (v41.getD 3 AV.undef) x40).bind fun x43 =>
            A.cond x43 (
             (A.iaddr 3 x39 (v41.getD 3 AV.undef)).bind fun x44 =>
             ((A.deref x44 s42).bind fun c45 => A.partA 0 3 c45).bind fun x46 =>
             (A.cells 3 x46).bind fun c47 =>
             (A.splice 0 c47 [(AV.int .i64 0), (AV.str ⟨#[]⟩), (AV.int .i64 0)]).bind fun c48 =>
             ((A.lb (v41.getD 0 AV.undef)).bind fun c49 => A.partA 0 2 c49).bind fun x50 =>
             (A.partA 0 2 c48).bind fun x51 =>
             (m_R2_ParamOf [x50, x51] s42).bind fun r52 =>
             (A.ext 0 r52.1).bind fun x53 =>
             (A.ext 1 r52.1).bind fun x54 =>
             (A.cells 7 x53).bind fun c55 =>
             (A.splice 0 c55 [(AV.str ⟨#[]⟩), (AV.int .i64 0), (AV.int .i64 0), (AV.int .i64 0), (AV.int .i64 0), (AV.bool false), AV.nsl]).bind fun c56 =>
             (A.not x54).bind fun x57 =>
             A.cond x57 (
              some (AX.ret, [(v41.getD 0 AV.undef), (AV.int .i64 8), (v41.getD 2 AV.undef), (v41.getD 3 AV.undef)], r52.2)) (
              (A.part1 2 c48).bind fun x58 =>
              (m_R1_IsLevel [x58] r52.2).bind fun r59 =>
              (A.not r59.1).bind fun x60 =>
              A.cond x60 (
               some (AX.ret, [(v41.getD 0 AV.undef), (AV.int .i64 1), (v41.getD 2 AV.undef), (v41.getD 3 AV.undef)], r59.2)) (
               (A.gtr (v41.getD 3 AV.undef) (AV.int .i64 0)).bind fun x61 =>
               ((A.lb (v41.getD 2 AV.undef)).bind fun _ => some (2)).bind fun p62 =>
                              (A.guard x61 true ((A.lb (v41.getD 2 AV.undef)).bind fun c63 => A.part1 p62 c63) (some (AV.tup []))).bind fun x64 =>
               (A.guard x61 true (some (v41.getD 3 AV.undef)) (some (AV.tup []))).bind fun x65 =>
               (A.guard x61 true (A.sub x65 (AV.int .i64 1)) (some (AV.tup []))).bind fun x66 =>
               (A.guard x61 true (A.iaddr 3 x64 x66) (some (AV.tup []))).bind fun x67 =>
               (A.guard x61 true (A.faddr 0 x67) (some (AV.tup []))).bind fun x68 =>
               (A.guard x61 true ((A.deref x68 r59.2).bind fun c69 => A.partA 0 2 c69) (some (AV.tup []))).bind fun x70 =>
               (A.guard x61 true (A.partA 0 2 c48) (some (AV.tup []))).bind fun x71 =>
               (A.guard x61 true (A.quiet (m_R4_Before [x70, x71] r59.2) r59.2) (some (AV.tup []))).bind fun x72 =>
               (A.guard x61 true (A.not x72) (some (AV.tup []))).bind fun x73 =>
               (A.pick x61 x73 (AV.bool false)).bind fun x74 =>
               A.cond x74 (
                some (AX.ret, [(v41.getD 0 AV.undef), (AV.int .i64 7), (v41.getD 2 AV.undef), (v41.getD 3 AV.undef)], r59.2)) (
                (A.add (v41.getD 3 AV.undef) (AV.int .i64 1)).bind fun x75 =>
                some (AX.normal, [(v41.getD 0 AV.undef), (v41.getD 1 AV.undef), (v41.getD 2 AV.undef), x75], r59.2))))) (
             some (AX.exit 3, [(v41.getD 0 AV.undef), (v41.getD 1 AV.undef), (v41.getD 2 AV.undef), (v41.getD 3 AV.undef)], s42))) [(v8.getD 0 AV.undef), (v8.getD 1 AV.undef), (AV.lbx c15), (AV.int .i64 0)] r17.2).bind fun r76 =>
          bif r76.1 == AX.exit 3 then (
           (A.add (v8.getD 2 AV.undef) (AV.int .i64 1)).bind fun x77 =>
           some (AX.normal, [(r76.2.1.getD 0 AV.undef), (r76.2.1.getD 1 AV.undef), x77], r76.2.2)) else
          bif r76.1 == AX.ret then (
           some (AX.ret, [(r76.2.1.getD 0 AV.undef), (r76.2.1.getD 1 AV.undef), (v8.getD 2 AV.undef)], r76.2.2)) else
          none))))) (
      some (AX.exit 0, [(v8.getD 0 AV.undef), (v8.getD 1 AV.undef), (v8.getD 2 AV.undef)], s9))) [(AV.lbx c1), (AV.int .i64 0), (AV.int .i64 0)] r3.2).bind fun r78 =>
   bif r78.1 == AX.exit 0 then (
    A.fin σ (AV.int .i64 0) r78.2.2) else
   bif r78.1 == AX.ret then (
    A.fin σ (r78.2.1.getD 1 AV.undef) r78.2.2) else
   none))
noncomputable def m_R4_CheckPresets : List AV → Heap → Option (AV × Heap) := A.wrap true [(.a [(.s 3), (.s 4)]), (.s 3)] .k (A.ar2 r_R4_CheckPresets)
end Go.Proofs.Ytohbeolimnpehaa

/- What the functions of the package compute: written by a program from their code; that it is what the code does is shown elsewhere. -/
namespace Go.Proofs.Ytohbeolimnpehaa
set_option linter.unusedSectionVars false
set_option linter.unusedSimpArgs false
set_option linter.unusedVariables false
set_option maxRecDepth 100000
noncomputable def r_R5_checkMove (a0 a1 : AV) (σ : Heap) : Option (AV × Heap) :=
 (A.cells 8 a0).bind fun c1 =>
 (A.part1 0 c1).bind fun x2 =>
 (m_R1_Within [x2, (AV.int .i64 1), (AV.int .i64 9999)] σ).bind fun r3 =>
 (A.not r3.1).bind fun x4 =>
 A.cond x4 (
  A.fin σ (AV.int .i64 1) r3.2) (
  (A.part1 1 c1).bind fun x5 =>
  (m_R1_IsName [x5] r3.2).bind fun r6 =>
  (A.not r6.1).bind fun x7 =>
  A.cond x7 (
   A.fin σ (AV.int .i64 5) r6.2) (
   (A.part1 4 c1).bind fun x8 =>
   (A.guard x8 true (A.partA 2 2 c1) (some (AV.tup []))).bind fun x9 =>
   (A.guard x8 true (some (AV.agg [(AV.int .i64 0), (AV.int .i64 0)])) (some (AV.tup []))).bind fun x10 =>
   (A.guard x8 true (A.neq (.s [0, 0]) x9 x10) (some (AV.tup []))).bind fun x11 =>
   (A.pick x8 x11 (AV.bool false)).bind fun x12 =>
   (A.guard x12 false (A.part1 2 c1) (some (AV.tup []))).bind fun x13 =>
   (A.guard x12 false (A.neq .i x13 (AV.int .i64 0)) (some (AV.tup []))).bind fun x14 =>
   (A.guard x12 false (some x14) (some (AV.tup []))).bind fun x15 =>
   (A.guard x15 true (A.part1 3 c1) (some (AV.tup []))).bind fun x16 =>
   (A.guard x15 true (A.neq .i x16 (AV.int .i64 0)) (some (AV.tup []))).bind fun x17 =>
   (A.guard x12 false (A.pick x15 x17 (AV.bool false)) (some (AV.tup []))).bind fun x18 =>
   (A.pick x12 (AV.bool true) x18).bind fun x19 =>
   A.cond x19 (
    A.fin σ (AV.int .i64 3) r6.2) (
    (A.part1 2 c1).bind fun x20 =>
    (m_R1_IsLevel [x20] r6.2).bind fun r21 =>
    (A.not r21.1).bind fun x22 =>
    (A.guard x22 false (A.part1 3 c1) (some (AV.tup []))).bind fun x23 =>
    (A.guard x22 false (A.quiet (m_R1_Within [x23, (AV.int .i64 0), (AV.int .i64 999)] r21.2) r21.2) (some (AV.tup []))).bind fun x24 =>
    (A.guard x22 false (A.not x24) (some (AV.tup []))).bind fun x25 =>
    (A.pick x22 (AV.bool true) x25).bind fun x26 =>
    A.cond x26 (
     A.fin σ (AV.int .i64 1) r21.2) (
     (A.part1 5 c1).bind fun x27 =>
     (A.not x27).bind fun x28 =>
     (A.guard x28 true (A.part1 6 c1) (some (AV.tup []))).bind fun x29 =>
     (A.guard x28 true (A.neq .i x29 (AV.int .i64 0)) (some (AV.tup []))).bind fun x30 =>
     (A.guard x28 true (some x30) (some (AV.tup []))).bind fun x31 =>
     (A.guard x31 false (A.part1 7 c1) (some (AV.tup []))).bind fun x32 =>
     (A.guard x31 false (A.neq .i x32 (AV.int .i64 0)) (some (AV.tup []))).bind fun x33 =>
     (A.guard x28 true (A.pick x31 (AV.bool true) x33) (some (AV.tup []))).bind fun x34 =>
     (A.pick x28 x34 (AV.bool false)).bind fun x35 =>
     A.cond x35 (
      A.fin σ (AV.int .i64 3) r21.2) (
      (A.part1 6 c1).bind fun x36 =>
      (m_R1_IsTime [x36] r21.2).bind fun r37 =>
      (A.not r37.1).bind fun x38 =>
      (A.guard x38 false (A.part1 7 c1) (some (AV.tup []))).bind fun x39 =>
      (A.guard x38 false (A.quiet (m_R1_IsTime [x39] r37.2) r37.2) (some (AV.tup []))).bind fun x40 =>
      (A.guard x38 false (A.not x40) (some (AV.tup []))).bind fun x41 =>
      (A.pick x38 (AV.bool true) x41).bind fun x42 =>
      A.cond x42 (
       A.fin σ (AV.int .i64 1) r37.2) (
       (A.lenS a1).bind fun x43 =>
       (A.gtr x43 (AV.int .i64 0)).bind fun x44 =>
       (A.guard x44 true (some a1) (some (AV.tup []))).bind fun x45 =>
       (A.guard x44 true (some a1) (some (AV.tup []))).bind fun x46 =>
       (A.guard x44 true (A.lenS x46) (some (AV.tup []))).bind fun x47 =>
       (A.guard x44 true (A.sub x47 (AV.int .i64 1)) (some (AV.tup []))).bind fun x48 =>
       (A.guard x44 true (A.iaddr 8 x45 x48) (some (AV.tup []))).bind fun x49 =>
       (A.guard x44 true (A.faddr 0 x49) (some (AV.tup []))).bind fun x50 =>
       (A.guard x44 true ((A.deref x50 r37.2).bind fun c51 => A.partA 0 2 c51) (some (AV.tup []))).bind fun x52 =>
       (A.guard x44 true (A.partA 0 2 c1) (some (AV.tup []))).bind fun x53 =>
       (A.guard x44 true (A.quiet (m_R4_Before [x52, x53] r37.2) r37.2) (some (AV.tup []))).bind fun x54 =>
       (A.guard x44 true (A.not x54) (some (AV.tup []))).bind fun x55 =>
       (A.pick x44 x55 (AV.bool false)).bind fun x56 =>
       A.cond x56 (
        A.fin σ (AV.int .i64 7) r37.2) (
        A.fin σ (AV.int .i64 0) r37.2)))))))
noncomputable def m_R5_checkMove : List AV → Heap → Option (AV × Heap) := A.wrap true [.k, (.s 8)] .k (A.ar2 r_R5_checkMove)
noncomputable def r_R5_checkMoves (a0 : AV) (σ : Heap) : Option (AV × Heap) :=
 (A.lenS a0).bind fun x1 =>
 (A.gtr x1 (AV.int .i64 2000)).bind fun x2 =>
 A.cond x2 (
  A.fin σ (AV.int .i64 2) σ) (
  (A.lenS a0).bind fun x3 =>
  (A.loop (fun v4 s5 =>
    (A.lss (v4.getD 1 AV.undef) x3).bind fun x6 =>
    A.cond x6 (
     (A.iaddr 8 a0 (v4.getD 1 AV.undef)).bind fun x7 =>
     ((A.deref x7 s5).bind fun c8 => A.partA 0 8 c8).bind fun x9 =>
     (A.cells 8 x9).bind fun c10 =>
     (A.splice 0 c10 [(AV.int .i64 0), (AV.str ⟨#[]⟩), (AV.int .i64 0), (AV.int .i64 0), (AV.bool false), (AV.bool false), (AV.int .i64 0), (AV.int .i64 0)]).bind fun c11 =>
     (A.partA 0 8 c11).bind fun x12 =>
     (A.sliceS 8 a0 none (some (v4.getD 1 AV.undef))).bind fun x13 =>
     (A.quiet (m_R5_checkMove [x12, x13] s5) s5).bind fun x14 =>
     (A.neq .i x14 (AV.int .i64 0)).bind fun x15 =>
     A.cond x15 (
      some (AX.ret, [x14, (v4.getD 1 AV.undef)], s5)) (
      (A.add (v4.getD 1 AV.undef) (AV.int .i64 1)).bind fun x16 =>
      some (AX.normal, [(v4.getD 0 AV.undef), x16], s5))) (
     some (AX.exit 0, [(v4.getD 0 AV.undef), (v4.getD 1 AV.undef)], s5))) [(AV.int .i64 0), (AV.int .i64 0)] σ).bind fun r17 =>
  bif r17.1 == AX.exit 0 then (
   A.fin σ (AV.int .i64 0) r17.2.2) else
  bif r17.1 == AX.ret then (
   A.fin σ (r17.2.1.getD 0 AV.undef) r17.2.2) else
  none)
noncomputable def m_R5_checkMoves : List AV → Heap → Option (AV × Heap) := A.wrap true [(.s 8)] .k (A.ar1 r_R5_checkMoves)
noncomputable def r_R5_CheckForm (a0 : AV) (σ : Heap) : Option (AV × Heap) :=
 (A.lenS a0).bind fun x1 =>
 (A.gtr x1 (AV.int .i64 300)).bind fun x2 =>
 A.cond x2 (
  A.fin σ (AV.int .i64 2) σ) (
  (A.lenS a0).bind fun x3 =>
  (A.loop (fun v4 s5 =>
    (A.lss (v4.getD 2 AV.undef) x3).bind fun x6 =>
    A.cond x6 (
     (A.iaddr 11 a0 (v4.getD 2 AV.undef)).bind fun x7 =>
     ((A.deref x7 s5).bind fun c8 => A.partA 0 11 c8).bind fun x9 =>
     (A.cells 11 x9).bind fun c10 =>
     (A.splice 0 c10 [(AV.int .i64 0), (AV.str ⟨#[]⟩), (AV.int .i64 0), (AV.int .i64 0), (AV.int .i64 0), (AV.int .i64 0), (AV.int .i64 0), AV.nsl, (AV.bool false), (AV.int .i64 0), AV.nsl]).bind fun c11 =>
     (A.part1 0 c11).bind fun x12 =>
     (m_R1_Within [x12, (AV.int .i64 1), (AV.int .i64 9999999)] s5).bind fun r13 =>
     (A.not r13.1).bind fun x14 =>
     A.cond x14 (
      some (AX.ret, [(AV.int .i64 1), (v4.getD 1 AV.undef), (v4.getD 2 AV.undef)], r13.2)) (
      (A.gtr (v4.getD 2 AV.undef) (AV.int .i64 0)).bind fun x15 =>
      (A.guard x15 true (A.part1 0 c11) (some (AV.tup []))).bind fun x16 =>
      (A.guard x15 true (some a0) (some (AV.tup []))).bind fun x17 =>
      (A.guard x15 true (some (v4.getD 2 AV.undef)) (some (AV.tup []))).bind fun x18 =>
      (A.guard x15 true (A.sub x18 (AV.int .i64 1)) (some (AV.tup []))).bind fun x19 =>
      (A.guard x15 true (A.iaddr 11 x17 x19) (some (AV.tup []))).bind fun x20 =>
      (A.guard x15 true (A.faddr 0 x20) (some (AV.tup []))).bind fun x21 =>
      (A.guard x15 true ((A.deref x21 r13.2).bind fun c22 => A.part1 0 c22) (some (AV.tup []))).bind fun x23 =>
      (A.guard x15 true (A.leq x16 x23) (some (AV.tup []))).bind fun x24 =>
      (A.pick x15 x24 (AV.bool false)).bind fun x25 =>
      A.cond x25 (
       some (AX.ret, [(AV.int .i64 7), (v4.getD 1 AV.undef), (v4.getD 2 AV.undef)], r13.2)) (
       (A.part1 1 c11).bind fun x26 =>
       (A.neq .z x26 (AV.str ⟨#[]⟩)).bind fun x27 =>
       (A.guard x27 true (A.part1 1 c11) (some (AV.tup []))).bind fun x28 =>
       (A.guard x27 true (A.quiet (m_R1_IsTitle [x28] r13.2) r13.2) (some (AV.tup []))).bind fun x29 =>
       (A.guard x27 true (A.not x29) (some (AV.tup []))).bind fun x30 =>
       (A.pick x27 x30 (AV.bool false)).bind fun x31 =>
       A.cond x31 (
        some (AX.ret, [(AV.int .i64 3), (v4.getD 1 AV.undef), (v4.getD 2 AV.undef)], r13.2)) (
        (A.part1 2 c11).bind fun x32 =>
        (m_R1_IsTime [x32] r13.2).bind fun r33 =>
        (A.not r33.1).bind fun x34 =>
        (A.guard x34 false (A.part1 3 c11) (some (AV.tup []))).bind fun x35 =>
        (A.guard x34 false (A.quiet (m_R1_IsTime [x35] r33.2) r33.2) (some (AV.tup []))).bind fun x36 =>
        (A.guard x34 false (A.not x36) (some (AV.tup []))).bind fun x37 =>
        (A.pick x34 (AV.bool true) x37).bind fun x38 =>
        (A.guard x38 false (A.part1 4 c11) (some (AV.tup []))).bind fun x39 =>
        (A.guard x38 false (A.quiet (m_R1_IsTime [x39] r33.2) r33.2) (some (AV.tup []))).bind fun x40 =>
        (A.guard x38 false (A.not x40) (some (AV.tup []))).bind fun x41 =>
        (A.pick x38 (AV.bool true) x41).bind fun x42 =>
        (A.guard x42 false (A.part1 5 c11) (some (AV.tup []))).bind fun x43 =>
        (A.guard x42 false (A.quiet (m_R1_IsTime [x43] r33.2) r33.2) (some (AV.tup []))).bind fun x44 =>
        (A.guard x42 false (A.not x44) (some (AV.tup []))).bind fun x45 =>
        (A.pick x42 (AV.bool true) x45).bind fun x46 =>
        (A.guard x46 false (A.part1 9 c11) (some (AV.tup []))).bind fun x47 =>
        (A.guard x46 false (A.quiet (m_R1_Within [x47, (AV.int .i64 (-1)), (AV.int .i64 36000000)] r33.2) r33.2) (some (AV.tup []))).bind fun x48 =>
        (A.guard x46 false (A.not x48) (some (AV.tup []))).bind fun x49 =>
        (A.pick x46 (AV.bool true) x49).bind fun x50 =>
        A.cond x50 (
         some (AX.ret, [(AV.int .i64 1), (v4.getD 1 AV.undef), (v4.getD 2 AV.undef)], r33.2)) (
         (A.partA 6 2 c11).bind fun x51 =>
         (m_R1_CheckCurve [x51] r33.2).bind fun r52 =>
         (A.neq .i r52.1 (AV.int .i64 0)).bind fun x53 =>
         A.cond x53 (
          some (AX.ret, [r52.1, (v4.getD 1 AV.undef), (v4.getD 2 AV.undef)], r52.2)) (
          (A.part1 10 c11).bind fun x54 =>
          (m_R5_checkMoves [x54] r52.2).bind fun r55 =>
          (A.neq .i r55.1 (AV.int .i64 0)).bind fun x56 =>
          A.cond x56 (
           some (AX.ret, [r55.1, (v4.getD 1 AV.undef), (v4.getD 2 AV.undef)], r55.2)) (
           (A.part1 10 c11).bind fun x57 =>
           (A.lenS x57).bind fun x58 =>
           (A.add (v4.getD 1 AV.undef) x58).bind fun x59 =>
           (A.add (v4.getD 2 AV.undef) (AV.int .i64 1)).bind fun x60 =>
           some (AX.normal, [(v4.getD 0 AV.undef), x59, x60], r55.2)))))))) (
     some (AX.exit 0, [(v4.getD 0 AV.undef), (v4.getD 1 AV.undef), (v4.getD 2 AV.undef)], s5))) [(AV.int .i64 0), (AV.int .i64 0), (AV.int .i64 0)] σ).bind fun r61 =>
  bif r61.1 == AX.exit 0 then (
   (A.gtr (r61.2.1.getD 1 AV.undef) (AV.int .i64 10000)).bind fun x62 =>
   A.cond x62 (
    A.fin σ (AV.int .i64 2) r61.2.2) (
    A.fin σ (AV.int .i64 0) r61.2.2)) else
  bif r61.1 == AX.ret then (
   A.fin σ (r61.2.1.getD 0 AV.undef) r61.2.2) else
  none)
noncomputable def m_R5_CheckForm : List AV → Heap → Option (AV × Heap) := A.wrap true [(.s 11)] .k (A.ar1 r_R5_CheckForm)
noncomputable def r_R5_CheckList (a0 a1 a2 : AV) (σ : Heap) : Option (AV × Heap) :=
 (A.cells 2 a0).bind fun c1 =>
 (A.partA 0 2 c1).bind fun x2 =>
 (m_R4_CheckPresets [x2, a1] σ).bind fun r3 =>
 (A.neq .i r3.1 (AV.int .i64 0)).bind fun x4 =>
 A.cond x4 (
  A.fin σ r3.1 r3.2) (
  (m_R5_CheckForm [a2] r3.2).bind fun r5 =>
  (A.neq .i r5.1 (AV.int .i64 0)).bind fun x6 =>
  A.cond x6 (
   A.fin σ r5.1 r5.2) (
   (A.lenS a2).bind fun x7 =>
   (A.loop (fun v8 s9 =>
     (A.lss (v8.getD 2 AV.undef) x7).bind fun x10 =>
     A.cond x10 (
      (A.iaddr 11 a2 (v8.getD 2 AV.undef)).bind fun x11 =>
      ((A.deref x11 s9).bind fun c12 => A.partA 0 11 c12).bind fun x13 =>
      (A.cells 11 x13).bind fun c14 =>
      (A.splice 0 c14 [(AV.int .i64 0), (AV.str ⟨#[]⟩), (AV.int .i64 0), (AV.int .i64 0), (AV.int .i64 0), (AV.int .i64 0), (AV.int .i64 0), AV.nsl, (AV.bool false), (AV.int .i64 0), AV.nsl]).bind fun c15 =>
      (A.part1 10 c15).bind fun x16 =>
      (A.lenS x16).bind fun x17 =>
      (A.loop (fun v18 s19 =>
        (A.lss (v18.getD 2 AV.undef) x17).bind fun x20 =>
        A.cond x20 (
         (A.iaddr 8 x16 (v18.getD 2 AV.undef)).bind fun x21 =>
         ((A.deref x21 s19).bind fun c22 => A.partA 0 8 c22).bind fun x23 =>
         (A.cells 8 x23).bind fun c24 =>
         (A.splice 0 c24 [(AV.int .i64 0), (AV.str ⟨#[]⟩), (AV.int .i64 0), (AV.int .i64 0), (AV.bool false), (AV.bool false), (AV.int .i64 0), (AV.int .i64 0)]).bind fun c25 =>
         ((A.lb (v18.getD 0 AV.undef)).bind fun c26 => A.partA 0 2 c26).bind fun x27 =>
         (A.partA 0 2 c25).bind fun x28 =>
         (m_R2_ParamOf [x27, x28] s19).bind fun r29 =>
         (A.ext 0 r29.1).bind fun x30 =>
         (A.ext 1 r29.1).bind fun x31 =>
         (A.cells 7 x30).bind fun c32 =>
         (A.splice 0 c32 [(AV.str ⟨#[]⟩), (AV.int .i64 0), (AV.int .i64 0), (AV.int .i64 0), (AV.int .i64 0), (AV.bool false), AV.nsl]).bind fun c33 =>
         (A.not x31).bind fun x34 =>
         A.cond x34 (
          some (AX.ret, [(v18.getD 0 AV.undef), (AV.int .i64 8), (v18.getD 2 AV.undef)], r29.2)) (
          (A.partA 0 2 c25).bind fun x35 =>
          (A.partA 2 2 c25).bind fun x36 =>
          (m_R4_Level [a1, x35, x36] r29.2).bind fun r37 =>
          (A.ext 0 r37.1).bind fun x38 =>
          (A.ext 1 r37.1).bind fun x39 =>
          (A.neq .i x39 (AV.int .i64 0)).bind fun x40 =>
          A.cond x40 (
           some (AX.ret, [(v18.getD 0 AV.undef), x39, (v18.getD 2 AV.undef)], r37.2)) (
           (A.add (v18.getD 2 AV.undef) (AV.int .i64 1)).bind fun x41 =>
           some (AX.normal, [(v18.getD 0 AV.undef), (v18.getD 1 AV.undef), x41], r37.2)))) (
         some (AX.exit 2, [(v18.getD 0 AV.undef), (v18.getD 1 AV.undef), (v18.getD 2 AV.undef)], s19))) [(v8.getD 0 AV.undef), (v8.getD 1 AV.undef), (AV.int .i64 0)] s9).bind fun r42 =>
      bif r42.1 == AX.exit 2 then (
       (A.add (v8.getD 2 AV.undef) (AV.int .i64 1)).bind fun x43 =>
       some (AX.normal, [(r42.2.1.getD 0 AV.undef), (r42.2.1.getD 1 AV.undef), x43], r42.2.2)) else
      bif r42.1 == AX.ret then (
       some (AX.ret, [(r42.2.1.getD 0 AV.undef), (r42.2.1.getD 1 AV.undef), (v8.getD 2 AV.undef)], r42.2.2)) else
      none) (
      some (AX.exit 0, [(v8.getD 0 AV.undef), (v8.getD 1 AV.undef), (v8.getD 2 AV.undef)], s9))) [(AV.lbx c1), (AV.int .i64 0), (AV.int .i64 0)] r5.2).bind fun r44 =>
   bif r44.1 == AX.exit 0 then (
    A.fin σ (AV.int .i64 0) r44.2.2) else
   bif r44.1 == AX.ret then (
    A.fin σ (r44.2.1.getD 1 AV.undef) r44.2.2) else
   none))
noncomputable def m_R5_CheckList : List AV → Heap → Option (AV × Heap) := A.wrap true [(.a [(.s 3), (.s 4)]), (.s 3), (.s 11)] .k (A.ar3 r_R5_CheckList)
noncomputable def r_R5_At (a0 a1 : AV) (σ : Heap) : Option (AV × Heap) :=
 (A.lenS a0).bind fun x1 =>
 (A.loop (fun v2 s3 =>
   (A.lss (v2.getD 1 AV.undef) x1).bind fun x4 =>
   A.cond x4 (
    (A.iaddr 11 a0 (v2.getD 1 AV.undef)).bind fun x5 =>
    ((A.deref x5 s3).bind fun c6 => A.partA 0 11 c6).bind fun x7 =>
    (A.cells 11 x7).bind fun c8 =>
    (A.splice 0 c8 [(AV.int .i64 0), (AV.str ⟨#[]⟩), (AV.int .i64 0), (AV.int .i64 0), (AV.int .i64 0), (AV.int .i64 0), (AV.int .i64 0), AV.nsl, (AV.bool false), (AV.int .i64 0), AV.nsl]).bind fun c9 =>
    (A.part1 0 c9).bind fun x10 =>
    (A.eql .i x10 a1).bind fun x11 =>
    A.cond x11 (
     some (AX.ret, [(v2.getD 1 AV.undef), (v2.getD 1 AV.undef)], s3)) (
     (A.add (v2.getD 1 AV.undef) (AV.int .i64 1)).bind fun x12 =>
     some (AX.normal, [(v2.getD 0 AV.undef), x12], s3))) (
    some (AX.exit 0, [(v2.getD 0 AV.undef), (v2.getD 1 AV.undef)], s3))) [(AV.int .i64 0), (AV.int .i64 0)] σ).bind fun r13 =>
 bif r13.1 == AX.exit 0 then (
  A.fin σ (AV.int .i64 (-1)) r13.2.2) else
 bif r13.1 == AX.ret then (
  A.fin σ (r13.2.1.getD 0 AV.undef) r13.2.2) else
 none
noncomputable def m_R5_At : List AV → Heap → Option (AV × Heap) := A.wrap true [(.s 11)] .k (A.ar2 r_R5_At)
end Go.Proofs.Ytohbeolimnpehaa

/- Profiles, libraries, rigs: what is right of them, in plain words. -/
namespace Go.Proofs.Ytohbeolimnpehaa
set_option linter.unusedSectionVars false
set_option linter.unusedVariables false
set_option linter.unusedSimpArgs false
def withinB (n lo hi : Int) : Bool := decide (lo ≤ n ∧ n ≤ hi)
def okc (c : UInt8) : Bool := decide (97 ≤ c.toNat ∧ c.toNat ≤ 122) || decide (48 ≤ c.toNat ∧ c.toNat ≤ 57) || decide (c.toNat = 45)
def rowB (s : ByteArray) : Bool := s.data.toList.all okc && decide (0 < s.size)
def nameB (s : ByteArray) : Bool := rowB s && decide (s.size ≤ 20) && decide (97 ≤ (s.data.toList.getD 0 0).toNat) && decide ((s.data.toList.getD 0 0).toNat ≤ 122)
def pc (c : UInt8) : Bool := decide (32 ≤ c.toNat ∧ c.toNat ≤ 126)
def edgeB (s : ByteArray) : Bool := decide (0 < s.size) && decide (s.size ≤ 60) && (decide ((s.data.toList.getD 0 0).toNat ≠ 32) && decide ((s.data.toList.getD (s.size - 1) 0).toNat ≠ 32))
def titleB (s : ByteArray) : Bool := s.data.toList.all pc && edgeB s
theorem getD_byte (s : ByteArray) (i : Nat) (h : i < s.size) : s.data.toList.getD i 0 = s[i] := by
 rw [List.getD_eq_getElem?_getD, List.getElem?_eq_getElem (by simpa using h)]; rfl
/-- The fault of ranges, behind others. -/
def chkR (pre : List RangeD) : List RangeD → Int
 | [] => 0
 | r :: rest =>
  if withinB r.low 0 65535 = false ∨ withinB r.high 0 65535 = false ∨ r.high < r.low then 1
  else if 0 < pre.length ∧ r.low ≤ (pre.getLast?.map (·.high)).getD 0 then 7
  else if nameB r.name = false then 5
  else if memB r.name (pre.map (·.name)) = true then 6
  else chkR (pre ++ [r]) rest
def rangesF (l : List RangeD) : Int := if 30 < l.length then 2 else chkR [] l
/-- The slots of parameters. -/
def slotsOf (l : List ParamD) : List Int := l.flatMap fun x => if 0 < x.fine then [x.att, x.fine] else [x.att]
theorem slotsOf_snoc (l : List ParamD) (x : ParamD) : slotsOf (l ++ [x]) = slotsOf l ++ (if 0 < x.fine then [x.att, x.fine] else [x.att]) := by simp [slotsOf]
/-- The fault of parameters, behind others. -/
def chkP (size : Int) (pre : List ParamD) : List ParamD → Int
 | [] => 0
 | x :: rest =>
  if nameB x.name = false then 5
  else if memB x.name (pre.map (·.name)) = true then 6
  else if withinB x.group 1 4 = false then 4
  else if withinB x.att 1 size = false ∨ withinB x.fine 0 size = false ∨ withinB x.default 0 65535 = false then 1
  else if x.att = x.fine ∨ memB x.att (slotsOf pre) = true ∨ (0 < x.fine ∧ memB x.fine (slotsOf pre) = true) then 12
  else if rangesF x.ranges = 0 then chkP size (pre ++ [x]) rest else rangesF x.ranges
def profileF (p : ProfileD) : Int :=
 if nameB p.name = false then 5 else if withinB p.size 1 512 = false then 1 else if p.params.length = 0 then 8 else if 40 < p.params.length then 2 else chkP p.size [] p.params
def slotL (xa xf : Int) : List Int := if xf = 0 then [xa] else [xa, xf]
/-- The fault of one parameter, behind others. -/
def chkX (size : Int) (pre : List ParamD) (x : ParamD) : Int :=
 if nameB x.name = false then 5
 else if memB x.name (pre.map (·.name)) = true then 6
 else if withinB x.group 1 4 = false then 4
 else if withinB x.att 1 size = false ∨ withinB x.fine 0 size = false ∨ withinB x.default 0 65535 = false then 1
 else if x.att = x.fine ∨ memB x.att (slotsOf pre) = true ∨ (0 < x.fine ∧ memB x.fine (slotsOf pre) = true) then 12
 else rangesF x.ranges
theorem chkP_cons (size : Int) (pre : List ParamD) (x : ParamD) (rest : List ParamD) : chkP size pre (x :: rest) = if chkX size pre x = 0 then chkP size (pre ++ [x]) rest else chkX size pre x := by
 rw [chkP, chkX]
 split <;> first | (simp; done) | skip
 split <;> first | (simp; done) | skip
 split <;> first | (simp; done) | skip
 split <;> first | (simp; done) | skip
 split <;> first | (simp; done) | skip
/-- Two parameters have a slot in common. -/
def clash2 (xa xf ya yf : Int) : Bool := (slotL xa xf).any fun s => memB s (slotL ya yf)
def clashL (xa xf : Int) (l : List ParamD) : Bool := l.any fun y => clash2 xa xf y.att y.fine
theorem mem_slotsOf {s : Int} {l : List ParamD} (h : ∀ y ∈ l, 0 ≤ y.fine) : s ∈ slotsOf l ↔ ∃ y ∈ l, s ∈ slotL y.att y.fine := by
 simp only [slotsOf, List.mem_flatMap]
 constructor
 ·rintro ⟨y, hy, hs⟩
  refine ⟨y, hy, ?_⟩
  have := h y hy
  unfold slotL
  split at hs
  ·rw [if_neg (by omega)]; exact hs
  ·split
   ·exact hs
   ·simp at hs; simp [hs]
 ·rintro ⟨y, hy, hs⟩
  refine ⟨y, hy, ?_⟩
  have := h y hy
  unfold slotL at hs
  split at hs
  ·rw [if_neg (by omega)]; exact hs
  ·rw [if_pos (by omega)]; exact hs
theorem clash_iff {xa xf : Int} {l : List ParamD} (h : ∀ y ∈ l, 0 ≤ y.fine) (hx : 0 ≤ xf) : clashL xa xf l = true ↔ (memB xa (slotsOf l) = true ∨ (0 < xf ∧ memB xf (slotsOf l) = true)) := by
 simp only [memB_iff, mem_slotsOf h, clashL, clash2, List.any_eq_true]
 constructor
 ·rintro ⟨y, hy, s, hs, hm⟩
  unfold slotL at hs
  split at hs
  ·simp at hs; subst hs; exact .inl ⟨y, hy, hm⟩
  ·simp at hs
   rcases hs with rfl | rfl
   ·exact .inl ⟨y, hy, hm⟩
   ·exact .inr ⟨by omega, y, hy, hm⟩
 ·rintro (⟨y, hy, hm⟩ | ⟨h0, y, hy, hm⟩)
  ·exact ⟨y, hy, xa, by unfold slotL; split <;> simp, hm⟩
  ·exact ⟨y, hy, xf, by unfold slotL; rw [if_neg (by omega)]; simp, hm⟩
theorem chkX_fine {size : Int} {pre : List ParamD} {x : ParamD} (h : chkX size pre x = 0) : 0 ≤ x.fine := by
 unfold chkX at h
 split at h
 ·cases h
 split at h
 ·cases h
 split at h
 ·cases h
 split at h
 ·cases h
 rename_i h4
 cases hf : withinB x.fine 0 size
 ·exact absurd (.inr (.inl hf)) h4
 ·simp [withinB] at hf; exact hf.1
/-- The fault of profiles, behind others. -/
def chkL (pre : List ProfileD) : List ProfileD → Int
 | [] => 0
 | p :: rest => if profileF p = 0 then (if memB p.name (pre.map (·.name)) = true then 6 else chkL (pre ++ [p]) rest) else profileF p
def libF (l : List ProfileD) : Int := if 60 < l.length then 2 else chkL [] l
/-- The profile with a name, or an empty one. -/
def profOf (nm : ByteArray) : List ProfileD → ProfileD × Bool
 | [] => (⟨⟨#[]⟩, 0, []⟩, false)
 | p :: rest => if p.name = nm then (p, true) else profOf nm rest
/-- Slots from an address on are free. -/
def freeF (f : Nat → Bool) : Nat → Nat → Bool
 | 0, _ => true
 | n + 1, a => if 512 < a ∨ f a = true then false else freeF f n (a + 1)
/-- Slots from an address on are marked, too. -/
def markF (f : Int → Nat → Bool) (u : Int) (a s : Nat) : Int → Nat → Bool := fun v k => if v = u ∧ a ≤ k ∧ k < a + s then true else f v k
/-- A number is not above the last one of these. -/
def ordB (pre : List Int) (n : Int) : Bool := match pre.getLast? with | some m => decide (n ≤ m) | none => false
/-- The last slot of a unit. -/
def lastU (lib : List ProfileD) (u : UnitD) : Int := u.address + (profOf u.profile lib).1.size - 1
def clashU (lib : List ProfileD) (u : UnitD) (pre : List UnitD) : Bool := pre.any fun x => decide (x.univ = u.univ ∧ x.address ≤ lastU lib u ∧ u.address ≤ lastU lib x)
def chkU (lib : List ProfileD) (pre : List UnitD) : List UnitD → Int
 | [] => 0
 | u :: rest =>
  if withinB u.number 1 9999 = false then 1
  else if ordB (pre.map (·.number)) u.number = true then 7
  else if (profOf u.profile lib).2 = false then 5
  else if withinB u.univ 1 64 = false ∨ withinB u.address 1 512 = false ∨ 512 < lastU lib u then 1
  else if clashU lib u pre = true then 12
  else chkU lib (pre ++ [u]) rest
def rigF (r : RigD) : Int := if libF r.library = 0 then (if 400 < r.units.length then 2 else chkU r.library [] r.units) else libF r.library
/-- Right units of a library. -/
def UnitsOk (lib : List ProfileD) (pre : List UnitD) : Prop := ∀ x ∈ pre, 1 ≤ x.address ∧ x.address ≤ lastU lib x ∧ lastU lib x ≤ 512
def MarksP (lib : List ProfileD) (pre : List UnitD) (f : Int → Nat → Bool) : Prop := ∀ v k, f v k = true ↔ ∃ x ∈ pre, x.univ = v ∧ x.address ≤ (k : Int) ∧ (k : Int) ≤ lastU lib x
theorem MarksP.nil (lib : List ProfileD) : MarksP lib [] (fun _ _ => false) := fun v k => by simp
theorem MarksP.snoc {lib : List ProfileD} {pre : List UnitD} {f : Int → Nat → Bool} (h : MarksP lib pre f) (u : UnitD) (a s : Nat) (ha : u.address = a) (hs : lastU lib u = (a : Int) + s - 1) : MarksP lib (pre ++ [u]) (markF f u.univ a s) := by
 intro v k
 unfold markF
 by_cases e : v = u.univ ∧ a ≤ k ∧ k < a + s
 ·rw [if_pos e]
  refine ⟨fun _ => ⟨u, by simp, e.1.symm, by omega, by omega⟩, fun _ => rfl⟩
 ·rw [if_neg e, h v k]
  constructor
  ·rintro ⟨x, hx, h1⟩
   exact ⟨x, by simp [hx], h1⟩
  ·rintro ⟨x, hx, h1, h2, h3⟩
   simp only [List.mem_append, List.mem_singleton] at hx
   rcases hx with hx | rfl
   ·exact ⟨x, hx, h1, h2, h3⟩
   ·exact absurd ⟨h1.symm, by omega, by omega⟩ e
theorem freeF_iff (f : Nat → Bool) : ∀ (s a : Nat), freeF f s a = true ↔ ∀ k, a ≤ k → k < a + s → k ≤ 512 ∧ f k = false
 | 0, a => by simp [freeF]; intro k h1 h2; omega
 | s + 1, a => by
  rw [freeF]
  by_cases e : 512 < a ∨ f a = true
  ·rw [if_pos e]
   simp only [Bool.false_eq_true, false_iff]
   intro h
   have := h a (Nat.le_refl _) (by omega)
   rcases e with e | e
   ·omega
   ·rw [e] at this; simp at this
  ·rw [if_neg e, freeF_iff f s (a + 1)]
   constructor
   ·intro h k h1 h2
    by_cases hk : k = a
    ·subst hk
     refine ⟨by omega, ?_⟩
     cases hf : f k
     ·rfl
     ·exact absurd (.inr hf) e
    ·exact h k (by omega) (by omega)
   ·intro h k h1 h2
    exact h k (by omega) (by omega)
theorem free_clash {lib : List ProfileD} {pre : List UnitD} {f : Int → Nat → Bool} (h : MarksP lib pre f) (hok : UnitsOk lib pre) (u : UnitD) (a s : Nat) (ha : u.address = a) (h1 : 1 ≤ s) (hs : lastU lib u = (a : Int) + s - 1) (h2 : lastU lib u ≤ 512) : freeF (f u.univ) s a = !clashU lib u pre := by
 rw [Bool.eq_iff_iff, freeF_iff]
 simp only [Bool.not_eq_true', clashU, List.any_eq_false, decide_eq_true_eq, not_and]
 constructor
 ·intro hf x hx e1 e2 e3
  have hx' := hok x hx
  obtain ⟨k, hk⟩ : ∃ k : Nat, (k : Int) = max x.address a := ⟨(max x.address (a : Int)).toNat, by omega⟩
  have hf' := (hf k (by omega) (by omega)).2
  have : f u.univ k = true := (h u.univ k).2 ⟨x, hx, e1, by omega, by omega⟩
  rw [this] at hf'; simp at hf'
 ·intro hf k h3 h4
  refine ⟨by omega, ?_⟩
  cases hfk : f u.univ k
  ·rfl
  ·obtain ⟨x, hx, e1, e2, e3⟩ := (h u.univ k).1 hfk
   exact absurd (show u.address ≤ lastU lib x by omega) (hf x hx e1 (by omega))
theorem profileF_size {p : ProfileD} (h : profileF p = 0) : 1 ≤ p.size ∧ p.size ≤ 512 := by
 unfold profileF at h
 by_cases h1 : nameB p.name = false
 ·rw [if_pos h1] at h; simp at h
 ·rw [if_neg h1] at h
  by_cases h2 : withinB p.size 1 512 = false
  ·rw [if_pos h2] at h; simp at h
  ·simpa [withinB] using h2
theorem chkL_sizes : ∀ (l pre : List ProfileD), chkL pre l = 0 → ∀ p ∈ l, 1 ≤ p.size ∧ p.size ≤ 512
 | [], pre, h, p, hp => by simp at hp
 | q :: rest, pre, h, p, hp => by
  rw [chkL] at h
  by_cases e : profileF q = 0
  ·rw [if_pos e] at h
   by_cases e2 : memB q.name (pre.map (·.name)) = true
   ·rw [if_pos e2] at h; simp at h
   ·rw [if_neg e2] at h
    simp only [List.mem_cons] at hp
    rcases hp with rfl | hp
    ·exact profileF_size e
    ·exact chkL_sizes rest _ h p hp
  ·rw [if_neg e] at h; exact absurd h e
theorem libF_sizes {l : List ProfileD} (h : libF l = 0) : ∀ p ∈ l, 1 ≤ p.size ∧ p.size ≤ 512 := by
 unfold libF at h
 by_cases e : 60 < l.length
 ·rw [if_pos e] at h; simp at h
 ·rw [if_neg e] at h; exact chkL_sizes l [] h
theorem profOf_mem (nm : ByteArray) : ∀ (l : List ProfileD), (profOf nm l).2 = true → (profOf nm l).1 ∈ l
 | [], h => by simp [profOf] at h
 | p :: r, h => by
  rw [profOf] at h ⊢
  by_cases e : p.name = nm
  ·rw [if_pos e]; simp
  ·rw [if_neg e] at h ⊢
   exact List.mem_cons_of_mem _ (profOf_mem nm r h)
theorem UnitsOk.snoc {lib : List ProfileD} {pre : List UnitD} (h : UnitsOk lib pre) {u : UnitD} (h1 : 1 ≤ u.address ∧ u.address ≤ lastU lib u ∧ lastU lib u ≤ 512) : UnitsOk lib (pre ++ [u]) := fun x hx => by
 simp only [List.mem_append, List.mem_singleton] at hx
 rcases hx with hx | rfl
 ·exact h x hx
 ·exact h1
end Go.Proofs.Ytohbeolimnpehaa

/- Package word, and what the references have in its place: what they compute. -/
namespace Go.Proofs.Ytohbeolimnpehaa
set_option linter.unusedSectionVars false
set_option linter.unusedVariables false
set_option linter.unusedSimpArgs false
theorem Within_eq (n lo hi : Int) (σ : Heap) : m_word_Within [.int .i64 n, .int .i64 lo, .int .i64 hi] σ = some (.bool (withinB n lo hi), σ) := by
 refine wrap_eq rfl ?_ rfl
 show r_word_Within _ _ _ σ = _
 unfold r_word_Within withinB
 by_cases h : lo ≤ n <;> simp only [MSb, reduceCtorEq, h, true_and, false_and]
theorem Within1_eq (n lo hi : Int) (σ : Heap) : m_R1_Within [.int .i64 n, .int .i64 lo, .int .i64 hi] σ = some (.bool (withinB n lo hi), σ) := by
 refine wrap_eq rfl ?_ rfl
 show r_R1_Within _ _ _ σ = _
 unfold r_R1_Within withinB
 by_cases h : lo ≤ n <;> simp only [MSb, reduceCtorEq, h, true_and, false_and]
theorem When_eq (b : Bool) (n : Int) (σ : Heap) : m_word_When [.bool b, .int .i64 n] σ = some (.int .i64 (if b = true then n else 0), σ) := by
 refine wrap_eq rfl ?_ rfl
 show r_word_When _ _ σ = _
 unfold r_word_When
 cases b <;> simp [MSb, reduceCtorEq]
theorem sidx_eq (s : ByteArray) {i : Nat} (h : i < s.size) : A.sidx (.str s) (.int .i64 (i : Int)) = some (.int .u8 (s.data.toList.getD i 0).toNat) := by
 have h1 : s[i]? = some s[i] := by simp [h]
 simp [A.sidx, A.idx, h, getD_byte s i h]
 rfl
theorem isEmpty_ne (s : ByteArray) : (decide (¬ s = ⟨#[]⟩)) = decide (0 < s.size) := by
 rw [decide_eq_decide]
 constructor
 ·intro h
  rcases Nat.eq_zero_or_pos s.size with e | e
  ·exact absurd (ByteArray.ext (Array.eq_empty_of_size_eq_zero e)) h
  ·exact e
 ·rintro h rfl; exact absurd h (by decide)
theorem Row_eq (s : ByteArray) (hs : okS s) (σ : Heap) : m_word_Row [.str s] σ = some (.bool (rowB s), σ) := by
 refine wrap_eq rfl ?_ rfl
 show r_word_Row _ σ = _
 unfold r_word_Row
 simp only [MSb, reduceCtorEq]
 refine (all_loop (p := okc) s (some (.bool false, σ)) ?_ ?_ ?_).trans ?_
 ·intro i c hi hc
  have h1 : inI ((i : Int) + 1) := by unfold okS mxl at hs; unfold inI; omega
  have h2 : (i : Int) < s.size := by omega
  simp only [MSb, reduceCtorEq, h2, hc, wrap64 h1, okc]
  clear hc h1
  repeat' ((first | rw [gDp] | rw [gDb] | rw [cDp] | rw [cDnp] | rw [cDn] | rw [cDb]); split <;> try simp only [MSb, reduceCtorEq, *])
  all_goals first | rfl | (refine (if_pos ?_).symm; simp; omega) | (refine (if_neg ?_).symm; simp; omega) | (refine congrArg some (congrArg (fun b => (AV.bool b, σ)) ?_); rw [Bool.eq_iff_iff]; simp; omega)
 ·simp only [MSb, reduceCtorEq, Int.lt_irrefl]
 ·intro i; simp only [MSb, reduceCtorEq]
 ·simp only [MSb, reduceCtorEq, isEmpty_ne, rowB]
  cases s.data.toList.all okc <;> simp
theorem IsWord1_eq (s : ByteArray) (hs : okS s) (σ : Heap) : m_R1_IsWord [.str s] σ = some (.bool (rowB s), σ) := by
 refine wrap_eq rfl ?_ rfl
 show r_R1_IsWord _ σ = _
 unfold r_R1_IsWord
 simp only [MSb, reduceCtorEq]
 refine (all_loop (p := okc) s (some (.bool false, σ)) ?_ ?_ ?_).trans ?_
 ·intro i c hi hc
  have h1 : inI ((i : Int) + 1) := by unfold okS mxl at hs; unfold inI; omega
  have h2 : (i : Int) < s.size := by omega
  simp only [MSb, reduceCtorEq, h2, hc, wrap64 h1, okc]
  clear hc h1
  repeat' ((first | rw [gDp] | rw [gDb] | rw [cDp] | rw [cDnp] | rw [cDn] | rw [cDb]); split <;> try simp only [MSb, reduceCtorEq, *])
  all_goals first | rfl | (refine (if_pos ?_).symm; simp; omega) | (refine (if_neg ?_).symm; simp; omega) | (refine congrArg some (congrArg (fun b => (AV.bool b, σ)) ?_); rw [Bool.eq_iff_iff]; simp; omega)
 ·simp only [MSb, reduceCtorEq, Int.lt_irrefl]
 ·intro i; simp only [MSb, reduceCtorEq]
 ·simp only [MSb, reduceCtorEq, isEmpty_ne, rowB]
  cases s.data.toList.all okc <;> simp
theorem rowB_pos {s : ByteArray} (h : rowB s = true) : 0 < s.size := by
 simp only [rowB, Bool.and_eq_true, decide_eq_true_eq] at h; exact h.2
theorem Name_eq (s : ByteArray) (hs : okS s) (σ : Heap) : m_word_Name [.str s] σ = some (.bool (nameB s), σ) := by
 refine wrap_eq rfl ?_ rfl
 show r_word_Name _ σ = _
 unfold r_word_Name
 simp only [MSb, reduceCtorEq, Row_eq s hs]
 cases h : rowB s
 ·simp [MSb, reduceCtorEq, nameB, h]
 ·have h0 := rowB_pos h
  have := sidx_eq s h0
  simp only [Int.ofNat_zero] at this
  simp only [MSb, reduceCtorEq, this]
  simp only [nameB, h, Bool.true_and]
  generalize s.data.toList.getD 0 0 = c0 at *
  repeat' ((first | rw [gDp] | rw [gDb] | rw [cDp] | rw [cDnp] | rw [cDn] | rw [cDb]); split <;> try simp only [MSb, reduceCtorEq, *])
  all_goals first | rfl | (refine (if_pos ?_).symm; simp; omega) | (refine (if_neg ?_).symm; simp; omega) | (refine congrArg some (congrArg (fun b => (AV.bool b, σ)) ?_); rw [Bool.eq_iff_iff]; simp; omega)
theorem IsName1_eq (s : ByteArray) (hs : okS s) (σ : Heap) : m_R1_IsName [.str s] σ = some (.bool (nameB s), σ) := by
 refine wrap_eq rfl ?_ rfl
 show r_R1_IsName _ σ = _
 unfold r_R1_IsName
 simp only [MSb, reduceCtorEq, IsWord1_eq s hs]
 cases h : rowB s
 ·simp [MSb, reduceCtorEq, nameB, h]
 ·have h0 := rowB_pos h
  have := sidx_eq s h0
  simp only [Int.ofNat_zero] at this
  simp only [MSb, reduceCtorEq, this]
  simp only [nameB, h, Bool.true_and]
  generalize s.data.toList.getD 0 0 = c0 at *
  repeat' ((first | rw [gDp] | rw [gDb] | rw [cDp] | rw [cDnp] | rw [cDn] | rw [cDb]); split <;> try simp only [MSb, reduceCtorEq, *])
  all_goals first | rfl | (refine (if_pos ?_).symm; simp; omega) | (refine (if_neg ?_).symm; simp; omega) | (refine congrArg some (congrArg (fun b => (AV.bool b, σ)) ?_); rw [Bool.eq_iff_iff]; simp; omega)
theorem Title_eq (s : ByteArray) (hs : okS s) (σ : Heap) : m_word_Title [.str s] σ = some (.bool (titleB s), σ) := by
 refine wrap_eq rfl ?_ rfl
 show r_word_Title _ σ = _
 unfold r_word_Title
 simp only [MSb, reduceCtorEq]
 refine (all_loop (p := pc) s (some (.bool false, σ)) ?_ ?_ ?_).trans ?_
 ·intro i c hi hc
  have h1 : inI ((i : Int) + 1) := by unfold okS mxl at hs; unfold inI; omega
  have h2 : (i : Int) < s.size := by omega
  simp only [MSb, reduceCtorEq, h2, hc, wrap64 h1, pc]
  clear h1
  repeat' ((first | rw [gDp] | rw [gDb] | rw [cDp] | rw [cDnp] | rw [cDn] | rw [cDb]); split <;> try simp only [MSb, reduceCtorEq, *])
  all_goals first | rfl | (refine (if_pos ?_).symm; simp; omega) | (refine (if_neg ?_).symm; simp; omega) | (refine congrArg some (congrArg (fun b => (AV.bool b, σ)) ?_); rw [Bool.eq_iff_iff]; simp; omega)
 ·simp only [MSb, reduceCtorEq, Int.lt_irrefl]
 ·intro i; simp only [MSb, reduceCtorEq]
 ·simp only [MSb, reduceCtorEq, isEmpty_ne, titleB]
  cases s.data.toList.all pc
  ·simp
  ·simp only [if_true, Bool.true_and]
   by_cases h0 : 0 < s.size
   ·by_cases h60 : s.size ≤ 60
    ·have e0 := sidx_eq s h0
     have e1 := sidx_eq s (i := s.size - 1) (by omega)
     simp only [Int.ofNat_zero] at e0
     rw [show ((s.size - 1 : Nat) : Int) = (s.size : Int) - 1 by omega] at e1
     have h1 : inI ((s.size : Int) - 1) := by unfold okS mxl at hs; unfold inI; omega
     have h60' : (s.size : Int) ≤ 60 := by omega
     have hw := wrap64 h1
     simp only [edgeB, h0, h60]
     generalize s.data.toList.getD 0 0 = c0 at *
     generalize s.data.toList.getD (s.size - 1) 0 = c1 at *
     simp only [MSb, reduceCtorEq, h0, h60', e0, e1, hw]
     repeat' ((first | rw [gDp] | rw [gDb] | rw [cDp] | rw [cDnp] | rw [cDn] | rw [cDb]); split <;> try simp only [MSb, reduceCtorEq, *])
     all_goals first | rfl | (refine (if_pos ?_).symm; simp; omega) | (refine (if_neg ?_).symm; simp; omega) | (refine congrArg some (congrArg (fun b => (AV.bool b, σ)) ?_); rw [Bool.eq_iff_iff]; simp; omega)
    ·have h60' : ¬ (s.size : Int) ≤ 60 := by omega
     simp [MSb, reduceCtorEq, h0, h60', edgeB, h60]
   ·simp [MSb, reduceCtorEq, h0, edgeB]
theorem IsTitle1_eq (s : ByteArray) (hs : okS s) (σ : Heap) : m_R1_IsTitle [.str s] σ = some (.bool (titleB s), σ) := by
 refine wrap_eq rfl ?_ rfl
 show r_R1_IsTitle _ σ = _
 have e : (s = ⟨#[]⟩) ↔ ¬ 0 < s.size := by
  have := isEmpty_ne s
  rw [decide_eq_decide] at this
  rw [← this]; simp
 have tail : titleB s = (edgeB s && s.data.toList.all pc) := by unfold titleB; exact Bool.and_comm _ _
 unfold r_R1_IsTitle
 simp only [MSb, reduceCtorEq, e]
 by_cases h0 : 0 < s.size
 ·by_cases h60 : s.size ≤ 60
  ·have e0 := sidx_eq s h0
   have e1 := sidx_eq s (i := s.size - 1) (by omega)
   simp only [Int.ofNat_zero] at e0
   rw [show ((s.size - 1 : Nat) : Int) = (s.size : Int) - 1 by omega] at e1
   have h1 : inI ((s.size : Int) - 1) := by unfold okS mxl at hs; unfold inI; omega
   have h60' : ¬ (60 : Int) < (s.size : Int) := by omega
   have hw := wrap64 h1
   have hedge : edgeB s = (decide (¬ (s.data.toList.getD 0 0).toNat = 32) && decide (¬ (s.data.toList.getD (s.size - 1) 0).toNat = 32)) := by simp [edgeB, h0, h60]
   rw [tail, hedge]
   clear tail hedge
   generalize s.data.toList.getD 0 0 = c0 at *
   generalize s.data.toList.getD (s.size - 1) 0 = c1 at *
   by_cases k0 : c0.toNat = 32
   ·have k0' : (c0.toNat : Int) = 32 := by omega
    simp [MSb, reduceCtorEq, h0, h60', e0, k0', k0]
   ·have k0' : ¬ (c0.toNat : Int) = 32 := by omega
    by_cases k1 : c1.toNat = 32
    ·have k1' : (c1.toNat : Int) = 32 := by omega
     simp [MSb, reduceCtorEq, h0, h60', e0, k0', hw, e1, k1', k1]
    ·have k1' : ¬ (c1.toNat : Int) = 32 := by omega
     simp only [MSb, reduceCtorEq, h0, h60', e0, k0', hw, e1, k1', k0, k1]
     refine (all_loop (p := pc) s (some (.bool false, σ)) ?_ ?_ ?_).trans ?_
     ·intro i c hi hc
      have h1 : inI ((i : Int) + 1) := by unfold okS mxl at hs; unfold inI; omega
      have h2 : (i : Int) < s.size := by omega
      simp only [MSb, reduceCtorEq, h2, hc, wrap64 h1, pc]
      clear h1
      repeat' ((first | rw [gDp] | rw [gDb] | rw [cDp] | rw [cDnp] | rw [cDn] | rw [cDb]); split <;> try simp only [MSb, reduceCtorEq, *])
      all_goals first | rfl | (refine (if_pos ?_).symm; simp; omega) | (refine (if_neg ?_).symm; simp; omega) | (refine congrArg some (congrArg (fun b => (AV.bool b, σ)) ?_); rw [Bool.eq_iff_iff]; simp; omega)
     ·simp only [MSb, reduceCtorEq, Int.lt_irrefl]
     ·intro i; simp only [MSb, reduceCtorEq]
     ·simp only [MSb, reduceCtorEq]
      cases s.data.toList.all pc <;> simp
  ·have h60' : (60 : Int) < (s.size : Int) := by omega
   simp [MSb, reduceCtorEq, h0, h60', tail, edgeB, h60]
 ·simp [MSb, reduceCtorEq, h0, tail, edgeB]
end Go.Proofs.Ytohbeolimnpehaa

/- Package level and its reference: curves. -/
namespace Go.Proofs.Ytohbeolimnpehaa
set_option linter.unusedSectionVars false
set_option linter.unusedVariables false
set_option linter.unusedSimpArgs false
theorem IsTime1_eq (n : Int) (σ : Heap) : m_R1_IsTime [.int .i64 n] σ = some (.bool (withinB n 0 36000000), σ) := by
 refine wrap_eq rfl ?_ rfl
 show r_R1_IsTime (.int .i64 n) σ = _
 unfold r_R1_IsTime
 simp only [MSb, reduceCtorEq, Within1_eq]
/-- A loop over numbers that looks for one. -/
theorem loop_anyN {γ : Type} {f : List AV → Heap → Option (AX × List AV × Heap)} (a n : Nat) (p : Nat → Bool) (vs : Nat → List AV) (σ : Heap) (fin : AX × List AV × Heap) (ret : Nat → AX × List AV × Heap) {k : AX × List AV × Heap → Option γ} (K1 K2 : Option γ)
  (hstep : ∀ (i : Nat), a ≤ i → i < a + n → f (vs i) σ = if p i = true then some (ret i) else some (.normal, vs (i + 1), σ)) (hend : f (vs (a + n)) σ = some fin) (hk1 : k fin = K1) (hk2 : ∀ i, k (ret i) = K2)
  (hfin : fin.1 ≠ .normal := by simp) (hret : ∀ i, (ret i).1 ≠ .normal := by intros; simp) {v : List AV} {σ' : Heap} (hv : v = vs a := by rfl) (hσ : σ' = σ := by rfl) :
  (A.loop f v σ').bind k = if (List.range' a n).any p = true then K2 else K1 := by
 refine loop_any (List.range' a n) p (fun i => vs (a + i)) σ fin (fun i => ret (a + i)) K1 K2 ?_ (by rw [List.length_range']; exact hend) hk1 (fun i => hk2 _) hfin (fun i => hret _) hv hσ
 intro i x hx
 obtain ⟨h1, h2⟩ := List.getElem?_eq_some_iff.1 hx
 rw [List.length_range'] at h1
 obtain rfl : a + i = x := by simpa [List.getElem_range'] using h2
 exact hstep (a + i) (by omega) (by omega)
def zPoint : PointD := ⟨0, 0⟩
def badP (p : PointD) : Bool := !(withinB p.time 0 1000) || !(withinB p.way 0 1000)
def ordP (l : List PointD) (i : Nat) : Bool := decide ((l.getD i zPoint).time ≤ (l.getD (i - 1) zPoint).time ∨ (l.getD i zPoint).way < (l.getD (i - 1) zPoint).way)
def ptsF (l : List PointD) : Int :=
 if l.any badP = true then 1
 else if ¬ ((l.getD 0 zPoint).time = 0 ∧ (l.getD 0 zPoint).way = 0) then 3
 else if ¬ ((l.getD (l.length - 1) zPoint).time = 1000 ∧ (l.getD (l.length - 1) zPoint).way = 1000) then 3
 else if (List.range' 1 (l.length - 1)).any (ordP l) = true then 7 else 0
/-- The fault of a curve. -/
def curveF (c : CurveD) : Int :=
 if withinB c.kind 1 6 = false then 4
 else if c.kind = 6 then (if c.points.length < 2 then 8 else if 20 < c.points.length then 2 else ptsF c.points)
 else if 0 < c.points.length then 3 else 0
theorem ne_point (x : PointD) (a b : Int) : A.neq (.s [0, 0]) (.agg (cPoint x)) (.agg [.int .i64 a, .int .i64 b]) = some (.bool (decide (¬ (x.time = a ∧ x.way = b)))) := by
 simp only [A.neq, A.eqK, cPoint, A.eqAll, A.eqC, A.eqI, if_true, Option.bind_some, Option.map_some]
 congr 2
 rw [Bool.eq_iff_iff]
 simp
theorem spl20 (a b c : AV) : A.splice 0 [a] [b, c] = some [a, c] := rfl
theorem spl21 (a b c : AV) : A.splice 1 [a] [b, c] = some [b, a] := rfl
theorem getD_at {l : List PointD} {i : Nat} (h : i < l.length) : l[i]? = some (l.getD i zPoint) := by simp [h]
theorem CheckCurve1_eq (c : CurveD) (σ : Heap) : m_R1_CheckCurve [.agg (cCurve c)] σ = some (.int .i64 (curveF c), σ) := by
 refine wrap_eq rfl ?_ rfl
 show r_R1_CheckCurve (.agg (cCurve c)) σ = _
 unfold r_R1_CheckCurve curveF
 simp only [MSb, reduceCtorEq, p1_cCurve_0, p1_cCurve_1, pA_cCurve, ce_cCurve, sp_cCurve, Within1_eq]
 cases hk : withinB c.kind 1 6
 ·simp only [MSb, reduceCtorEq]
 by_cases h6 : c.kind = 6
 case neg =>
  by_cases h0 : 0 < c.points.length
  ·simp only [MSb, reduceCtorEq, p1_cCurve_0, p1_cCurve_1, pA_cCurve, ce_cCurve, sp_cCurve, h6, h0, show (0 : Int) < c.points.length by omega]
  ·simp only [MSb, reduceCtorEq, p1_cCurve_0, p1_cCurve_1, pA_cCurve, ce_cCurve, sp_cCurve, h6, h0, show ¬ (0 : Int) < c.points.length by omega]
 by_cases h2 : c.points.length < 2
 ·simp only [MSb, reduceCtorEq, p1_cCurve_0, p1_cCurve_1, pA_cCurve, ce_cCurve, sp_cCurve, h6, h2, show (c.points.length : Int) < 2 by omega]
 by_cases h20 : 20 < c.points.length
 ·simp only [MSb, reduceCtorEq, p1_cCurve_0, p1_cCurve_1, pA_cCurve, ce_cCurve, sp_cCurve, h6, h2, h20, show ¬ (c.points.length : Int) < 2 by omega, show (20 : Int) < c.points.length by omega]
 simp only [MSb, reduceCtorEq, p1_cCurve_0, p1_cCurve_1, pA_cCurve, ce_cCurve, sp_cCurve, h6, h2, h20, show ¬ (c.points.length : Int) < 2 by omega, show ¬ (20 : Int) < c.points.length by omega]
 have hmx : c.points.length ≤ mxl := by unfold mxl; omega
 refine (loop_any c.points badP (fun i => [.lbx (cCurve c), .int .i64 0, .int .i64 (i : Int)]) σ (.exit 1, [.lbx (cCurve c), .int .i64 0, .int .i64 (c.points.length : Int)], σ) (fun i => (.ret, [.lbx (cCurve c), .int .i64 1, .int .i64 (i : Int)], σ))
  (some (.int .i64 (if ¬ ((c.points.getD 0 zPoint).time = 0 ∧ (c.points.getD 0 zPoint).way = 0) then 3
 else if ¬ ((c.points.getD (c.points.length - 1) zPoint).time = 1000 ∧ (c.points.getD (c.points.length - 1) zPoint).way = 1000) then 3
 else if (List.range' 1 (c.points.length - 1)).any (ordP c.points) = true then 7 else 0), σ)) (some (.int .i64 1, σ)) ?_ ?_ ?_ ?_).trans ?_
 ·intro i x hx
  obtain ⟨g1, g2, g3⟩ := iaddr_at 2 cPoint hx
  have g3 := g3 hmx
  simp only [MSb, reduceCtorEq, p1_cPoint_0, p1_cPoint_1, pA_cPoint, ce_cPoint, sp_cPoint, g1, g2, g3, Within1_eq, badP]
  rcases Bool.eq_false_or_eq_true (withinB x.time 0 1000) with e | e
  ·rcases Bool.eq_false_or_eq_true (withinB x.way 0 1000) with e' | e' <;> simp only [MSb, reduceCtorEq, Within1_eq, e, e', Bool.false_or, Bool.or_false]
  ·simp only [MSb, reduceCtorEq, e, Bool.true_or]
 ·exact hend_lss _ _ _
 ·have g0 := iaddr_sl 2 cPoint c.points (getD_at (l := c.points) (i := 0) (by omega))
  have gl := iaddr_pred 2 cPoint c.points (k := c.points.length) (by omega) (getD_at (by omega))
  have hw : IntKind.i64.wrap ((c.points.length : Int) - 1) = (c.points.length : Int) - 1 := wrap64 (by unfold inI; omega)
  simp only [Int.ofNat_zero, Int.natCast_zero] at g0
  simp only [MSb, reduceCtorEq, p1_cCurve_0, p1_cCurve_1, pA_cCurve, ce_cCurve, sp_cCurve, p1_cPoint_0, p1_cPoint_1, pA_cPoint, ce_cPoint, sp_cPoint, g0, ne_point]
  by_cases e1 : (c.points.getD 0 zPoint).time = 0 ∧ (c.points.getD 0 zPoint).way = 0
  case neg => simp only [MSb, reduceCtorEq, e1]
  simp only [MSb, reduceCtorEq, p1_cCurve_0, p1_cCurve_1, pA_cCurve, ce_cCurve, sp_cCurve, e1, hw, gl, p1_cPoint_0, p1_cPoint_1, pA_cPoint, ce_cPoint, sp_cPoint]
  by_cases e2 : (c.points.getD (c.points.length - 1) zPoint).time = 1000 ∧ (c.points.getD (c.points.length - 1) zPoint).way = 1000
  case neg =>
   simp only [spl20, spl21, MSb, reduceCtorEq, ne_point, e2]
  simp only [spl20, spl21, MSb, reduceCtorEq, ne_point, e2]
  refine (loop_anyN 1 (c.points.length - 1) (ordP c.points) (fun i => [.lbx (cCurve c), .int .i64 0, .int .i64 (i : Int)]) σ (.exit 3, [.lbx (cCurve c), .int .i64 0, .int .i64 (c.points.length : Int)], σ) (fun i => (.ret, [.lbx (cCurve c), .int .i64 7, .int .i64 (i : Int)], σ)) (some (AV.int .i64 0, σ)) (some (AV.int .i64 7, σ)) ?_ ?_ ?_ ?_).trans ?_
  ·intro i hi1 hi2
   have k1 := iaddr_sl 2 cPoint c.points (getD_at (l := c.points) (i := i) (by omega))
   have k2 := iaddr_pred 2 cPoint c.points (k := i) (by omega) (getD_at (by omega))
   have k3 : IntKind.i64.wrap ((i : Int) - 1) = (i : Int) - 1 := wrap64 (by unfold inI; omega)
   have k4 : IntKind.i64.wrap ((i : Int) + 1) = ((i + 1 : Nat) : Int) := by rw [wrap64 (by unfold inI; omega)]; omega
   have k5 : (i : Int) < c.points.length := by omega
   simp only [MSb, reduceCtorEq, p1_cCurve_0, p1_cCurve_1, pA_cCurve, ce_cCurve, sp_cCurve, p1_cPoint_0, p1_cPoint_1, pA_cPoint, ce_cPoint, sp_cPoint, k1, k2, k3, k5, ordP]
   by_cases q1 : (c.points.getD i zPoint).time ≤ (c.points.getD (i - 1) zPoint).time
   ·simp only [MSb, reduceCtorEq, q1]
   ·by_cases q2 : (c.points.getD i zPoint).way < (c.points.getD (i - 1) zPoint).way <;> simp only [MSb, reduceCtorEq, p1_cCurve_0, p1_cCurve_1, pA_cCurve, ce_cCurve, sp_cCurve, p1_cPoint_0, p1_cPoint_1, pA_cPoint, ce_cPoint, sp_cPoint, k1, k2, k3, k4, q1, q2]
  ·rw [show 1 + (c.points.length - 1) = c.points.length by omega]
   simp only [MSb, reduceCtorEq, p1_cCurve_0, p1_cCurve_1, pA_cCurve, ce_cCurve, sp_cCurve, Int.lt_irrefl]
  ·simp only [MSb, reduceCtorEq]
  ·intro i; simp only [MSb, reduceCtorEq]
  ·cases (List.range' 1 (c.points.length - 1)).any (ordP c.points) <;> rfl
 ·intro i; simp only [MSb, reduceCtorEq]
 ·unfold ptsF
  cases c.points.any badP <;> rfl
end Go.Proofs.Ytohbeolimnpehaa

/- Package level: curves. -/
namespace Go.Proofs.Ytohbeolimnpehaa
set_option linter.unusedSectionVars false
set_option linter.unusedVariables false
set_option linter.unusedSimpArgs false
theorem CheckCurve_eq (c : CurveD) (σ : Heap) : m_level_CheckCurve [.agg (cCurve c)] σ = some (.int .i64 (curveF c), σ) := by
 refine wrap_eq rfl ?_ rfl
 show r_level_CheckCurve (.agg (cCurve c)) σ = _
 unfold r_level_CheckCurve curveF
 simp only [MSb, reduceCtorEq, p1_cCurve_0, p1_cCurve_1, pA_cCurve, ce_cCurve, sp_cCurve, Within_eq]
 cases hk : withinB c.kind 1 6
 ·simp only [MSb, reduceCtorEq]
 by_cases h6 : c.kind = 6
 case neg =>
  by_cases h0 : 0 < c.points.length
  ·simp only [MSb, reduceCtorEq, p1_cCurve_0, p1_cCurve_1, pA_cCurve, ce_cCurve, sp_cCurve, h6, h0, When_eq, show (0 : Int) < c.points.length by omega]
  ·simp only [MSb, reduceCtorEq, p1_cCurve_0, p1_cCurve_1, pA_cCurve, ce_cCurve, sp_cCurve, h6, h0, When_eq, show ¬ (0 : Int) < c.points.length by omega]
 by_cases h2 : c.points.length < 2
 ·simp only [MSb, reduceCtorEq, p1_cCurve_0, p1_cCurve_1, pA_cCurve, ce_cCurve, sp_cCurve, h6, h2, show (c.points.length : Int) < 2 by omega]
 by_cases h20 : 20 < c.points.length
 ·simp only [MSb, reduceCtorEq, p1_cCurve_0, p1_cCurve_1, pA_cCurve, ce_cCurve, sp_cCurve, h6, h2, h20, show ¬ (c.points.length : Int) < 2 by omega, show (20 : Int) < c.points.length by omega]
 simp only [MSb, reduceCtorEq, p1_cCurve_0, p1_cCurve_1, pA_cCurve, ce_cCurve, sp_cCurve, h6, h2, h20, show ¬ (c.points.length : Int) < 2 by omega, show ¬ (20 : Int) < c.points.length by omega]
 have hmx : c.points.length ≤ mxl := by unfold mxl; omega
 refine (loop_any c.points badP (fun i => [.int .i64 0, .int .i64 (i : Int)]) σ (.exit 0, [.int .i64 0, .int .i64 (c.points.length : Int)], σ) (fun i => (.ret, [.int .i64 1, .int .i64 (i : Int)], σ))
  (some (.int .i64 (if ¬ ((c.points.getD 0 zPoint).time = 0 ∧ (c.points.getD 0 zPoint).way = 0) then 3
 else if ¬ ((c.points.getD (c.points.length - 1) zPoint).time = 1000 ∧ (c.points.getD (c.points.length - 1) zPoint).way = 1000) then 3
 else if (List.range' 1 (c.points.length - 1)).any (ordP c.points) = true then 7 else 0), σ)) (some (.int .i64 1, σ)) ?_ ?_ ?_ ?_).trans ?_
 ·intro i x hx
  obtain ⟨g1, g2, g3⟩ := iaddr_at 2 cPoint hx
  have g3 := g3 hmx
  simp only [MSb, reduceCtorEq, p1_cPoint_0, p1_cPoint_1, pA_cPoint, ce_cPoint, sp_cPoint, g1, g2, g3, Within_eq, badP]
  rcases Bool.eq_false_or_eq_true (withinB x.time 0 1000) with e | e
  ·rcases Bool.eq_false_or_eq_true (withinB x.way 0 1000) with e' | e' <;> simp only [MSb, reduceCtorEq, Within_eq, e, e', Bool.false_or, Bool.or_false]
  ·simp only [MSb, reduceCtorEq, e, Bool.true_or]
 ·exact hend_lss _ _ _
 ·have g0 := iaddr_sl 2 cPoint c.points (getD_at (l := c.points) (i := 0) (by omega))
  have gl := iaddr_pred 2 cPoint c.points (k := c.points.length) (by omega) (getD_at (by omega))
  have hw : IntKind.i64.wrap ((c.points.length : Int) - 1) = (c.points.length : Int) - 1 := wrap64 (by unfold inI; omega)
  simp only [Int.ofNat_zero, Int.natCast_zero] at g0
  simp only [MSb, reduceCtorEq, p1_cCurve_0, p1_cCurve_1, pA_cCurve, ce_cCurve, sp_cCurve, p1_cPoint_0, p1_cPoint_1, pA_cPoint, ce_cPoint, sp_cPoint, g0, ne_point]
  by_cases e1 : (c.points.getD 0 zPoint).time = 0 ∧ (c.points.getD 0 zPoint).way = 0
  case neg => simp only [MSb, reduceCtorEq, e1]
  simp only [MSb, reduceCtorEq, p1_cCurve_0, p1_cCurve_1, pA_cCurve, ce_cCurve, sp_cCurve, e1, hw, gl, p1_cPoint_0, p1_cPoint_1, pA_cPoint, ce_cPoint, sp_cPoint]
  by_cases e2 : (c.points.getD (c.points.length - 1) zPoint).time = 1000 ∧ (c.points.getD (c.points.length - 1) zPoint).way = 1000
  case neg =>
   simp only [spl20, spl21, MSb, reduceCtorEq, ne_point, e2]
  simp only [spl20, spl21, MSb, reduceCtorEq, ne_point, e2]
  refine (loop_anyN 1 (c.points.length - 1) (ordP c.points) (fun i => [.int .i64 0, .int .i64 (i : Int)]) σ (.exit 2, [.int .i64 0, .int .i64 (c.points.length : Int)], σ) (fun i => (.ret, [.int .i64 7, .int .i64 (i : Int)], σ)) (some (AV.int .i64 0, σ)) (some (AV.int .i64 7, σ)) ?_ ?_ ?_ ?_).trans ?_
  ·intro i hi1 hi2
   have k1 := iaddr_sl 2 cPoint c.points (getD_at (l := c.points) (i := i) (by omega))
   have k2 := iaddr_pred 2 cPoint c.points (k := i) (by omega) (getD_at (by omega))
   have k3 : IntKind.i64.wrap ((i : Int) - 1) = (i : Int) - 1 := wrap64 (by unfold inI; omega)
   have k4 : IntKind.i64.wrap ((i : Int) + 1) = ((i + 1 : Nat) : Int) := by rw [wrap64 (by unfold inI; omega)]; omega
   have k5 : (i : Int) < c.points.length := by omega
   simp only [MSb, reduceCtorEq, p1_cCurve_0, p1_cCurve_1, pA_cCurve, ce_cCurve, sp_cCurve, p1_cPoint_0, p1_cPoint_1, pA_cPoint, ce_cPoint, sp_cPoint, k1, k2, k3, k5, ordP]
   by_cases q1 : (c.points.getD i zPoint).time ≤ (c.points.getD (i - 1) zPoint).time
   ·simp only [MSb, reduceCtorEq, q1]
   ·by_cases q2 : (c.points.getD i zPoint).way < (c.points.getD (i - 1) zPoint).way <;> simp only [MSb, reduceCtorEq, p1_cCurve_0, p1_cCurve_1, pA_cCurve, ce_cCurve, sp_cCurve, p1_cPoint_0, p1_cPoint_1, pA_cPoint, ce_cPoint, sp_cPoint, k1, k2, k3, k4, q1, q2]
  ·rw [show 1 + (c.points.length - 1) = c.points.length by omega]
   simp only [MSb, reduceCtorEq, p1_cCurve_0, p1_cCurve_1, pA_cCurve, ce_cCurve, sp_cCurve, Int.lt_irrefl]
  ·simp only [MSb, reduceCtorEq]
  ·intro i; simp only [MSb, reduceCtorEq]
  ·cases (List.range' 1 (c.points.length - 1)).any (ordP c.points) <;> rfl
 ·intro i; simp only [MSb, reduceCtorEq]
 ·unfold ptsF
  cases c.points.any badP <;> rfl
end Go.Proofs.Ytohbeolimnpehaa

/- Package word: the first fault. -/
namespace Go.Proofs.Ytohbeolimnpehaa
set_option linter.unusedSectionVars false
set_option linter.unusedVariables false
set_option linter.unusedSimpArgs false
theorem First_eq (l : List Int) (hl : l.length ≤ mxl) (σ : Heap) : m_word_First [sl 1 cInt l] σ = some (.int .i64 ((l.find? fun n => decide (¬ n = 0)).getD 0), σ) := by
 refine wrap_eq rfl ?_ rfl
 show r_word_First (sl 1 cInt l) σ = _
 unfold r_word_First
 simp only [MSb, reduceCtorEq]
 refine (loop_find l (fun n => decide (¬ n = 0)) (fun i => [.int .i64 0, .int .i64 (i : Int)]) σ (.exit 0, [.int .i64 0, .int .i64 (l.length : Int)], σ) (fun i n => (.ret, [.int .i64 n, .int .i64 (i : Int)], σ)) (some (AV.int .i64 0, σ)) (fun n => some (AV.int .i64 n, σ)) ?_ ?_ ?_ ?_).trans ?_
 ·intro i x hx
  obtain ⟨g1, g2, g3⟩ := iaddr_at 1 cInt hx
  have g3 := g3 hl
  simp only [MSb, reduceCtorEq, g1, g2, g3]
  repeat' ((first | rw [gDp] | rw [gDb] | rw [cDp] | rw [cDnp] | rw [cDn] | rw [cDb]); split <;> try simp only [MSb, reduceCtorEq, *])
  all_goals first | with_reducible rfl | (simp [*]; done) | (simp_all; done) | (simp_all; omega) | rfl
 ·exact hend_lss _ _ _
 ·simp only [MSb, reduceCtorEq]
 ·intro i n; simp only [MSb, reduceCtorEq]
 ·cases l.find? (fun n => decide (¬ n = 0)) <;> rfl
end Go.Proofs.Ytohbeolimnpehaa

/- Package fixture: profiles. -/
namespace Go.Proofs.Ytohbeolimnpehaa
set_option linter.unusedSectionVars false
set_option linter.unusedVariables false
set_option linter.unusedSimpArgs false
theorem isLevelF_eq (n : Int) (σ : Heap) : m_fixture_isLevel [.int .i64 n] σ = some (.bool (withinB n 0 65535), σ) := by
 refine wrap_eq rfl ?_ rfl
 show r_fixture_isLevel _ σ = _
 unfold r_fixture_isLevel
 simp only [MSb, reduceCtorEq, Within_eq]
theorem checkRanges_eq (l : List RangeD) (hok : okL okRange l) (σ : Heap) : m_fixture_checkRanges [sl 3 cRange l] σ = some (.int .i64 (rangesF l), σ) := by
 refine wrap_eq rfl ?_ rfl
 show r_fixture_checkRanges (sl 3 cRange l) σ = _
 unfold r_fixture_checkRanges rangesF
 simp only [MSb, reduceCtorEq]
 by_cases h30 : 30 < l.length
 ·have h30' : (30 : Int) < l.length := by omega
  simp only [MSb, reduceCtorEq, h30, h30']
 ·have h30' : ¬ (30 : Int) < l.length := by omega
  simp only [MSb, reduceCtorEq, h30, h30']
  refine (loop_pre (S := Unit) (R := Int) l (fun pre x _ =>
    if withinB x.low 0 65535 = false ∨ withinB x.high 0 65535 = false ∨ x.high < x.low then .out 1
    else if 0 < pre.length ∧ x.low ≤ (pre.getLast?.map (·.high)).getD 0 then .out 7
    else if nameB x.name = false then .out 5
    else if memB x.name (pre.map (·.name)) = true then .out 6 else .go ())
   (fun pre _ => [.int .i64 0, .int .i64 (pre.length : Int)]) (fun pre _ => σ ++ [Blk.map (setZ (·.name) pre)])
   (fun _ => (.exit 0, [.int .i64 0, .int .i64 (l.length : Int)], σ ++ [Blk.map (setZ (·.name) l)])) (fun pre _ r => (.ret, [.int .i64 r, .int .i64 (pre.length : Int)], σ ++ [Blk.map (setZ (·.name) pre)]))
   (fun _ _ => True) () (fun _ => some (AV.int .i64 0, σ)) (fun r => some (AV.int .i64 r, σ)) ?_ ?_ trivial (fun _ _ _ _ _ _ _ _ => trivial) ?_ ?_).trans ?_
  ·intro pre x rest u hl _
   have hx := pre_get hl
   have hlt := pre_lt hl
   have hi1 : IntKind.i64.wrap ((pre.length : Int) + 1) = (pre.length : Int) + 1 := wrap64 (by unfold inI; omega)
   have hi2 : IntKind.i64.wrap ((pre.length : Int) - 1) = (pre.length : Int) - 1 := wrap64 (by unfold inI; omega)
   have hlt' : (pre.length : Int) < (l.length : Int) := by omega
   have hnm := (hok.2 x (by rw [hl]; simp)).2.2
   have hia := iaddr_sl 3 cRange l hx
   have hN := Name_eq _ hnm
   by_cases h0 : 0 < pre.length
   ·obtain ⟨y, hy, hy2⟩ := pre_last hl h0
    have hia2 := iaddr_pred 3 cRange l h0 hy2
    have h0' : (0 : Int) < pre.length := by omega
    clear hl hx hlt hok h30 h30' hy2 hnm
    simp only [MSb, reduceCtorEq, p1_cRange_0, p1_cRange_1, p1_cRange_2, pA_cRange, ce_cRange, sp_cRange, hlt', hia, isLevelF_eq, hi1, hi2, hN, h0', hy, h0]
    repeat' ((first | rw [gDp] | rw [gDb] | rw [cDp] | rw [cDnp] | rw [cDn] | rw [cDb]); split <;> try simp only [MSb, reduceCtorEq, p1_cRange_0, p1_cRange_1, p1_cRange_2, pA_cRange, ce_cRange, sp_cRange, isLevelF_eq, *])
    all_goals first | with_reducible rfl | (simp [*]; done) | (simp_all; done) | (simp_all; omega) | rfl
   ·have h0' : ¬ (0 : Int) < pre.length := by omega
    clear hl hx hlt hok h30 h30' hnm
    simp only [MSb, reduceCtorEq, p1_cRange_0, p1_cRange_1, p1_cRange_2, pA_cRange, ce_cRange, sp_cRange, hlt', hia, isLevelF_eq, hi1, hi2, hN, h0', h0]
    repeat' ((first | rw [gDp] | rw [gDb] | rw [cDp] | rw [cDnp] | rw [cDn] | rw [cDb]); split <;> try simp only [MSb, reduceCtorEq, p1_cRange_0, p1_cRange_1, p1_cRange_2, pA_cRange, ce_cRange, sp_cRange, isLevelF_eq, *])
    all_goals first | with_reducible rfl | (simp [*]; done) | (simp_all; done) | (simp_all; omega) | rfl
  ·intro u _
   simp only [MSb, reduceCtorEq, Int.lt_irrefl]
  ·intro u _; simp only [MSb, reduceCtorEq]
  ·intros; simp only [MSb, reduceCtorEq]
  ·refine (runP_fault (chk := chkR) ?_ ?_ (fun n => some (AV.int .i64 n, σ)) l []).trans ?_
   ·intro pre; rfl
   ·intro pre x rest; rw [chkR]; simp only [el_ite, el_out, el_go]
   ·rfl

theorem CheckProfile_eq (p : ProfileD) (hok : okProfile p) (σ : Heap) : m_fixture_CheckProfile [.agg (cProfile p)] σ = some (.int .i64 (profileF p), σ) := by
 refine wrap_eq rfl ?_ rfl
 show r_fixture_CheckProfile (.agg (cProfile p)) σ = _
 obtain ⟨pn, ps, l⟩ := p
 obtain ⟨hnm, hps, hokl⟩ := hok
 simp only at hnm hps hokl
 have hN := Name_eq _ hnm
 unfold r_fixture_CheckProfile profileF
 simp only [MSb, reduceCtorEq, p1_cProfile_0, p1_cProfile_1, p1_cProfile_2, pA_cProfile, ce_cProfile, sp_cProfile, hN, Within_eq]
 cases hn : nameB pn
 ·simp only [MSb, reduceCtorEq]
 cases hz : withinB ps 1 512
 ·simp only [MSb, reduceCtorEq]
 by_cases h0 : l.length = 0
 ·obtain rfl : l = [] := List.eq_nil_of_length_eq_zero h0
  simp [MSb, reduceCtorEq]
 have h0' : ¬ (l.length : Int) = 0 := by omega
 by_cases h40 : 40 < l.length
 ·have h40' : (40 : Int) < l.length := by omega
  simp only [MSb, reduceCtorEq, h0, h0', h40, h40']
 have h40' : ¬ (40 : Int) < l.length := by omega
 simp only [MSb, reduceCtorEq, h0, h0', h40, h40']
 refine (loop_pre (S := Unit) (R := Int) l (fun pre x _ =>
   if nameB x.name = false then .out 5
   else if memB x.name (pre.map (·.name)) = true then .out 6
   else if withinB x.group 1 4 = false then .out 4
   else if withinB x.att 1 ps = false ∨ withinB x.fine 0 ps = false ∨ withinB x.default 0 65535 = false then .out 1
   else if x.att = x.fine ∨ memB x.att (slotsOf pre) = true ∨ (0 < x.fine ∧ memB x.fine (slotsOf pre) = true) then .out 12
   else if rangesF x.ranges = 0 then .go () else .out (rangesF x.ranges))
  (fun pre _ => [.lbx (cProfile ⟨pn, ps, l⟩), .int .i64 0, .int .i64 (pre.length : Int)]) (fun pre _ => σ ++ [Blk.map (setZ (·.name) pre), Blk.map (setI id (slotsOf pre))])
  (fun _ => (.exit 1, [.lbx (cProfile ⟨pn, ps, l⟩), .int .i64 0, .int .i64 (l.length : Int)], σ ++ [Blk.map (setZ (·.name) l), Blk.map (setI id (slotsOf l))]))
  (fun pre _ r => (.ret, [.lbx (cProfile ⟨pn, ps, l⟩), .int .i64 r, .int .i64 (pre.length : Int)], σ ++ [Blk.map (setZ (·.name) pre), Blk.map (setI id (slotsOf pre))]))
  (fun _ _ => True) () (fun _ => some (AV.int .i64 0, σ)) (fun r => some (AV.int .i64 r, σ)) ?_ ?_ trivial (fun _ _ _ _ _ _ _ _ => trivial) ?_ ?_).trans ?_
 ·intro pre x rest u hl _
  have hx := pre_get hl; have hlt := pre_lt hl; have hi1 : IntKind.i64.wrap ((pre.length : Int) + 1) = (pre.length : Int) + 1 := wrap64 (by unfold inI; omega); have hi2 : IntKind.i64.wrap ((pre.length : Int) - 1) = (pre.length : Int) - 1 := wrap64 (by unfold inI; omega); have hlt' : (pre.length : Int) < (l.length : Int) := by omega
  obtain ⟨k1, k2, k3, k4, k5, k6⟩ := hokl.2 x (by rw [hl]; simp)
  have hNx := Name_eq _ k1
  have hRx := checkRanges_eq _ k6
  have hia := iaddr_sl 7 cParam l hx
  clear hl hx hlt hokl h40 h40' h0 h0' k1 k2 k3 k4 k5 k6 hnm hps hN hn hz
  simp only [MSb, reduceCtorEq, p1_cParam_0, p1_cParam_1, p1_cParam_2, p1_cParam_3, p1_cParam_4, p1_cParam_5, p1_cParam_6, pA_cParam, ce_cParam, sp_cParam, p1_cProfile_0, p1_cProfile_1, p1_cProfile_2, pA_cProfile, ce_cProfile, sp_cProfile, hlt', hia, Within_eq, isLevelF_eq, hi1, hi2, hNx, hRx, List.map_id]
  repeat' ((first | rw [gDp] | rw [gDb] | rw [cDp] | rw [cDnp] | rw [cDn] | rw [cDb]); split <;> try simp only [MSb, reduceCtorEq, p1_cParam_0, p1_cParam_1, p1_cParam_2, p1_cParam_3, p1_cParam_4, p1_cParam_5, p1_cParam_6, pA_cParam, ce_cParam, sp_cParam, p1_cProfile_0, p1_cProfile_1, p1_cProfile_2, pA_cProfile, ce_cProfile, sp_cProfile, Within_eq, isLevelF_eq, List.map_id, setI_fold, memB_snoc, Bool.or_false, *])
  all_goals first | rfl | (simp_all; done) | (simp_all [slotsOf_snoc, setI_fold]; done) | (simp only [slotsOf_snoc, ite_false, ite_true, if_false, if_true, *] <;> simp_all)
 ·intro u _
  simp only [MSb, reduceCtorEq, Int.lt_irrefl]
 ·intro u _; simp only [MSb, reduceCtorEq]
 ·intros; simp only [MSb, reduceCtorEq]
 ·refine (runP_fault (chk := chkP ps) ?_ ?_ (fun n => some (AV.int .i64 n, σ)) l []).trans ?_
  ·intro pre; rfl
  ·intro pre x rest; rw [chkP]; simp only [el_ite, el_out, el_go]
  ·rfl
theorem CheckLibrary_eq (l : List ProfileD) (hok : okL okProfile l) (σ : Heap) : m_fixture_CheckLibrary [sl 3 cProfile l] σ = some (.int .i64 (libF l), σ) := by
 refine wrap_eq rfl ?_ rfl
 show r_fixture_CheckLibrary (sl 3 cProfile l) σ = _
 unfold r_fixture_CheckLibrary libF
 simp only [MSb, reduceCtorEq]
 by_cases h60 : 60 < l.length
 ·have h60' : (60 : Int) < l.length := by omega
  simp only [MSb, reduceCtorEq, h60, h60']
 have h60' : ¬ (60 : Int) < l.length := by omega
 simp only [MSb, reduceCtorEq, h60, h60']
 refine (loop_pre (S := Unit) (R := Int) l (fun pre x _ => if profileF x = 0 then (if memB x.name (pre.map (·.name)) = true then .out 6 else .go ()) else .out (profileF x))
  (fun pre _ => [.int .i64 0, .int .i64 (pre.length : Int)]) (fun pre _ => σ ++ [Blk.map (setZ (·.name) pre)])
  (fun _ => (.exit 0, [.int .i64 0, .int .i64 (l.length : Int)], σ ++ [Blk.map (setZ (·.name) l)])) (fun pre _ r => (.ret, [.int .i64 r, .int .i64 (pre.length : Int)], σ ++ [Blk.map (setZ (·.name) pre)]))
  (fun _ _ => True) () (fun _ => some (AV.int .i64 0, σ)) (fun r => some (AV.int .i64 r, σ)) ?_ ?_ trivial (fun _ _ _ _ _ _ _ _ => trivial) ?_ ?_).trans ?_
 ·intro pre x rest u hl _
  have hx := pre_get hl; have hlt := pre_lt hl; have hi1 : IntKind.i64.wrap ((pre.length : Int) + 1) = (pre.length : Int) + 1 := wrap64 (by unfold inI; omega); have hi2 : IntKind.i64.wrap ((pre.length : Int) - 1) = (pre.length : Int) - 1 := wrap64 (by unfold inI; omega); have hlt' : (pre.length : Int) < (l.length : Int) := by omega
  have hP := CheckProfile_eq x (hok.2 x (by rw [hl]; simp))
  have hia := iaddr_sl 3 cProfile l hx
  clear hl hx hlt hok h60 h60'
  simp only [MSb, reduceCtorEq, p1_cProfile_0, p1_cProfile_1, p1_cProfile_2, pA_cProfile, ce_cProfile, sp_cProfile, hlt', hia, hi1, hP]
  repeat' ((first | rw [gDp] | rw [gDb] | rw [cDp] | rw [cDnp] | rw [cDn] | rw [cDb]); split <;> try simp only [MSb, reduceCtorEq, p1_cProfile_0, p1_cProfile_1, p1_cProfile_2, pA_cProfile, ce_cProfile, sp_cProfile, *])
  all_goals first | with_reducible rfl | (simp [*]; done) | (simp_all; done) | (simp_all; omega) | rfl
 ·intro u _
  simp only [MSb, reduceCtorEq, Int.lt_irrefl]
 ·intro u _; simp only [MSb, reduceCtorEq]
 ·intros; simp only [MSb, reduceCtorEq]
 ·refine (runP_fault (chk := chkL) ?_ ?_ (fun n => some (AV.int .i64 n, σ)) l []).trans ?_
  ·intro pre; rfl
  ·intro pre x rest; rw [chkL]; simp only [el_ite, el_out, el_go]
  ·rfl
end Go.Proofs.Ytohbeolimnpehaa

/- Instances of package slices, on slices that nobody writes. Written by a program. -/
namespace Go.Proofs.Ytohbeolimnpehaa
set_option linter.unusedSectionVars false
set_option linter.unusedVariables false
set_option linter.unusedSimpArgs false
theorem idxI_any {α : Type} (p : α → Bool) (l : List α) : decide (0 ≤ idxI p l) = l.any p := by
 rcases idxI_cases p l with ⟨h1, h2, _⟩ | ⟨k, x, h1, h2, h3, _⟩
 ·rw [h1, Bool.eq_iff_iff]
  simp only [decide_eq_true_eq, List.any_eq_true]
  exact ⟨fun h => by omega, fun ⟨x, hx, hp⟩ => by rw [h2 x hx] at hp; cases hp⟩
 ·rw [h3, Bool.eq_iff_iff]
  simp only [decide_eq_true_eq, List.any_eq_true]
  exact ⟨fun _ => ⟨x, List.mem_of_getElem? h1, h2⟩, fun _ => by omega⟩
theorem m_slices_Index_int_eq (l : List Int) (hl : l.length ≤ mxl) (k : Int) (σ : Heap) : m_slices_Index_int [sl 1 cInt l, .int .i64 k] σ = some (.int .i64 (idxI (fun x => decide (k = x)) l), σ) := by
 refine wrap_eq rfl ?_ rfl
 show r_slices_Index_int (sl 1 cInt l) (.int .i64 k) σ = _
 unfold r_slices_Index_int
 simp only [MSb, reduceCtorEq]
 refine (loop_pre (S := Unit) (R := Int) l (fun pre x _ => if (fun x => decide (k = x)) x = true then .out (pre.length : Int) else .go ())
  (fun pre _ => [.int .i64 0, .int .i64 (pre.length : Int)]) (fun _ _ => σ) (fun _ => (.exit 0, [.int .i64 0, .int .i64 (l.length : Int)], σ)) (fun pre _ r => (.ret, [.int .i64 (pre.length : Int), .int .i64 (pre.length : Int)], σ))
  (fun _ _ => True) () (fun _ => some (AV.int .i64 (-1), σ)) (fun r => some (AV.int .i64 r, σ)) ?_ ?_ trivial (fun _ _ _ _ _ _ _ _ => trivial) ?_ ?_).trans ?_
 ·intro pre x rest u hl' _
  have hx := pre_get hl'
  have hlt := pre_lt hl'
  have hi1 : IntKind.i64.wrap ((pre.length : Int) + 1) = (pre.length : Int) + 1 := wrap64 (by unfold inI; unfold mxl at hl; omega)
  have hlt' : (pre.length : Int) < (l.length : Int) := by omega
  have hia := iaddr_sl 1 cInt l hx
  simp only [MSb, reduceCtorEq, hlt', hia, hi1]
  by_cases hk : k = x <;> simp [MSb, reduceCtorEq, hk]
 ·intro u _; simp only [MSb, reduceCtorEq, Int.lt_irrefl]
 ·intro u _; simp only [MSb, reduceCtorEq]
 ·intro pre x rest s q hl' _ hb
  have : q = (pre.length : Int) := by
   by_cases hk : k = x
   ·simp [hk] at hb; exact hb.symm
   ·simp [hk] at hb
  simp only [MSb, reduceCtorEq, this]
 ·rw [idxI_run (fun x => decide (k = x)) _ _ l [] (by simp)]
  simp only [List.nil_append]
  split
  ·rename_i h; rw [h]
  ·rfl
theorem m_slices_Contains_int_eq (l : List Int) (hl : l.length ≤ mxl) (k : Int) (σ : Heap) : m_slices_Contains_int [sl 1 cInt l, .int .i64 k] σ = some (.bool (l.any fun x => decide (k = x)), σ) := by
 refine wrap_eq rfl ?_ rfl
 show r_slices_Contains_int (sl 1 cInt l) (.int .i64 k) σ = _
 unfold r_slices_Contains_int
 simp only [MSb, reduceCtorEq, m_slices_Index_int_eq l hl k σ]
 refine congrArg some (congrArg (fun b => (AV.bool b, σ)) ?_)
 exact idxI_any _ l
theorem m_slices_IndexFunc_api_Profile_eq (dyn : Nat → List AV → Heap → Option (AV × Heap)) (l : List ProfileD) (hl : l.length ≤ mxl) (n : Nat) (caps : List AV) (p : ProfileD → Bool) (σ : Heap) (hd : ∀ x ∈ l, dyn n ((.agg (cProfile x) : AV) :: caps) σ = some (.bool (p x), σ)) : m_slices_IndexFunc_api_Profile dyn [sl 3 cProfile l, .fn n caps] σ = some (.int .i64 (idxI p l), σ) := by
 refine wrap_eq rfl ?_ rfl
 show r_slices_IndexFunc_api_Profile dyn (sl 3 cProfile l) (.fn n caps) σ = _
 unfold r_slices_IndexFunc_api_Profile
 simp only [MSb, reduceCtorEq]
 refine (loop_pre (S := Unit) (R := Int) l (fun pre x _ => if p x = true then .out (pre.length : Int) else .go ())
  (fun pre _ => [.int .i64 0, .int .i64 (pre.length : Int)]) (fun _ _ => σ) (fun _ => (.exit 0, [.int .i64 0, .int .i64 (l.length : Int)], σ)) (fun pre _ r => (.ret, [.int .i64 (pre.length : Int), .int .i64 (pre.length : Int)], σ))
  (fun _ _ => True) () (fun _ => some (AV.int .i64 (-1), σ)) (fun r => some (AV.int .i64 r, σ)) ?_ ?_ trivial (fun _ _ _ _ _ _ _ _ => trivial) ?_ ?_).trans ?_
 ·intro pre x rest u hl' _
  have hx := pre_get hl'
  have hlt := pre_lt hl'
  have hi1 : IntKind.i64.wrap ((pre.length : Int) + 1) = (pre.length : Int) + 1 := wrap64 (by unfold inI; unfold mxl at hl; omega)
  have hlt' : (pre.length : Int) < (l.length : Int) := by omega
  have hia := iaddr_sl 3 cProfile l hx
  have hdx := hd x (by rw [hl']; simp)
  simp only [MSb, reduceCtorEq, p1_cProfile_0, p1_cProfile_1, p1_cProfile_2, pA_cProfile, ce_cProfile, sp_cProfile, hlt', hia, A.callv, List.cons_append, List.nil_append, hdx, hi1]
  cases p x <;> simp [MSb, reduceCtorEq]
 ·intro u _; simp only [MSb, reduceCtorEq, Int.lt_irrefl]
 ·intro u _; simp only [MSb, reduceCtorEq]
 ·intro pre x rest s q hl' _ hb
  have : q = (pre.length : Int) := by
   cases hpx : p x
   ·rw [hpx] at hb; cases hb
   ·rw [hpx] at hb; simp at hb; exact hb.symm
  simp only [MSb, reduceCtorEq, this]
 ·rw [idxI_run p _ _ l [] (by simp)]
  simp only [List.nil_append]
  split
  ·rename_i h; rw [h]
  ·rfl
theorem m_slices_IndexFunc_api_List_eq (dyn : Nat → List AV → Heap → Option (AV × Heap)) (l : List ListD) (hl : l.length ≤ mxl) (n : Nat) (caps : List AV) (p : ListD → Bool) (σ : Heap) (hd : ∀ x ∈ l, dyn n ((.agg (cList x) : AV) :: caps) σ = some (.bool (p x), σ)) : m_slices_IndexFunc_api_List dyn [sl 2 cList l, .fn n caps] σ = some (.int .i64 (idxI p l), σ) := by
 refine wrap_eq rfl ?_ rfl
 show r_slices_IndexFunc_api_List dyn (sl 2 cList l) (.fn n caps) σ = _
 unfold r_slices_IndexFunc_api_List
 simp only [MSb, reduceCtorEq]
 refine (loop_pre (S := Unit) (R := Int) l (fun pre x _ => if p x = true then .out (pre.length : Int) else .go ())
  (fun pre _ => [.int .i64 0, .int .i64 (pre.length : Int)]) (fun _ _ => σ) (fun _ => (.exit 0, [.int .i64 0, .int .i64 (l.length : Int)], σ)) (fun pre _ r => (.ret, [.int .i64 (pre.length : Int), .int .i64 (pre.length : Int)], σ))
  (fun _ _ => True) () (fun _ => some (AV.int .i64 (-1), σ)) (fun r => some (AV.int .i64 r, σ)) ?_ ?_ trivial (fun _ _ _ _ _ _ _ _ => trivial) ?_ ?_).trans ?_
 ·intro pre x rest u hl' _
  have hx := pre_get hl'
  have hlt := pre_lt hl'
  have hi1 : IntKind.i64.wrap ((pre.length : Int) + 1) = (pre.length : Int) + 1 := wrap64 (by unfold inI; unfold mxl at hl; omega)
  have hlt' : (pre.length : Int) < (l.length : Int) := by omega
  have hia := iaddr_sl 2 cList l hx
  have hdx := hd x (by rw [hl']; simp)
  simp only [MSb, reduceCtorEq, p1_cList_0, p1_cList_1, pA_cList, ce_cList, sp_cList, hlt', hia, A.callv, List.cons_append, List.nil_append, hdx, hi1]
  cases p x <;> simp [MSb, reduceCtorEq]
 ·intro u _; simp only [MSb, reduceCtorEq, Int.lt_irrefl]
 ·intro u _; simp only [MSb, reduceCtorEq]
 ·intro pre x rest s q hl' _ hb
  have : q = (pre.length : Int) := by
   cases hpx : p x
   ·rw [hpx] at hb; cases hb
   ·rw [hpx] at hb; simp at hb; exact hb.symm
  simp only [MSb, reduceCtorEq, this]
 ·rw [idxI_run p _ _ l [] (by simp)]
  simp only [List.nil_append]
  split
  ·rename_i h; rw [h]
  ·rfl
theorem m_slices_IndexFunc_api_Playback_eq (dyn : Nat → List AV → Heap → Option (AV × Heap)) (l : List PlaybackD) (hl : l.length ≤ mxl) (n : Nat) (caps : List AV) (p : PlaybackD → Bool) (σ : Heap) (hd : ∀ x ∈ l, dyn n ((.agg (cPlayback x) : AV) :: caps) σ = some (.bool (p x), σ)) : m_slices_IndexFunc_api_Playback dyn [sl 3 cPlayback l, .fn n caps] σ = some (.int .i64 (idxI p l), σ) := by
 refine wrap_eq rfl ?_ rfl
 show r_slices_IndexFunc_api_Playback dyn (sl 3 cPlayback l) (.fn n caps) σ = _
 unfold r_slices_IndexFunc_api_Playback
 simp only [MSb, reduceCtorEq]
 refine (loop_pre (S := Unit) (R := Int) l (fun pre x _ => if p x = true then .out (pre.length : Int) else .go ())
  (fun pre _ => [.int .i64 0, .int .i64 (pre.length : Int)]) (fun _ _ => σ) (fun _ => (.exit 0, [.int .i64 0, .int .i64 (l.length : Int)], σ)) (fun pre _ r => (.ret, [.int .i64 (pre.length : Int), .int .i64 (pre.length : Int)], σ))
  (fun _ _ => True) () (fun _ => some (AV.int .i64 (-1), σ)) (fun r => some (AV.int .i64 r, σ)) ?_ ?_ trivial (fun _ _ _ _ _ _ _ _ => trivial) ?_ ?_).trans ?_
 ·intro pre x rest u hl' _
  have hx := pre_get hl'
  have hlt := pre_lt hl'
  have hi1 : IntKind.i64.wrap ((pre.length : Int) + 1) = (pre.length : Int) + 1 := wrap64 (by unfold inI; unfold mxl at hl; omega)
  have hlt' : (pre.length : Int) < (l.length : Int) := by omega
  have hia := iaddr_sl 3 cPlayback l hx
  have hdx := hd x (by rw [hl']; simp)
  simp only [MSb, reduceCtorEq, p1_cPlayback_0, p1_cPlayback_1, p1_cPlayback_2, pA_cPlayback, ce_cPlayback, sp_cPlayback, hlt', hia, A.callv, List.cons_append, List.nil_append, hdx, hi1]
  cases p x <;> simp [MSb, reduceCtorEq]
 ·intro u _; simp only [MSb, reduceCtorEq, Int.lt_irrefl]
 ·intro u _; simp only [MSb, reduceCtorEq]
 ·intro pre x rest s q hl' _ hb
  have : q = (pre.length : Int) := by
   cases hpx : p x
   ·rw [hpx] at hb; cases hb
   ·rw [hpx] at hb; simp at hb; exact hb.symm
  simp only [MSb, reduceCtorEq, this]
 ·rw [idxI_run p _ _ l [] (by simp)]
  simp only [List.nil_append]
  split
  ·rename_i h; rw [h]
  ·rfl
theorem m_slices_ContainsFunc_api_Playback_eq (dyn : Nat → List AV → Heap → Option (AV × Heap)) (l : List PlaybackD) (hl : l.length ≤ mxl) (n : Nat) (caps : List AV) (p : PlaybackD → Bool) (σ : Heap) (hd : ∀ x ∈ l, dyn n ((.agg (cPlayback x) : AV) :: caps) σ = some (.bool (p x), σ)) : m_slices_ContainsFunc_api_Playback dyn [sl 3 cPlayback l, .fn n caps] σ = some (.bool (l.any p), σ) := by
 refine wrap_eq rfl ?_ rfl
 show r_slices_ContainsFunc_api_Playback dyn (sl 3 cPlayback l) (.fn n caps) σ = _
 unfold r_slices_ContainsFunc_api_Playback
 simp only [MSb, reduceCtorEq, m_slices_IndexFunc_api_Playback_eq dyn l hl n caps p σ hd]
 refine congrArg some (congrArg (fun b => (AV.bool b, σ)) ?_)
 exact idxI_any p l
theorem m_slices_IndexFunc_api_Cue_eq (dyn : Nat → List AV → Heap → Option (AV × Heap)) (l : List CueD) (hl : l.length ≤ mxl) (n : Nat) (caps : List AV) (p : CueD → Bool) (σ : Heap) (hd : ∀ x ∈ l, dyn n ((.agg (cCue x) : AV) :: caps) σ = some (.bool (p x), σ)) : m_slices_IndexFunc_api_Cue dyn [sl 11 cCue l, .fn n caps] σ = some (.int .i64 (idxI p l), σ) := by
 refine wrap_eq rfl ?_ rfl
 show r_slices_IndexFunc_api_Cue dyn (sl 11 cCue l) (.fn n caps) σ = _
 unfold r_slices_IndexFunc_api_Cue
 simp only [MSb, reduceCtorEq]
 refine (loop_pre (S := Unit) (R := Int) l (fun pre x _ => if p x = true then .out (pre.length : Int) else .go ())
  (fun pre _ => [.int .i64 0, .int .i64 (pre.length : Int)]) (fun _ _ => σ) (fun _ => (.exit 0, [.int .i64 0, .int .i64 (l.length : Int)], σ)) (fun pre _ r => (.ret, [.int .i64 (pre.length : Int), .int .i64 (pre.length : Int)], σ))
  (fun _ _ => True) () (fun _ => some (AV.int .i64 (-1), σ)) (fun r => some (AV.int .i64 r, σ)) ?_ ?_ trivial (fun _ _ _ _ _ _ _ _ => trivial) ?_ ?_).trans ?_
 ·intro pre x rest u hl' _
  have hx := pre_get hl'
  have hlt := pre_lt hl'
  have hi1 : IntKind.i64.wrap ((pre.length : Int) + 1) = (pre.length : Int) + 1 := wrap64 (by unfold inI; unfold mxl at hl; omega)
  have hlt' : (pre.length : Int) < (l.length : Int) := by omega
  have hia := iaddr_sl 11 cCue l hx
  have hdx := hd x (by rw [hl']; simp)
  simp only [MSb, reduceCtorEq, p1_cCue_0, p1_cCue_1, p1_cCue_2, p1_cCue_3, p1_cCue_4, p1_cCue_5, p1_cCue_6, p1_cCue_7, p1_cCue_8, p1_cCue_9, p1_cCue_10, pA_cCue_curve, pA_cCue, ce_cCue, sp_cCue, hlt', hia, A.callv, List.cons_append, List.nil_append, hdx, hi1]
  cases p x <;> simp [MSb, reduceCtorEq]
 ·intro u _; simp only [MSb, reduceCtorEq, Int.lt_irrefl]
 ·intro u _; simp only [MSb, reduceCtorEq]
 ·intro pre x rest s q hl' _ hb
  have : q = (pre.length : Int) := by
   cases hpx : p x
   ·rw [hpx] at hb; cases hb
   ·rw [hpx] at hb; simp at hb; exact hb.symm
  simp only [MSb, reduceCtorEq, this]
 ·rw [idxI_run p _ _ l [] (by simp)]
  simp only [List.nil_append]
  split
  ·rename_i h; rw [h]
  ·rfl
theorem m_slices_ContainsFunc_api_Cue_eq (dyn : Nat → List AV → Heap → Option (AV × Heap)) (l : List CueD) (hl : l.length ≤ mxl) (n : Nat) (caps : List AV) (p : CueD → Bool) (σ : Heap) (hd : ∀ x ∈ l, dyn n ((.agg (cCue x) : AV) :: caps) σ = some (.bool (p x), σ)) : m_slices_ContainsFunc_api_Cue dyn [sl 11 cCue l, .fn n caps] σ = some (.bool (l.any p), σ) := by
 refine wrap_eq rfl ?_ rfl
 show r_slices_ContainsFunc_api_Cue dyn (sl 11 cCue l) (.fn n caps) σ = _
 unfold r_slices_ContainsFunc_api_Cue
 simp only [MSb, reduceCtorEq, m_slices_IndexFunc_api_Cue_eq dyn l hl n caps p σ hd]
 refine congrArg some (congrArg (fun b => (AV.bool b, σ)) ?_)
 exact idxI_any p l
end Go.Proofs.Ytohbeolimnpehaa

/- Package fixture and its reference: the profile with a name. -/
namespace Go.Proofs.Ytohbeolimnpehaa
set_option linter.unusedSectionVars false
set_option linter.unusedVariables false
set_option linter.unusedSimpArgs false
theorem profOf_find (nm : ByteArray) : ∀ (l : List ProfileD), profOf nm l = match l.find? (fun x : ProfileD => decide (x.name = nm)) with | some p => (p, true) | none => (⟨⟨#[]⟩, 0, []⟩, false)
 | [] => rfl
 | p :: l => by
  rw [profOf]
  by_cases h : p.name = nm
  ·simp [h]
  ·simp [h, profOf_find nm l]
theorem profile_fn1_eq (x : ProfileD) (nm : ByteArray) (σ : Heap) : m_fixture_profile_fn1 [.agg (cProfile x), .rp [.str nm]] σ = some (.bool (decide (x.name = nm)), σ) := by
 refine wrap_eq rfl ?_ rfl
 show r_fixture_profile_fn1 (.agg (cProfile x)) (.rp [.str nm]) σ = _
 unfold r_fixture_profile_fn1
 simp only [MSb, reduceCtorEq, p1_cProfile_0, p1_cProfile_1, p1_cProfile_2, pA_cProfile, ce_cProfile, sp_cProfile]
 show (some (AV.str nm)).bind _ = _
 simp only [MSb, reduceCtorEq]
theorem nnP (x : ParamD) : A.nnL [.k, .k, .k, .k, .k, .k, (.s 3)] (cParam x) = cParam x := rfl
theorem nnProf (p : ProfileD) (b : Bool) : A.nn (.t [(.a [.k, .k, (.e 7 [.k, .k, .k, .k, .k, .k, (.s 3)])]), .k]) (.tup [.agg (cProfile p), .bool b]) = .tup [.agg (cProfile p), .bool b] := by
 show AV.tup [.agg [.str p.name, .int .i64 p.size, A.nn (.e 7 [.k, .k, .k, .k, .k, .k, (.s 3)]) (sl 7 cParam p.params)], .bool b] = _
 rw [nn_e nnP]; rfl
theorem profile_eq (l : List ProfileD) (hl : l.length ≤ mxl) (nm : ByteArray) (σ : Heap) : m_fixture_profile [sl 3 cProfile l, .str nm] σ = some (.tup [.agg (cProfile (profOf nm l).1), .bool (profOf nm l).2], σ) := by
 have key : ∃ w, r_fixture_profile (sl 3 cProfile l) (.str nm) σ = some (w, σ) ∧ A.nn (.t [(.a [.k, .k, (.e 7 [.k, .k, .k, .k, .k, .k, (.s 3)])]), .k]) w = .tup [.agg (cProfile (profOf nm l).1), .bool (profOf nm l).2] := by
  unfold r_fixture_profile
  simp only [MSb, reduceCtorEq]
  rw [m_slices_IndexFunc_api_Profile_eq _ l hl 64 [.rp [.str nm]] (fun x => decide (x.name = nm)) σ (fun x _ => profile_fn1_eq x nm σ)]
  simp only [MSb, reduceCtorEq]
  rw [profOf_find]
  rcases idxI_cases (fun x : ProfileD => decide (x.name = nm)) l with ⟨h1, _, h3⟩ | ⟨k, x, h1, h2, h3, h4, _⟩
  ·refine ⟨.tup [.agg [.str ⟨#[]⟩, .int .i64 0, .nsl], .bool false], ?_, ?_⟩
   ·rw [h1]
    simp only [MSb, reduceCtorEq, show ((-1 : Int) < 0) from by decide]
    rfl
   ·rw [h3]; rfl
  ·refine ⟨.tup [.agg (cProfile x), .bool true], ?_, ?_⟩
   ·rw [h3]
    simp only [MSb, reduceCtorEq, p1_cProfile_0, p1_cProfile_1, p1_cProfile_2, pA_cProfile, ce_cProfile, sp_cProfile, show ¬ ((k : Int) < 0) from by omega, iaddr_sl 3 cProfile l h1]
   ·rw [h4]; exact nnProf x true
 obtain ⟨w, h1, h2⟩ := key
 exact wrap_eq rfl h1 h2
theorem Profile2_eq (l : List ProfileD) (hl : l.length ≤ mxl) (nm : ByteArray) (σ : Heap) : m_R2_Profile [sl 3 cProfile l, .str nm] σ = some (.tup [.agg (cProfile (profOf nm l).1), .bool (profOf nm l).2], σ) := by
 refine wrap_eq (v := .tup [.agg (match l.find? (fun x : ProfileD => decide (x.name = nm)) with | some p => cProfile p | none => [.str ⟨#[]⟩, .int .i64 0, .nsl]), .bool (profOf nm l).2]) rfl ?_ ?_
 ·show r_R2_Profile (sl 3 cProfile l) (.str nm) σ = _
  rw [profOf_find]
  unfold r_R2_Profile
  simp only [MSb, reduceCtorEq]
  refine (loop_pre (S := Unit) (R := ProfileD) l (fun pre x _ => if x.name = nm then .out x else .go ())
   (fun pre _ => [.lbx [.str ⟨#[]⟩, .int .i64 0, .nsl], .bool false, .int .i64 (pre.length : Int)]) (fun _ _ => σ)
   (fun _ => (.exit 0, [.lbx [.str ⟨#[]⟩, .int .i64 0, .nsl], .bool false, .int .i64 (l.length : Int)], σ)) (fun pre _ r => (.ret, [.lbx (cProfile r), .bool true, .int .i64 (pre.length : Int)], σ))
   (fun _ _ => True) () (fun _ => some (AV.tup [.agg [.str ⟨#[]⟩, .int .i64 0, .nsl], .bool false], σ)) (fun r => some (AV.tup [.agg (cProfile r), .bool true], σ)) ?_ ?_ trivial (fun _ _ _ _ _ _ _ _ => trivial) ?_ ?_).trans ?_
  ·intro pre x rest u hl' _
   have hx := pre_get hl'
   have hlt := pre_lt hl'
   have hi1 : IntKind.i64.wrap ((pre.length : Int) + 1) = (pre.length : Int) + 1 := wrap64 (by unfold inI; unfold mxl at hl; omega)
   have hlt' : (pre.length : Int) < (l.length : Int) := by omega
   have hia := iaddr_sl 3 cProfile l hx
   clear hl' hx hlt hl
   simp only [MSb, reduceCtorEq, p1_cProfile_0, p1_cProfile_1, p1_cProfile_2, pA_cProfile, ce_cProfile, sp_cProfile, hlt', hia, hi1]
   repeat' ((first | rw [gDp] | rw [gDb] | rw [cDp] | rw [cDnp] | rw [cDn] | rw [cDb]); split <;> try simp only [MSb, reduceCtorEq, p1_cProfile_0, p1_cProfile_1, p1_cProfile_2, pA_cProfile, ce_cProfile, sp_cProfile, *])
   all_goals first | with_reducible rfl | (simp [*]; done) | (simp_all; done) | (simp_all; omega) | rfl
  ·intro u _; simp only [MSb, reduceCtorEq, Int.lt_irrefl]
  ·intro u _; simp only [MSb, reduceCtorEq]; rfl
  ·intros; simp only [MSb, reduceCtorEq, p1_cProfile_0, p1_cProfile_1, p1_cProfile_2, pA_cProfile, ce_cProfile, sp_cProfile]
  ·have key : ∀ (l pre : List ProfileD), (runP (fun (_ : List ProfileD) (x : ProfileD) (_ : Unit) => if x.name = nm then (Rd.out x : Rd Unit ProfileD) else .go ()) pre l ()).el (fun _ => some (AV.tup [.agg [.str ⟨#[]⟩, .int .i64 0, .nsl], .bool false], σ)) (fun r => some (AV.tup [.agg (cProfile r), .bool true], σ)) = some (.tup [.agg (match l.find? (fun x : ProfileD => decide (x.name = nm)) with | some p => cProfile p | none => [.str ⟨#[]⟩, .int .i64 0, .nsl]), .bool (match l.find? (fun x : ProfileD => decide (x.name = nm)) with | some p => (p, true) | none => (⟨⟨#[]⟩, 0, []⟩, false)).2], σ) := by
    intro l
    induction l with
    | nil => intro pre; rfl
    | cons x l ih =>
     intro pre
     rw [runP]
     by_cases h : x.name = nm
     ·simp [h, Rd.el]
     ·simp only [if_neg h, ih]
      simp [h]
   exact key l []
 ·rw [profOf_find]
  cases hf : l.find? (fun x : ProfileD => decide (x.name = nm)) with
  | none => rfl
  | some p => exact nnProf p true
end Go.Proofs.Ytohbeolimnpehaa

/- Package fixture: the marks of a universe's slots. -/
namespace Go.Proofs.Ytohbeolimnpehaa
set_option linter.unusedSectionVars false
set_option linter.unusedVariables false
set_option linter.unusedSimpArgs false
def marks (f : Nat → Bool) : List AV := (List.range 513).map fun k => .bool (f k)
theorem marks_get (f : Nat → Bool) {k : Nat} (h : k < 513) : (marks f)[k]? = some (.bool (f k)) := by simp [marks, h]
theorem marks_len (f : Nat → Bool) : (marks f).length = 513 := by simp [marks]
theorem freeF_run (f : Nat → Bool) {γ : Type} (K1 K2 : γ) : ∀ (s a : Nat) (pre : List Nat), (runP (fun _ k (_ : Unit) => if 512 < k ∨ f k = true then (Rd.out () : Rd Unit Unit) else .go ()) pre (List.range' a s) ()).el (fun _ => K1) (fun _ => K2) = if freeF f s a = true then K1 else K2
 | 0, a, pre => by simp [runP, freeF, Rd.el]
 | s + 1, a, pre => by
  rw [List.range'_succ, runP, freeF]
  by_cases h : 512 < a ∨ f a = true
  ·simp only [if_pos h, Rd.el]; simp
  ·simp only [if_neg h]
   exact freeF_run f K1 K2 s (a + 1) _
theorem free_np (a s : Int) (h : inI (a + s)) (h' : inI (a + s - 1)) (σ : Heap) : m_fixture_slots_free [.np, .int .i64 a, .int .i64 s] σ = some (.bool (decide (a + s - 1 ≤ 512)), σ) := by
 refine wrap_eq rfl ?_ rfl
 show r_fixture_slots_free .np (.int .i64 a) (.int .i64 s) σ = _
 unfold r_fixture_slots_free
 simp only [MSb, reduceCtorEq, show A.eql .p AV.np AV.np = some (.bool true) from rfl, wrap64 h, wrap64 h']
theorem aaddr_rp (cs : List AV) {k : Nat} (h : k < 513) : A.aaddr 513 1 (.rp cs) (.int .i64 (k : Int)) = some (.rp (cs.drop k)) := by
 have h1 : A.idx 513 (.int .i64 (k : Int)) = some k := by
  show (if (0 : Int) ≤ (k : Int) ∧ (k : Int) < ((513 : Nat) : Int) then some (k : Int).toNat else none) = some k
  rw [if_pos ⟨by omega, by omega⟩]; rfl
 unfold A.aaddr
 rw [h1]
 simp only [Option.bind_some, Nat.mul_one]
theorem free_rp (f : Nat → Bool) (a s : Nat) (hs : a ≤ 1024 ∧ s ≤ 1024) (σ : Heap) : m_fixture_slots_free [.rp (marks f), .int .i64 (a : Int), .int .i64 (s : Int)] σ = some (.bool (freeF f s a), σ) := by
 refine wrap_eq rfl ?_ rfl
 show r_fixture_slots_free (.rp (marks f)) (.int .i64 (a : Int)) (.int .i64 (s : Int)) σ = _
 unfold r_fixture_slots_free
 have hw : IntKind.i64.wrap ((a : Int) + s) = (a : Int) + s := wrap64 (by unfold inI; omega)
 simp only [MSb, reduceCtorEq, show A.eql .p (AV.rp (marks f)) AV.np = some (.bool false) from rfl, hw]
 refine (loop_pre (S := Unit) (R := Unit) (List.range' a s) (fun _ k (_ : Unit) => if 512 < k ∨ f k = true then (Rd.out () : Rd Unit Unit) else .go ())
  (fun pre _ => [.bool false, .int .i64 ((a : Int) + (pre.length : Int))]) (fun _ _ => σ) (fun _ => (.exit 0, [.bool false, .int .i64 ((a : Int) + s)], σ)) (fun pre _ _ => (.ret, [.bool false, .int .i64 ((a : Int) + (pre.length : Int))], σ))
  (fun _ _ => True) () (fun _ => some (AV.bool true, σ)) (fun _ => some (AV.bool false, σ)) ?_ ?_ trivial (fun _ _ _ _ _ _ _ _ => trivial) ?_ ?_ (hv := by simp)).trans ?_
 ·intro pre k rest u hl _
  have hx := pre_get hl
  have hlt := pre_lt hl
  rw [List.length_range'] at hlt
  obtain rfl : a + pre.length = k := by
   have := (List.getElem?_eq_some_iff.1 hx).2
   simpa [List.getElem_range'] using this
  have hlt' : (a : Int) + (pre.length : Int) < (a : Int) + s := by omega
  have hi1 : IntKind.i64.wrap ((a : Int) + (pre.length : Int) + 1) = (a : Int) + ((pre.length : Int) + 1) := by rw [wrap64 (by unfold inI; omega)]; omega
  have ecast : (a : Int) + (pre.length : Int) = ((a + pre.length : Nat) : Int) := by omega
  clear hl hx
  by_cases h5 : 512 < a + pre.length
  ·have h5' : (512 : Int) < (a : Int) + (pre.length : Int) := by omega
   simp only [MSb, reduceCtorEq, hlt', h5, h5']
  have h5' : ¬ (512 : Int) < (a : Int) + (pre.length : Int) := by omega
  have hp : A.part1 0 ((marks f).drop (a + pre.length)) = some (.bool (f (a + pre.length))) := by
   rw [p1D]; simp only [A.part1, Nat.add_zero, marks_get f (show a + pre.length < 513 by omega)]; rfl
  simp only [MSb, reduceCtorEq, hlt', h5, h5', show A.nilck (AV.rp (marks f)) = some (.rp (marks f)) from rfl]
  rw [ecast, aaddr_rp _ (by omega)]
  simp only [MSb, reduceCtorEq, hp]
  cases hf : f (a + pre.length)
  ·simp only [MSb, reduceCtorEq, ← ecast, hi1]
  ·simp only [MSb, reduceCtorEq, ← ecast]
 ·intro u _
  rw [List.length_range']
  exact hend_lss _ _ _
 ·intro u _; simp only [MSb, reduceCtorEq]
 ·intros; simp only [MSb, reduceCtorEq]
 ·rw [freeF_run]
  cases freeF f s a <;> rfl
/-- .. where the marks lie in a block of the caller's. -/
theorem free_op (f : Nat → Bool) (a s : Nat) (hs : a ≤ 1024 ∧ s ≤ 1024) {σ : Heap} {id : Nat} (h : σ[id]? = some (.box (marks f))) : m_fixture_slots_free [.op id 0, .int .i64 (a : Int), .int .i64 (s : Int)] σ = some (.bool (freeF f s a), σ) := by
 refine wrap_own (args' := [.rp (marks f), .int .i64 (a : Int), .int .i64 (s : Int)]) rfl ?_ rfl (free_rp f a s hs []) rfl
 have e : A.frzL' σ 0 7 (marks f) = some (marks f) := by
  have key : ∀ (l : List Nat), A.frzL' σ 0 7 (l.map fun k => AV.bool (f k)) = some (l.map fun k => AV.bool (f k)) := by
   intro l
   induction l with
   | nil => simp [A.frzL']
   | cons x l ih => simp [A.frzL', A.frz, ih]
  exact key _
 simp [A.frzL, A.frz, h, e]
end Go.Proofs.Ytohbeolimnpehaa

/- Package fixture: how slots are taken. -/
namespace Go.Proofs.Ytohbeolimnpehaa
set_option linter.unusedSectionVars false
set_option linter.unusedVariables false
set_option linter.unusedSimpArgs false
/-- The map of the used universes, and a block of marks for each. -/
def usE (b : Nat) : List Int → List (AV × AV)
 | [] => []
 | v :: r => (.int .i64 v, .op b 0) :: usE (b + 1) r
def usH (σ : Heap) (vs : List Int) (f : Int → Nat → Bool) : Heap := σ ++ (Blk.map (usE (σ.length + 1) vs) :: vs.map fun v => Blk.box (marks (f v)))
theorem usE_snoc (v : Int) : ∀ (vs : List Int) (b : Nat), usE b (vs ++ [v]) = usE b vs ++ [(.int .i64 v, .op (b + vs.length) 0)]
 | [], b => rfl
 | w :: r, b => by
  simp only [List.cons_append, usE, usE_snoc v r (b + 1), List.length_cons]
  rw [show b + 1 + r.length = b + (r.length + 1) by omega]
theorem usE_find (v : Int) : ∀ (vs : List Int) (b : Nat), A.find .i (.int .i64 v) (usE b vs) = some (if v ∈ vs then some (.op (b + vs.idxOf v) 0) else none)
 | [], b => rfl
 | w :: r, b => by
  simp only [usE, A.find, A.eqK, A.eqI, if_true, Option.bind_some]
  by_cases h : v = w
  ·subst h; simp
  ·have h1 : (v == w) = false := by simpa using h
   have h2 : (w == v) = false := by simpa using fun e : w = v => h e.symm
   simp only [h1, cond_false, usE_find v r (b + 1), List.mem_cons, h, false_or, List.idxOf_cons, h2]
   rw [show b + 1 + r.idxOf v = b + (r.idxOf v + 1) by omega]
theorem usE_upd (v : Int) (w : AV) : ∀ (vs : List Int) (b : Nat), v ∉ vs → A.upd .i (.int .i64 v) w (usE b vs) = some (usE b vs ++ [(.int .i64 v, w)])
 | [], b, _ => rfl
 | x :: r, b, h => by
  simp only [List.mem_cons, not_or] at h
  have h1 : (v == x) = false := by simpa using h.1
  simp only [usE, A.upd, A.eqK, A.eqI, if_true, Option.bind_some, h1, cond_false, usE_upd v w r (b + 1) h.2, Option.map_some, List.cons_append]
theorem usH_len (σ : Heap) (vs : List Int) (f : Int → Nat → Bool) : (usH σ vs f).length = σ.length + 1 + vs.length := by simp [usH]; omega
theorem usH_map (σ : Heap) (vs : List Int) (f : Int → Nat → Bool) : (usH σ vs f)[σ.length]? = some (.map (usE (σ.length + 1) vs)) := by simp [usH]
theorem usH_box (σ : Heap) {vs : List Int} (f : Int → Nat → Bool) {v : Int} (h : v ∈ vs) : (usH σ vs f)[σ.length + 1 + vs.idxOf v]? = some (.box (marks (f v))) := by
 unfold usH
 rw [List.getElem?_append_right (by omega), show σ.length + 1 + vs.idxOf v - σ.length = vs.idxOf v + 1 by omega, List.getElem?_cons_succ, List.getElem?_map]
 have : vs[vs.idxOf v]? = some v := by
  have hl := List.idxOf_lt_length_of_mem h
  rw [List.getElem?_eq_getElem hl, List.getElem_idxOf hl]
 rw [this]; rfl
theorem usH_set (σ : Heap) {vs : List Int} (hn : vs.Nodup) {f f' : Int → Nat → Bool} {v : Int} (h : v ∈ vs) (ho : ∀ w, w ≠ v → f' w = f w) : (usH σ vs f).set (σ.length + 1 + vs.idxOf v) (.box (marks (f' v))) = usH σ vs f' := by
 unfold usH
 rw [List.set_append_right _ _ (by omega), show σ.length + 1 + vs.idxOf v - σ.length = vs.idxOf v + 1 by omega, List.set_cons_succ]
 refine congrArg (fun z => σ ++ (Blk.map (usE (σ.length + 1) vs) :: z)) ?_
 clear σ
 induction vs with
 | nil => cases h
 | cons w r ih =>
  rw [List.nodup_cons] at hn
  rw [List.idxOf_cons]
  by_cases e : w = v
  ·subst e
   simp only [beq_self_eq_true, cond_true, List.map_cons, List.set_cons_zero]
   exact congrArg (Blk.box (marks (f' w)) :: ·) (List.map_congr_left fun x hx => by rw [ho x (fun e => hn.1 (e ▸ hx))])
  ·have e2 : (w == v) = false := by simpa using e
   simp only [e2, cond_false, List.map_cons, List.set_cons_succ]
   rw [ih hn.2 ((List.mem_cons.1 h).resolve_left fun q => e q.symm), ho w e]
theorem usH_new (σ : Heap) (vs : List Int) {f : Int → Nat → Bool} {v : Int} (h : ∀ k, f v k = false) : ((usH σ vs f) ++ [Blk.box (List.replicate 513 (AV.bool false))]).set σ.length (.map (usE (σ.length + 1) (vs ++ [v]))) = usH σ (vs ++ [v]) f := by
 have e : marks (f v) = List.replicate 513 (AV.bool false) := by
  rw [show f v = fun _ => false from funext h]
  refine List.eq_replicate_iff.2 ⟨marks_len _, fun b hb => ?_⟩
  obtain ⟨k, _, rfl⟩ := List.mem_map.1 hb
  rfl
 unfold usH
 simp only [List.append_assoc, List.cons_append]
 rw [List.set_append_right _ _ (Nat.le_refl _), Nat.sub_self, List.set_cons_zero, List.map_append, List.map_cons, e]
 rfl
theorem marks_set (g g' : Nat → Bool) {k : Nat} (hk : k < 513) (h1 : g' k = true) (h2 : ∀ j, j ≠ k → g' j = g j) : A.splice k [AV.bool true] (marks g) = some (marks g') := by
 unfold A.splice
 rw [if_pos (by rw [marks_len]; simp; omega)]
 refine congrArg some (List.ext_getElem? fun j => ?_)
 simp only [List.append_assoc, List.cons_append, List.nil_append, List.length_cons, List.length_nil]
 by_cases hj : j < k
 ·rw [List.getElem?_append_left (by rw [List.length_take, marks_len]; omega), List.getElem?_take_of_lt hj, marks_get _ (by omega), marks_get _ (by omega), h2 j (by omega)]
 ·rw [List.getElem?_append_right (by rw [List.length_take, marks_len]; omega), List.length_take, marks_len, Nat.min_eq_left (by omega)]
  by_cases e : j = k
  ·subst e
   rw [Nat.sub_self, List.getElem?_cons_zero, marks_get _ hk, h1]
  ·rw [show j - k = (j - k - 1) + 1 by omega, List.getElem?_cons_succ, List.getElem?_drop, show k + (0 + 1) + (j - k - 1) = j by omega]
   by_cases hj2 : j < 513
   ·rw [marks_get _ hj2, marks_get _ hj2, h2 j e]
   ·rw [List.getElem?_eq_none (by rw [marks_len]; omega), List.getElem?_eq_none (by rw [marks_len]; omega)]
theorem run_go {α γ : Type} (K1 : Unit → γ) (K2 : Unit → γ) : ∀ (l pre : List α), (runP (fun _ (x : α) (_ : Unit) => (Rd.go () : Rd Unit Unit)) pre l ()).el K1 K2 = K1 ()
 | [], pre => rfl
 | x :: l, pre => by rw [runP]; exact run_go K1 K2 l _
/-- A check of a list whose state does not matter. -/
theorem runP_state {α S : Type} {body : List α → α → S → Rd S Int} {chk : List α → List α → Int} (h0 : ∀ pre, chk pre [] = 0) (h : ∀ pre x rest s, chk pre (x :: rest) = (body pre x s).el (fun _ => chk (pre ++ [x]) rest) (fun r => r)) {γ : Type} (K : Int → γ) :
  ∀ (l pre : List α) (s : S), (runP body pre l s).el (fun _ => K 0) K = K (chk pre l)
 | [], pre, s => by rw [runP, h0]; rfl
 | x :: l, pre, s => by
  rw [runP, h pre x l s]
  cases body pre x s with
  | go s' => exact runP_state h0 h K l (pre ++ [x]) s'
  | out r => rfl
theorem markF_zero (f : Int → Nat → Bool) (v : Int) (a : Nat) : markF f v a 0 = f := by
 funext w k
 unfold markF
 rw [if_neg (by omega)]
theorem take_loop {γ : Type} (σ : Heap) {vs : List Int} (hn : vs.Nodup) (f : Int → Nat → Bool) (u : UnitD) (a s : Nat) (ha : u.address = a) (hs : a + s ≤ 513) (hm : u.univ ∈ vs) (K : List AV → Heap → Option γ) :
  (A.loop (fun v11 s12 =>
   ((A.lb (v11.getD 0 AV.undef)).bind fun _ => some (3)).bind fun p13 =>
   ((A.lb (v11.getD 0 AV.undef)).bind fun c14 => A.part1 p13 c14).bind fun x15 =>
   (A.add x15 (.int .i64 (s : Int))).bind fun x16 =>
   (A.lss (v11.getD 1 AV.undef) x16).bind fun x17 =>
   A.cond x17 (
    ((A.lb (v11.getD 0 AV.undef)).bind fun _ => some (2)).bind fun p18 =>
    ((A.lb (v11.getD 0 AV.undef)).bind fun c19 => A.part1 p18 c19).bind fun x20 =>
    (A.look .i (.om σ.length) x20 AV.np s12).bind fun x21 =>
    (A.nilck x21).bind fun x22 =>
    (A.aaddr 513 1 x22 (v11.getD 1 AV.undef)).bind fun x23 =>
    (A.storeAt x23 [AV.bool true] s12).bind fun c25 =>
    (A.add (v11.getD 1 AV.undef) (AV.int .i64 1)).bind fun x26 =>
    some (AX.normal, [(v11.getD 0 AV.undef), x26], c25)) (
    some (AX.exit 0, [(v11.getD 0 AV.undef), (v11.getD 1 AV.undef)], s12))) [.lbx (cUnit u), .int .i64 (a : Int)] (usH σ vs f)).bind (fun r27 =>
 bif decide (r27.1 = AX.exit 0) then K r27.2.1 r27.2.2 else none) = K [.lbx (cUnit u), .int .i64 ((a : Int) + s)] (usH σ vs (markF f u.univ a s)) := by
 have hw : IntKind.i64.wrap ((a : Int) + s) = (a : Int) + s := wrap64 (by unfold inI; omega)
 refine (loop_pre (S := Unit) (R := Unit) (List.range' a s) (fun _ k (_ : Unit) => (Rd.go () : Rd Unit Unit))
  (fun pre _ => [.lbx (cUnit u), .int .i64 ((a : Int) + (pre.length : Int))]) (fun pre _ => usH σ vs (markF f u.univ a pre.length)) (fun _ => (.exit 0, [.lbx (cUnit u), .int .i64 ((a : Int) + s)], usH σ vs (markF f u.univ a s))) (fun pre _ _ => (.ret, [], σ))
  (fun _ _ => True) () (fun _ => K [.lbx (cUnit u), .int .i64 ((a : Int) + s)] (usH σ vs (markF f u.univ a s))) (fun _ => none) ?_ ?_ trivial (fun _ _ _ _ _ _ _ _ => trivial) ?_ ?_ (hv := by simp) (hσ := by rw [List.length_nil, markF_zero])).trans (run_go _ _ _ _)
 ·intro pre k rest t hl _
  have hx := pre_get hl
  have hlt := pre_lt hl
  rw [List.length_range'] at hlt
  obtain rfl : a + pre.length = k := by
   have := (List.getElem?_eq_some_iff.1 hx).2
   simpa [List.getElem_range'] using this
  have hlt' : (a : Int) + (pre.length : Int) < (a : Int) + s := by omega
  have hi1 : IntKind.i64.wrap ((a : Int) + (pre.length : Int) + 1) = (a : Int) + ((pre.length : Int) + 1) := by rw [wrap64 (by unfold inI; omega)]; omega
  have ecast : (a : Int) + (pre.length : Int) = ((a + pre.length : Nat) : Int) := by omega
  clear hl hx
  have hlook : A.look .i (.om σ.length) (.int .i64 u.univ) AV.np (usH σ vs (markF f u.univ a pre.length)) = some (.op (σ.length + 1 + vs.idxOf u.univ) 0) := by
   rw [look_at .i rfl (usH_map σ vs _), usE_find, if_pos hm]; rfl
  have hadr : A.aaddr 513 1 (.op (σ.length + 1 + vs.idxOf u.univ) 0) (.int .i64 ((a + pre.length : Nat) : Int)) = some (.op (σ.length + 1 + vs.idxOf u.univ) (a + pre.length)) := by
   have h1 : A.idx 513 (.int .i64 ((a + pre.length : Nat) : Int)) = some (a + pre.length) := by
    show (if (0 : Int) ≤ ((a + pre.length : Nat) : Int) ∧ ((a + pre.length : Nat) : Int) < ((513 : Nat) : Int) then some ((a + pre.length : Nat) : Int).toNat else none) = _
    rw [if_pos ⟨by omega, by omega⟩]; rfl
   unfold A.aaddr
   rw [h1]
   simp only [Option.bind_some, Nat.mul_one, Nat.zero_add]
  have hst : A.storeAt (.op (σ.length + 1 + vs.idxOf u.univ) (a + pre.length)) [.bool true] (usH σ vs (markF f u.univ a pre.length)) = some (usH σ vs (markF f u.univ a (pre.length + 1))) := by
   simp only [A.storeAt, usH_box σ _ hm]
   rw [marks_set _ (markF f u.univ a (pre.length + 1) u.univ) (by omega) (by unfold markF; rw [if_pos ⟨rfl, by omega, by omega⟩]) (fun j hj => by
    unfold markF
    by_cases q : a ≤ j ∧ j < a + pre.length
    ·rw [if_pos ⟨rfl, by omega, by omega⟩, if_pos ⟨rfl, q.1, q.2⟩]
    ·rw [if_neg (by omega), if_neg (by omega)])]
   simp only [Option.map_some]
   rw [usH_set σ hn hm (fun w hw => by funext j; unfold markF; rw [if_neg (fun q => hw q.1), if_neg (fun q => hw q.1)])]
  simp only [MSb, reduceCtorEq, p1_cUnit_0, p1_cUnit_1, p1_cUnit_2, p1_cUnit_3, pA_cUnit, ce_cUnit, sp_cUnit, ha, hw, hlt', hlook, show A.nilck (.op (σ.length + 1 + vs.idxOf u.univ) 0) = some (.op (σ.length + 1 + vs.idxOf u.univ) 0) from rfl]
  rw [ecast, hadr]
  simp only [MSb, reduceCtorEq, hst, ← ecast, hi1]
 ·intro t _
  rw [List.length_range']
  simp only [MSb, reduceCtorEq, p1_cUnit_0, p1_cUnit_1, p1_cUnit_2, p1_cUnit_3, pA_cUnit, ce_cUnit, sp_cUnit, ha, hw, Int.lt_irrefl]
 ·intro t _; simp only [MSb, reduceCtorEq]
 ·intro pre x rest t r _ _ hb; cases hb
theorem take_eq (σ : Heap) {vs : List Int} (hn : vs.Nodup) (f : Int → Nat → Bool) (u : UnitD) (a s : Nat) (ha : u.address = a) (hs : a + s ≤ 513) (hf : u.univ ∉ vs → ∀ k, f u.univ k = false) :
  m_fixture_take [.om σ.length, .agg (cUnit u), .int .i64 (s : Int)] (usH σ vs f) = some (.tup [], usH σ (if u.univ ∈ vs then vs else vs ++ [u.univ]) (markF f u.univ a s)) := by
 have e : r_fixture_take (.om σ.length) (.agg (cUnit u)) (.int .i64 (s : Int)) (usH σ vs f) = some (.tup [], usH σ (if u.univ ∈ vs then vs else vs ++ [u.univ]) (markF f u.univ a s)) := by
  unfold r_fixture_take
  have hlook : A.look .i (.om σ.length) (.int .i64 u.univ) AV.np (usH σ vs f) = some (if u.univ ∈ vs then .op (σ.length + 1 + vs.idxOf u.univ) 0 else .np) := by
   rw [look_at .i rfl (usH_map σ vs _), usE_find]
   by_cases hm : u.univ ∈ vs <;> simp [hm]
  simp only [MSb, reduceCtorEq, p1_cUnit_0, p1_cUnit_1, p1_cUnit_2, p1_cUnit_3, pA_cUnit, ce_cUnit, sp_cUnit, hlook]
  by_cases hm : u.univ ∈ vs
  ·simp only [if_pos hm, show A.eql .p (.op (σ.length + 1 + vs.idxOf u.univ) 0) AV.np = some (.bool false) from rfl, MSb, reduceCtorEq, p1_cUnit_0, p1_cUnit_1, p1_cUnit_2, p1_cUnit_3, pA_cUnit, ce_cUnit, sp_cUnit, ha]
   exact take_loop σ hn f u a s ha hs hm fun _ h => some (AV.tup [], h)
  ·have hup : A.mupd .i (.om σ.length) (.int .i64 u.univ) (.op (usH σ vs f).length 0) (usH σ vs f ++ [Blk.box (List.replicate 513 (AV.bool false))]) = some (usH σ (vs ++ [u.univ]) f) := by
    rw [mupd_at .i rfl (es := usE (σ.length + 1) vs) (by rw [List.getElem?_append_left (by rw [usH_len]; omega)]; exact usH_map σ vs f), usE_upd _ _ _ _ hm]
    rw [Option.map_some, usH_len, ← usE_snoc, usH_new σ vs (hf hm)]
   simp only [if_neg hm, show A.eql .p AV.np AV.np = some (.bool true) from rfl, MSb, reduceCtorEq, p1_cUnit_0, p1_cUnit_1, p1_cUnit_2, p1_cUnit_3, pA_cUnit, ce_cUnit, sp_cUnit, hup, ha]
   exact take_loop σ (by rw [List.nodup_append]; exact ⟨hn, by simp, fun x hx y hy e => hm (by simp at hy; rw [← hy, ← e]; exact hx)⟩) f u a s ha hs (by simp) fun _ h => some (AV.tup [], h)
 unfold m_fixture_take A.wrap
 rw [Bool.false_and, cond_false]
 show (r_fixture_take (.om σ.length) (.agg (cUnit u)) (.int .i64 (s : Int)) (usH σ vs f)).map _ = _
 rw [e]; rfl
end Go.Proofs.Ytohbeolimnpehaa

/- The reference of package fixture: profiles and libraries. -/
namespace Go.Proofs.Ytohbeolimnpehaa
set_option linter.unusedSectionVars false
set_option linter.unusedVariables false
set_option linter.unusedSimpArgs false
theorem IsLevel1_eq (n : Int) (σ : Heap) : m_R1_IsLevel [.int .i64 n] σ = some (.bool (withinB n 0 65535), σ) := by
 refine wrap_eq rfl ?_ rfl
 show r_R1_IsLevel (.int .i64 n) σ = _
 unfold r_R1_IsLevel
 simp only [MSb, reduceCtorEq, Within1_eq]
theorem slots2_eq (x : ParamD) (σ : Heap) : m_R2_slots [.agg (cParam x)] σ = some (sl 1 cInt (slotL x.att x.fine), σ) := by
 refine wrap_eq (v := sl 1 cInt (slotL x.att x.fine)) rfl ?_ rfl
 show r_R2_slots (.agg (cParam x)) σ = _
 unfold r_R2_slots slotL
 simp only [MSb, reduceCtorEq, p1_cParam_0, p1_cParam_1, p1_cParam_2, p1_cParam_3, p1_cParam_4, p1_cParam_5, p1_cParam_6, pA_cParam, ce_cParam, sp_cParam]
 repeat' ((first | rw [gDp] | rw [gDb] | rw [cDp] | rw [cDnp] | rw [cDn] | rw [cDb]); split <;> try simp only [MSb, reduceCtorEq, *])
 all_goals rfl
theorem chkR_run (σ : Heap) (l : List RangeD) : (runP (fun pre (x : RangeD) (_ : Unit) =>
    if withinB x.low 0 65535 = false ∨ withinB x.high 0 65535 = false ∨ x.high < x.low then (.out 1 : Rd Unit Int)
    else if 0 < pre.length ∧ x.low ≤ (pre.getLast?.map (·.high)).getD 0 then .out 7
    else if nameB x.name = false then .out 5
    else if memB x.name (pre.map (·.name)) = true then .out 6 else .go ()) [] l ()).el (fun _ => some (AV.int .i64 0, σ)) (fun r => some (AV.int .i64 r, σ)) = some (.int .i64 (chkR [] l), σ) := by
 refine (runP_fault (chk := chkR) ?_ ?_ (fun n => some (AV.int .i64 n, σ)) l []).trans ?_
 ·intro pre; rfl
 ·intro pre x rest; rw [chkR]; simp only [el_ite, el_out, el_go]
 ·rfl
theorem checkParam2_eq (x : ParamD) (hx : okParam x) (l : List ParamD) (hl : l.length ≤ mxl) (size : Int) (hf : ∀ y ∈ l, 0 ≤ y.fine) (σ : Heap) : m_R2_checkParam [.agg (cParam x), sl 7 cParam l, .int .i64 size] σ = some (.int .i64 (chkX size l x), σ) := by
 refine wrap_eq rfl ?_ rfl
 show r_R2_checkParam (.agg (cParam x)) (sl 7 cParam l) (.int .i64 size) σ = _
 obtain ⟨k1, k2, k3, k4, k5, k6⟩ := hx
 have hN := IsName1_eq _ k1
 unfold r_R2_checkParam chkX
 simp only [MSb, reduceCtorEq, p1_cParam_0, p1_cParam_1, p1_cParam_2, p1_cParam_3, p1_cParam_4, p1_cParam_5, p1_cParam_6, pA_cParam, ce_cParam, sp_cParam, hN]
 cases hn : nameB x.name
 ·simp only [MSb, reduceCtorEq]
 simp only [MSb, reduceCtorEq]
 refine (loop_any l (fun y => decide (y.name = x.name)) (fun i => [.lbx (cParam x), .int .i64 0, .int .i64 (i : Int)]) σ (.exit 0, [.lbx (cParam x), .int .i64 0, .int .i64 (l.length : Int)], σ) (fun i => (.ret, [.lbx (cParam x), .int .i64 6, .int .i64 (i : Int)], σ)) _ (some (.int .i64 6, σ)) ?_ ?_ rfl ?_).trans ?_
 ·intro i y hy
  obtain ⟨h1, h2, h3⟩ := iaddr_at 7 cParam hy
  have h3 := h3 hl
  simp only [MSb, reduceCtorEq, p1_cParam_0, p1_cParam_1, p1_cParam_2, p1_cParam_3, p1_cParam_4, p1_cParam_5, p1_cParam_6, pA_cParam, ce_cParam, sp_cParam, h1, h2, h3]
  repeat' ((first | rw [gDp] | rw [gDb] | rw [cDp] | rw [cDnp] | rw [cDn] | rw [cDb]); split <;> try simp only [MSb, reduceCtorEq, *])
 ·simp only [MSb, reduceCtorEq, Int.lt_irrefl]
 ·intro i; simp only [MSb, reduceCtorEq]
 rw [← memB_map x.name (fun y : ParamD => y.name)]
 cases hm : memB x.name (l.map (·.name))
 ·simp only [MSb, reduceCtorEq, p1_cParam_0, p1_cParam_1, p1_cParam_2, p1_cParam_3, p1_cParam_4, p1_cParam_5, p1_cParam_6, pA_cParam, ce_cParam, sp_cParam, Within1_eq, IsLevel1_eq]
  cases hg : withinB x.group 1 4
  ·simp only [MSb, reduceCtorEq]
  simp only [MSb, reduceCtorEq]
  by_cases hw : withinB x.att 1 size = false ∨ withinB x.fine 0 size = false ∨ withinB x.default 0 65535 = false
  ·rw [if_pos hw]
   cases ha : withinB x.att 1 size
   ·simp only [MSb, reduceCtorEq]
   cases hb : withinB x.fine 0 size
   ·simp only [MSb, reduceCtorEq, Within1_eq, hb]
   ·have hc : withinB x.default 0 65535 = false := by simpa [ha, hb] using hw
    simp only [MSb, reduceCtorEq, Within1_eq, IsLevel1_eq, hb, hc]
  ·rw [if_neg hw]
   simp only [not_or, Bool.not_eq_false] at hw
   obtain ⟨ha, hb, hc⟩ := hw
   have hx0 : 0 ≤ x.fine := by simp [withinB] at hb; exact hb.1
   simp only [MSb, reduceCtorEq, Within1_eq, IsLevel1_eq, ha, hb, hc]
   by_cases he : x.att = x.fine
   ·simp only [MSb, reduceCtorEq, he]
   simp only [MSb, reduceCtorEq, he]
   refine (loop_any l (fun y => clash2 x.att x.fine y.att y.fine) (fun i => [.lbx (cParam x), .int .i64 0, .int .i64 (i : Int)]) σ (.exit 3, [.lbx (cParam x), .int .i64 0, .int .i64 (l.length : Int)], σ) (fun i => (.ret, [.lbx (cParam x), .int .i64 12, .int .i64 (i : Int)], σ)) _ (some (.int .i64 12, σ)) ?_ ?_ rfl ?_).trans ?_
   ·intro i y hy
    obtain ⟨h1, h2, h3⟩ := iaddr_at 7 cParam hy
    have h3 := h3 hl
    have hsl : ∀ a b : Int, (slotL a b).length ≤ mxl := by intro a b; unfold slotL mxl; split <;> simp
    simp only [MSb, reduceCtorEq, p1_cParam_0, p1_cParam_1, p1_cParam_2, p1_cParam_3, p1_cParam_4, p1_cParam_5, p1_cParam_6, pA_cParam, ce_cParam, sp_cParam, h1, h2, h3, slots2_eq]
    refine (loop_any (slotL x.att x.fine) (fun s => memB s (slotL y.att y.fine)) (fun j => [.lbx (cParam x), .int .i64 0, .lbx (cParam y), .int .i64 (j : Int)]) σ (.exit 5, [.lbx (cParam x), .int .i64 0, .lbx (cParam y), .int .i64 ((slotL x.att x.fine).length : Int)], σ) (fun j => (.ret, [.lbx (cParam x), .int .i64 12, .lbx (cParam y), .int .i64 (j : Int)], σ)) _ (some (.ret, [.lbx (cParam x), .int .i64 12, .int .i64 (i : Int)], σ)) ?_ ?_ rfl ?_).trans ?_
    ·intro j s hs
     obtain ⟨g1, g2, g3⟩ := iaddr_at 1 cInt hs
     have g3 := g3 (hsl _ _)
     have hc : ∀ σ, m_slices_Contains_int [sl 1 cInt (slotL y.att y.fine), .int .i64 s] σ = some (.bool (memB s (slotL y.att y.fine)), σ) := by
      intro σ
      rw [m_slices_Contains_int_eq _ (hsl _ _) s σ]
      simp only [memB]
      congr 4; funext z; rw [decide_eq_decide]; exact eq_comm
     simp only [MSb, reduceCtorEq, p1_cParam_0, p1_cParam_1, p1_cParam_2, p1_cParam_3, p1_cParam_4, p1_cParam_5, p1_cParam_6, pA_cParam, ce_cParam, sp_cParam, g1, g2, g3, slots2_eq, hc]
     cases memB s (slotL y.att y.fine) <;> simp only [MSb, reduceCtorEq]
    ·simp only [MSb, reduceCtorEq, Int.lt_irrefl]
    ·intro j; simp only [MSb, reduceCtorEq]
    ·simp only [MSb, reduceCtorEq, clash2, h3]; rfl
   ·simp only [MSb, reduceCtorEq, Int.lt_irrefl]
   ·intro i; simp only [MSb, reduceCtorEq]
   have hcl : (l.any fun y => clash2 x.att x.fine y.att y.fine) = true ↔ (memB x.att (slotsOf l) = true ∨ (0 < x.fine ∧ memB x.fine (slotsOf l) = true)) := clash_iff hf hx0
   by_cases hcc : (l.any fun y => clash2 x.att x.fine y.att y.fine) = true
   ·rw [if_pos hcc, if_pos (hcl.1 hcc)]
   rw [if_neg hcc, if_neg (fun h => hcc (hcl.2 h))]
   clear hcl hcc
   simp only [MSb, reduceCtorEq, p1_cParam_0, p1_cParam_1, p1_cParam_2, p1_cParam_3, p1_cParam_4, p1_cParam_5, p1_cParam_6, pA_cParam, ce_cParam, sp_cParam]
   unfold rangesF
   by_cases h30 : 30 < x.ranges.length
   ·have h30' : (30 : Int) < x.ranges.length := by omega
    simp only [MSb, reduceCtorEq, h30, h30']
   have h30' : ¬ (30 : Int) < x.ranges.length := by omega
   simp only [MSb, reduceCtorEq, h30, h30']
   refine (loop_pre (S := Unit) (R := Int) x.ranges _
    (fun pre _ => [.lbx (cParam x), .int .i64 0, .int .i64 (pre.length : Int)]) (fun pre _ => σ)
    (fun _ => (.exit 7, [.lbx (cParam x), .int .i64 0, .int .i64 (x.ranges.length : Int)], σ)) (fun pre _ r => (.ret, [.lbx (cParam x), .int .i64 r, .int .i64 (pre.length : Int)], σ))
    (fun _ _ => True) () (fun _ => some (AV.int .i64 0, σ)) (fun r => some (AV.int .i64 r, σ)) ?_ ?_ trivial (fun _ _ _ _ _ _ _ _ => trivial) ?_ ?_).trans (chkR_run σ x.ranges)
   ·intro pre r rest u hl' _
    have hr := pre_get hl'
    have hlt := pre_lt hl'
    have hi1 : IntKind.i64.wrap ((pre.length : Int) + 1) = (pre.length : Int) + 1 := wrap64 (by unfold inI; omega)
    have hi2 : IntKind.i64.wrap ((pre.length : Int) - 1) = (pre.length : Int) - 1 := wrap64 (by unfold inI; omega)
    have hlt' : (pre.length : Int) < (x.ranges.length : Int) := by omega
    have hnm := (k6.2 r (by rw [hl']; simp)).2.2
    have hia := iaddr_sl 3 cRange x.ranges hr
    have hNr := IsName1_eq _ hnm
    have hst := sliceS_take 3 cRange x.ranges (k := pre.length) (by omega)
    rw [pre_take hl'] at hst
    have hpl : pre.length ≤ mxl := by unfold mxl; omega
    by_cases h0 : 0 < pre.length
    ·obtain ⟨y, hy, hy2⟩ := pre_last hl' h0
     have hia2 := iaddr_pred 3 cRange x.ranges h0 hy2
     have h0' : (0 : Int) < pre.length := by omega
     clear hl' hr hlt h30 h30' hy2 hnm k1 k2 k3 k4 k5 k6 hN hn hm hg ha hb hc hx0 he hf
     simp only [MSb, reduceCtorEq, p1_cRange_0, p1_cRange_1, p1_cRange_2, pA_cRange, ce_cRange, sp_cRange, p1_cParam_0, p1_cParam_1, p1_cParam_2, p1_cParam_3, p1_cParam_4, p1_cParam_5, p1_cParam_6, pA_cParam, ce_cParam, sp_cParam, hlt', hia, IsLevel1_eq, hi1, hi2, hNr, h0', hy, h0]
     repeat' ((first | rw [gDp] | rw [gDb] | rw [cDp] | rw [cDnp] | rw [cDn] | rw [cDb]); split <;> try simp only [MSb, reduceCtorEq, p1_cRange_0, p1_cRange_1, p1_cRange_2, pA_cRange, ce_cRange, sp_cRange, p1_cParam_0, p1_cParam_1, p1_cParam_2, p1_cParam_3, p1_cParam_4, p1_cParam_5, p1_cParam_6, pA_cParam, ce_cParam, sp_cParam, IsLevel1_eq, *])
     all_goals first | rfl | (simp_all; done) | skip
     all_goals
      refine (loop_any pre (fun z => decide (z.name = r.name)) (fun j => [.lbx (cParam x), .int .i64 0, .lbx (cRange r), .int .i64 (j : Int)]) σ (.exit 10, [.lbx (cParam x), .int .i64 0, .lbx (cRange r), .int .i64 (pre.length : Int)], σ) (fun j => (.ret, [.lbx (cParam x), .int .i64 6, .lbx (cRange r), .int .i64 (j : Int)], σ)) _ (some (.ret, [.lbx (cParam x), .int .i64 6, .int .i64 (pre.length : Int)], σ)) ?_ ?_ rfl ?_).trans ?_
      ·intro j z hz
       obtain ⟨g1, g2, g3⟩ := iaddr_at 3 cRange hz
       have g3 := g3 hpl
       simp only [MSb, reduceCtorEq, p1_cRange_0, p1_cRange_1, p1_cRange_2, pA_cRange, ce_cRange, sp_cRange, g1, g2, g3]
       repeat' ((first | rw [gDp] | rw [gDb] | rw [cDp] | rw [cDnp] | rw [cDn] | rw [cDb]); split <;> try simp only [MSb, reduceCtorEq, *])
      ·simp only [MSb, reduceCtorEq, Int.lt_irrefl]
      ·intro j; simp only [MSb, reduceCtorEq]
      ·rw [← memB_map r.name (fun z : RangeD => z.name)]
       simp_all [MSb, reduceCtorEq]
       try (split <;> simp_all)
    ·have h0' : ¬ (0 : Int) < pre.length := by omega
     clear hl' hr hlt h30 h30' hnm k1 k2 k3 k4 k5 k6 hN hn hm hg ha hb hc hx0 he hf
     simp only [MSb, reduceCtorEq, p1_cRange_0, p1_cRange_1, p1_cRange_2, pA_cRange, ce_cRange, sp_cRange, p1_cParam_0, p1_cParam_1, p1_cParam_2, p1_cParam_3, p1_cParam_4, p1_cParam_5, p1_cParam_6, pA_cParam, ce_cParam, sp_cParam, hlt', hia, IsLevel1_eq, hi1, hi2, hNr, h0', h0]
     repeat' ((first | rw [gDp] | rw [gDb] | rw [cDp] | rw [cDnp] | rw [cDn] | rw [cDb]); split <;> try simp only [MSb, reduceCtorEq, p1_cRange_0, p1_cRange_1, p1_cRange_2, pA_cRange, ce_cRange, sp_cRange, p1_cParam_0, p1_cParam_1, p1_cParam_2, p1_cParam_3, p1_cParam_4, p1_cParam_5, p1_cParam_6, pA_cParam, ce_cParam, sp_cParam, IsLevel1_eq, *])
     all_goals first | rfl | (simp_all; done) | skip
     all_goals
      refine (loop_any pre (fun z => decide (z.name = r.name)) (fun j => [.lbx (cParam x), .int .i64 0, .lbx (cRange r), .int .i64 (j : Int)]) σ (.exit 10, [.lbx (cParam x), .int .i64 0, .lbx (cRange r), .int .i64 (pre.length : Int)], σ) (fun j => (.ret, [.lbx (cParam x), .int .i64 6, .lbx (cRange r), .int .i64 (j : Int)], σ)) _ (some (.ret, [.lbx (cParam x), .int .i64 6, .int .i64 (pre.length : Int)], σ)) ?_ ?_ rfl ?_).trans ?_
      ·intro j z hz
       obtain ⟨g1, g2, g3⟩ := iaddr_at 3 cRange hz
       have g3 := g3 hpl
       simp only [MSb, reduceCtorEq, p1_cRange_0, p1_cRange_1, p1_cRange_2, pA_cRange, ce_cRange, sp_cRange, g1, g2, g3]
       repeat' ((first | rw [gDp] | rw [gDb] | rw [cDp] | rw [cDnp] | rw [cDn] | rw [cDb]); split <;> try simp only [MSb, reduceCtorEq, *])
      ·simp only [MSb, reduceCtorEq, Int.lt_irrefl]
      ·intro j; simp only [MSb, reduceCtorEq]
      ·rw [← memB_map r.name (fun z : RangeD => z.name)]
       simp_all [MSb, reduceCtorEq]
       try (split <;> simp_all)
   ·intro u _; simp only [MSb, reduceCtorEq, Int.lt_irrefl]
   ·intro u _; simp only [MSb, reduceCtorEq]
   ·intros; simp only [MSb, reduceCtorEq]
 ·simp only [MSb, reduceCtorEq]
end Go.Proofs.Ytohbeolimnpehaa

/- The reference of package fixture: rigs and their parameters. -/
namespace Go.Proofs.Ytohbeolimnpehaa
set_option linter.unusedSectionVars false
set_option linter.unusedVariables false
set_option linter.unusedSimpArgs false
theorem CheckProfile2_eq (p : ProfileD) (hok : okProfile p) (σ : Heap) : m_R2_CheckProfile [.agg (cProfile p)] σ = some (.int .i64 (profileF p), σ) := by
 refine wrap_eq rfl ?_ rfl
 show r_R2_CheckProfile (.agg (cProfile p)) σ = _
 obtain ⟨pn, ps, l⟩ := p
 obtain ⟨hnm, hps, hokl⟩ := hok
 simp only at hnm hps hokl
 have hN := IsName1_eq _ hnm
 unfold r_R2_CheckProfile profileF
 simp only [MSb, reduceCtorEq, p1_cProfile_0, p1_cProfile_1, p1_cProfile_2, pA_cProfile, ce_cProfile, sp_cProfile, hN, Within1_eq]
 cases hn : nameB pn
 ·simp only [MSb, reduceCtorEq]
 cases hz : withinB ps 1 512
 ·simp only [MSb, reduceCtorEq]
 by_cases h0 : l.length = 0
 ·obtain rfl : l = [] := List.eq_nil_of_length_eq_zero h0
  simp [MSb, reduceCtorEq]
 have h0' : ¬ (l.length : Int) = 0 := by omega
 by_cases h40 : 40 < l.length
 ·have h40' : (40 : Int) < l.length := by omega
  simp only [MSb, reduceCtorEq, h0, h0', h40, h40']
 have h40' : ¬ (40 : Int) < l.length := by omega
 simp only [MSb, reduceCtorEq, h0, h0', h40, h40']
 refine (loop_pre (S := Unit) (R := Int) l (fun pre x _ => if chkX ps pre x = 0 then .go () else .out (chkX ps pre x))
  (fun pre _ => [.lbx (cProfile ⟨pn, ps, l⟩), .int .i64 0, .int .i64 (pre.length : Int)]) (fun pre _ => σ)
  (fun _ => (.exit 1, [.lbx (cProfile ⟨pn, ps, l⟩), .int .i64 0, .int .i64 (l.length : Int)], σ))
  (fun pre _ r => (.ret, [.lbx (cProfile ⟨pn, ps, l⟩), .int .i64 r, .int .i64 (pre.length : Int)], σ))
  (fun pre _ => ∀ y ∈ pre, 0 ≤ y.fine) () (fun _ => some (AV.int .i64 0, σ)) (fun r => some (AV.int .i64 r, σ)) ?_ ?_ (by simp) ?_ ?_ ?_).trans ?_
 ·intro pre x rest u hl hpre
  have hx := pre_get hl; have hlt := pre_lt hl; have hi1 : IntKind.i64.wrap ((pre.length : Int) + 1) = (pre.length : Int) + 1 := wrap64 (by unfold inI; omega); have hi2 : IntKind.i64.wrap ((pre.length : Int) - 1) = (pre.length : Int) - 1 := wrap64 (by unfold inI; omega); have hlt' : (pre.length : Int) < (l.length : Int) := by omega
  have hX := checkParam2_eq x (hokl.2 x (by rw [hl]; simp)) pre (by unfold mxl; omega) ps hpre σ
  have hia := iaddr_sl 7 cParam l hx
  have hst := sliceS_take 7 cParam l (k := pre.length) (by omega)
  rw [pre_take hl] at hst
  clear hl hx hlt hokl h40 h40' h0 h0' hnm hps hN hn hz hpre
  simp only [MSb, reduceCtorEq, p1_cParam_0, p1_cParam_1, p1_cParam_2, p1_cParam_3, p1_cParam_4, p1_cParam_5, p1_cParam_6, pA_cParam, ce_cParam, sp_cParam, p1_cProfile_0, p1_cProfile_1, p1_cProfile_2, pA_cProfile, ce_cProfile, sp_cProfile, hlt', hia, hst, hX, hi1]
  repeat' ((first | rw [gDp] | rw [gDb] | rw [cDp] | rw [cDnp] | rw [cDn] | rw [cDb]); split <;> try simp only [MSb, reduceCtorEq, p1_cParam_0, p1_cParam_1, p1_cParam_2, p1_cParam_3, p1_cParam_4, p1_cParam_5, p1_cParam_6, pA_cParam, ce_cParam, sp_cParam, *])
  all_goals first | with_reducible rfl | (simp [*]; done) | (simp_all; done) | (simp_all; omega) | rfl
 ·intro u _
  exact hend_lss _ _ _
 ·intro pre x rest s s' hl hpre hb y hy
  rcases List.mem_append.1 hy with hy | hy
  ·exact hpre y hy
  ·simp at hy; subst hy
   by_cases h : chkX ps pre y = 0
   ·exact chkX_fine h
   ·rw [if_neg h] at hb; cases hb
 ·intro u _; simp only [MSb, reduceCtorEq]
 ·intros; simp only [MSb, reduceCtorEq]
 ·refine (runP_fault (chk := chkP ps) ?_ ?_ (fun n => some (AV.int .i64 n, σ)) l []).trans ?_
  ·intro pre; rfl
  ·intro pre x rest; rw [chkP_cons]; simp only [el_ite, el_out, el_go]
  ·rfl
theorem CheckLibrary2_eq (l : List ProfileD) (hok : okL okProfile l) (σ : Heap) : m_R2_CheckLibrary [sl 3 cProfile l] σ = some (.int .i64 (libF l), σ) := by
 refine wrap_eq rfl ?_ rfl
 show r_R2_CheckLibrary (sl 3 cProfile l) σ = _
 unfold r_R2_CheckLibrary libF
 simp only [MSb, reduceCtorEq]
 by_cases h60 : 60 < l.length
 ·have h60' : (60 : Int) < l.length := by omega
  simp only [MSb, reduceCtorEq, h60, h60']
 have h60' : ¬ (60 : Int) < l.length := by omega
 simp only [MSb, reduceCtorEq, h60, h60']
 refine (loop_pre (S := Unit) (R := Int) l (fun pre x _ => if profileF x = 0 then (if memB x.name (pre.map (·.name)) = true then .out 6 else .go ()) else .out (profileF x))
  (fun pre _ => [.int .i64 0, .int .i64 (pre.length : Int)]) (fun pre _ => σ)
  (fun _ => (.exit 0, [.int .i64 0, .int .i64 (l.length : Int)], σ)) (fun pre _ r => (.ret, [.int .i64 r, .int .i64 (pre.length : Int)], σ))
  (fun _ _ => True) () (fun _ => some (AV.int .i64 0, σ)) (fun r => some (AV.int .i64 r, σ)) ?_ ?_ trivial (fun _ _ _ _ _ _ _ _ => trivial) ?_ ?_).trans ?_
 ·intro pre x rest u hl _
  have hx := pre_get hl; have hlt := pre_lt hl; have hi1 : IntKind.i64.wrap ((pre.length : Int) + 1) = (pre.length : Int) + 1 := wrap64 (by unfold inI; omega); have hi2 : IntKind.i64.wrap ((pre.length : Int) - 1) = (pre.length : Int) - 1 := wrap64 (by unfold inI; omega); have hlt' : (pre.length : Int) < (l.length : Int) := by omega
  have hP := CheckProfile2_eq x (hok.2 x (by rw [hl]; simp))
  have hia := iaddr_sl 3 cProfile l hx
  have hst := sliceS_take 3 cProfile l (k := pre.length) (by omega)
  rw [pre_take hl] at hst
  have hpl : pre.length ≤ mxl := by unfold mxl; omega
  clear hl hx hlt hok h60 h60'
  simp only [MSb, reduceCtorEq, p1_cProfile_0, p1_cProfile_1, p1_cProfile_2, pA_cProfile, ce_cProfile, sp_cProfile, hlt', hia, hi1, hst, hP]
  by_cases hp : profileF x = 0
  ·simp only [MSb, reduceCtorEq, hp]
   refine (loop_any pre (fun z => decide (z.name = x.name)) (fun j => [.int .i64 0, .lbx (cProfile x), .int .i64 (j : Int)]) σ (.exit 2, [.int .i64 0, .lbx (cProfile x), .int .i64 (pre.length : Int)], σ) (fun j => (.ret, [.int .i64 6, .lbx (cProfile x), .int .i64 (j : Int)], σ)) _ (some (.ret, [.int .i64 6, .int .i64 (pre.length : Int)], σ)) ?_ ?_ rfl ?_).trans ?_
   ·intro j z hz
    obtain ⟨g1, g2, g3⟩ := iaddr_at 3 cProfile hz
    have g3 := g3 hpl
    simp only [MSb, reduceCtorEq, p1_cProfile_0, p1_cProfile_1, p1_cProfile_2, pA_cProfile, ce_cProfile, sp_cProfile, g1, g2, g3]
    repeat' ((first | rw [gDp] | rw [gDb] | rw [cDp] | rw [cDnp] | rw [cDn] | rw [cDb]); split <;> try simp only [MSb, reduceCtorEq, *])
   ·simp only [MSb, reduceCtorEq, Int.lt_irrefl]
   ·intro j; simp only [MSb, reduceCtorEq]
   ·rw [← memB_map x.name (fun z : ProfileD => z.name)]
    simp only [MSb, reduceCtorEq, hi1]
    cases memB x.name (pre.map (·.name)) <;> simp [Rd.el]
  ·simp only [MSb, reduceCtorEq, hp]
 ·intro u _
  exact hend_lss _ _ _
 ·intro u _; simp only [MSb, reduceCtorEq]
 ·intros; simp only [MSb, reduceCtorEq]
 ·refine (runP_fault (chk := chkL) ?_ ?_ (fun n => some (AV.int .i64 n, σ)) l []).trans ?_
  ·intro pre; rfl
  ·intro pre x rest; rw [chkL]; simp only [el_ite, el_out, el_go]
  ·rfl
theorem last2_eq (r : RigD) (u : UnitD) (hl : r.library.length ≤ mxl) (h : inI (u.address + (profOf u.profile r.library).1.size)) (h' : inI (lastU r.library u)) (σ : Heap) : m_R2_last [.agg (cRig r), .agg (cUnit u)] σ = some (.int .i64 (lastU r.library u), σ) := by
 refine wrap_eq rfl ?_ rfl
 show r_R2_last (.agg (cRig r)) (.agg (cUnit u)) σ = _
 unfold r_R2_last
 unfold lastU at h' ⊢
 simp only [MSb, reduceCtorEq, p1_cRig_0, p1_cRig_1, pA_cRig, ce_cRig, sp_cRig, p1_cUnit_0, p1_cUnit_1, p1_cUnit_2, p1_cUnit_3, pA_cUnit, ce_cUnit, sp_cUnit, p1_cProfile_0, p1_cProfile_1, p1_cProfile_2, pA_cProfile, ce_cProfile, sp_cProfile, Profile2_eq _ hl, wrap64 h, wrap64 h']
end Go.Proofs.Ytohbeolimnpehaa

/- The reference of package fixture: rigs. -/
namespace Go.Proofs.Ytohbeolimnpehaa
set_option linter.unusedSectionVars false
set_option linter.unusedVariables false
set_option linter.unusedSimpArgs false
theorem ordB_cases {α : Type} (f : α → Int) {l pre rest : List α} {x : α} (h : l = pre ++ x :: rest) (n : Int) : (∃ y, 0 < pre.length ∧ l[pre.length - 1]? = some y ∧ ordB (pre.map f) n = decide (n ≤ f y)) ∨ (¬ 0 < pre.length ∧ ordB (pre.map f) n = false) := by
 by_cases h0 : 0 < pre.length
 ·obtain ⟨y, hy, hy2⟩ := pre_last h h0
  exact .inl ⟨y, h0, hy2, by simp [ordB, List.getLast?_map, hy]⟩
 ·obtain rfl : pre = [] := List.eq_nil_of_length_eq_zero (by omega)
  exact .inr ⟨h0, rfl⟩
theorem lastIn {r : RigD} {x : UnitD} (h : 1 ≤ x.address ∧ x.address ≤ lastU r.library x ∧ lastU r.library x ≤ 512) : inI (x.address + (profOf x.profile r.library).1.size) ∧ inI (lastU r.library x) := by
 unfold lastU at h ⊢
 unfold inI
 omega
theorem CheckRig2_eq (r : RigD) (hok : okRig r) (σ : Heap) : m_R2_CheckRig [.agg (cRig r)] σ = some (.int .i64 (rigF r), σ) := by
 refine wrap_eq rfl ?_ rfl
 show r_R2_CheckRig (.agg (cRig r)) σ = _
 obtain ⟨hlib, hus⟩ := hok
 have hmx := hlib.1
 unfold r_R2_CheckRig rigF
 simp only [MSb, reduceCtorEq, p1_cRig_0, p1_cRig_1, pA_cRig, ce_cRig, sp_cRig, CheckLibrary2_eq _ hlib]
 by_cases hf : libF r.library = 0
 case neg => simp only [MSb, reduceCtorEq, hf]
 by_cases h4 : 400 < r.units.length
 ·have h4' : (400 : Int) < r.units.length := by omega
  simp only [MSb, reduceCtorEq, p1_cRig_0, p1_cRig_1, pA_cRig, ce_cRig, sp_cRig, hf, h4, h4']
 have h4' : ¬ (400 : Int) < r.units.length := by omega
 simp only [MSb, reduceCtorEq, p1_cRig_0, p1_cRig_1, pA_cRig, ce_cRig, sp_cRig, hf, h4, h4']
 have hsizes := libF_sizes hf
 generalize hlq : r.units = l at *
 refine (loop_pre (S := Unit) (R := Int) l (fun pre u _ => if withinB u.number 1 9999 = false then .out 1
    else if ordB (pre.map (·.number)) u.number = true then .out 7
    else if (profOf u.profile r.library).2 = false then .out 5
    else if withinB u.univ 1 64 = false ∨ withinB u.address 1 512 = false ∨ 512 < lastU r.library u then .out 1
    else if clashU r.library u pre = true then .out 12 else .go ())
  (fun pre _ => [.lbx (cRig r), .int .i64 0, .int .i64 (pre.length : Int)]) (fun pre _ => σ)
  (fun _ => (.exit 0, [.lbx (cRig r), .int .i64 0, .int .i64 (l.length : Int)], σ)) (fun pre _ n => (.ret, [.lbx (cRig r), .int .i64 n, .int .i64 (pre.length : Int)], σ))
  (fun pre _ => UnitsOk r.library pre) () (fun _ => some (AV.int .i64 0, σ)) (fun n => some (AV.int .i64 n, σ)) ?_ ?_ (by intro x hx; simp at hx) ?_ ?_ ?_).trans ?_
 ·intro pre u rest s hl hP
  have hx := pre_get hl; have hlt := pre_lt hl; have hi1 : IntKind.i64.wrap ((pre.length : Int) + 1) = (pre.length : Int) + 1 := wrap64 (by unfold inI; omega); have hi2 : IntKind.i64.wrap ((pre.length : Int) - 1) = (pre.length : Int) - 1 := wrap64 (by unfold inI; omega); have hlt' : (pre.length : Int) < (l.length : Int) := by omega
  have hmp : pre.length ≤ mxl := by unfold mxl; omega
  have hia := iaddr_sl 4 cUnit l hx
  have hst := sliceS_take 4 cUnit l (k := pre.length) (by omega)
  rw [pre_take hl] at hst
  have hPr := Profile2_eq r.library hmx u.profile
  have ho := ordB_cases (·.number) hl u.number
  clear hus h4 h4' hl hx
  simp only [MSb, reduceCtorEq, p1_cUnit_0, p1_cUnit_1, p1_cUnit_2, p1_cUnit_3, pA_cUnit, ce_cUnit, sp_cUnit, p1_cRig_0, p1_cRig_1, pA_cRig, ce_cRig, sp_cRig, hlq, hlt', hia, hPr, p1_cProfile_0, p1_cProfile_1, p1_cProfile_2, pA_cProfile, ce_cProfile, sp_cProfile, Within1_eq]
  cases h1 : withinB u.number 1 9999
  ·simp only [MSb, reduceCtorEq]
  simp only [MSb, reduceCtorEq]
  rcases ho with ⟨y, h0, hy, ho⟩ | ⟨h0, ho⟩
  case' inl =>
   have h0' : (0 : Int) < pre.length := by omega
   have hia2 := iaddr_pred 4 cUnit l h0 hy
   by_cases hq : u.number ≤ y.number
   ·simp only [MSb, reduceCtorEq, p1_cUnit_0, p1_cUnit_1, p1_cUnit_2, p1_cUnit_3, pA_cUnit, ce_cUnit, sp_cUnit, p1_cRig_0, p1_cRig_1, pA_cRig, ce_cRig, sp_cRig, hlq, h0', hi2, hia2, ho, hq]
   simp only [MSb, reduceCtorEq, p1_cUnit_0, p1_cUnit_1, p1_cUnit_2, p1_cUnit_3, pA_cUnit, ce_cUnit, sp_cUnit, p1_cRig_0, p1_cRig_1, pA_cRig, ce_cRig, sp_cRig, hlq, h0', hi2, hia2, ho, hq]
  case' inr =>
   have h0' : ¬ (0 : Int) < pre.length := by omega
   simp only [MSb, reduceCtorEq, h0', ho]
  all_goals
   cases hp : (profOf u.profile r.library).2
   ·simp only [MSb, reduceCtorEq]
   have hsz := hsizes _ (profOf_mem _ _ hp)
   cases hu : withinB u.univ 1 64
   ·simp only [MSb, reduceCtorEq, p1_cUnit_0, p1_cUnit_1, p1_cUnit_2, p1_cUnit_3, pA_cUnit, ce_cUnit, sp_cUnit, Within1_eq, hu]
   cases ha : withinB u.address 1 512
   ·simp only [MSb, reduceCtorEq, p1_cUnit_0, p1_cUnit_1, p1_cUnit_2, p1_cUnit_3, pA_cUnit, ce_cUnit, sp_cUnit, Within1_eq, hu, ha]
   have ha' : 1 ≤ u.address ∧ u.address ≤ 512 := by simpa [withinB] using ha
   have hLu := last2_eq r u hmx (by unfold inI; omega) (by unfold lastU inI; omega)
   by_cases h5 : 512 < lastU r.library u
   ·simp only [MSb, reduceCtorEq, p1_cUnit_0, p1_cUnit_1, p1_cUnit_2, p1_cUnit_3, pA_cUnit, ce_cUnit, sp_cUnit, p1_cRig_0, p1_cRig_1, pA_cRig, ce_cRig, sp_cRig, Within1_eq, hu, ha, hLu, h5]
   simp only [MSb, reduceCtorEq, p1_cUnit_0, p1_cUnit_1, p1_cUnit_2, p1_cUnit_3, pA_cUnit, ce_cUnit, sp_cUnit, p1_cRig_0, p1_cRig_1, pA_cRig, ce_cRig, sp_cRig, Within1_eq, hu, ha, hLu, h5, hlq, hst]
   refine (loop_any pre (fun x => decide (x.univ = u.univ ∧ x.address ≤ lastU r.library u ∧ u.address ≤ lastU r.library x)) (fun j => [.lbx (cRig r), .int .i64 0, .lbx (cUnit u), .int .i64 (j : Int)]) σ (.exit 3, [.lbx (cRig r), .int .i64 0, .lbx (cUnit u), .int .i64 (pre.length : Int)], σ) (fun j => (.ret, [.lbx (cRig r), .int .i64 12, .lbx (cUnit u), .int .i64 (j : Int)], σ)) _ (some (.ret, [.lbx (cRig r), .int .i64 12, .int .i64 (pre.length : Int)], σ)) ?_ ?_ rfl ?_).trans ?_
   ·intro j z hz
    obtain ⟨g1, g2, g3⟩ := iaddr_at 4 cUnit hz
    have g3 := g3 hmp
    have hzo := lastIn (hP z (List.mem_of_getElem? hz))
    have hLz := last2_eq r z hmx hzo.1 hzo.2
    clear hP hsizes hz
    simp only [MSb, reduceCtorEq, p1_cUnit_0, p1_cUnit_1, p1_cUnit_2, p1_cUnit_3, pA_cUnit, ce_cUnit, sp_cUnit, p1_cRig_0, p1_cRig_1, pA_cRig, ce_cRig, sp_cRig, g1, g2, g3]
    repeat' ((first | rw [gDp] | rw [gDb] | rw [cDp] | rw [cDnp] | rw [cDn] | rw [cDb]); split <;> try simp only [MSb, reduceCtorEq, p1_cUnit_0, p1_cUnit_1, p1_cUnit_2, p1_cUnit_3, pA_cUnit, ce_cUnit, sp_cUnit, p1_cRig_0, p1_cRig_1, pA_cRig, ce_cRig, sp_cRig, hLu, hLz, *])
    all_goals first | with_reducible rfl | (simp [*]; done) | (simp_all; done) | (simp_all; omega) | rfl
   ·exact hend_lss _ _ _
   ·intro j; simp only [MSb, reduceCtorEq]
   ·unfold clashU
    simp only [MSb, reduceCtorEq, hi1]
    cases pre.any (fun x => decide (x.univ = u.univ ∧ x.address ≤ lastU r.library u ∧ u.address ≤ lastU r.library x)) <;> simp [Rd.el]
 ·intro u _
  exact hend_lss _ _ _
 ·intro pre u rest s s' hl hP hb
  split at hb
  ·cases hb
  split at hb
  ·cases hb
  split at hb
  ·cases hb
  rename_i hp
  split at hb
  ·cases hb
  rename_i hw
  simp only [not_or, Bool.not_eq_false, withinB, Bool.and_eq_true, decide_eq_true_eq] at hw hp
  have hsz := hsizes _ (profOf_mem _ _ (by simpa using hp))
  exact hP.snoc ⟨hw.2.1.1, by unfold lastU; omega, by omega⟩
 ·intro u _; simp only [MSb, reduceCtorEq]
 ·intros; simp only [MSb, reduceCtorEq]
 ·refine (runP_fault (chk := chkU r.library) ?_ ?_ (fun n => some (AV.int .i64 n, σ)) l []).trans ?_
  ·intro pre; rfl
  ·intro pre x rest; rw [chkU]; simp only [el_ite, el_out, el_go]
  ·rfl
end Go.Proofs.Ytohbeolimnpehaa

