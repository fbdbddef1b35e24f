/- Parts of the proof of CueCleansMatchSpec, in order. -/
import Derived.Orders
import Derived.Below
import Derived.WalkKit
import Derived.Laws.StructEq
import Derived.Laws.Append
import Derived.Laws.AppendOwn
import Derived.IntWalk
import Derived.Lib.Bytealg
import Derived.Sort.Defs
import Derived.Lib.BitFns
import Derived.Lib.Strings
import Derived.Test.YtphgchakmkankaaKCueCleansMatchSpec3
namespace Go.Proofs.Ytphgchakmkankaa
set_option linter.unusedSectionVars false
set_option linter.unusedSimpArgs false
set_option linter.unusedVariables false
set_option maxRecDepth 100000
noncomputable def r_R5_checkMove (a0 a1 : AV) (σ : Heap) : Option (AV × Heap) :=
 (A.cells 8 a0).bind fun c1 =>
 (A.part1 0 c1).bind fun x2 =>
 (m_R1_Within [x2, (AV.int .i64 1), (AV.int .i64 9999)] σ).bind fun r3 =>
 (A.not r3.1).bind fun x4 =>
 A.cond x4 (
  A.fin σ (AV.int .i64 1) r3.2) (
  (A.part1 1 c1).bind fun x5 =>
  (m_R1_IsName [x5] r3.2).bind fun r6 =>
  (A.not r6.1).bind fun x7 =>
  A.cond x7 (
   A.fin σ (AV.int .i64 5) r6.2) (
   (A.part1 4 c1).bind fun x8 =>
   (A.guard x8 true (A.partA 2 2 c1) (some (AV.tup []))).bind fun x9 =>
   (A.guard x8 true (some (AV.agg [(AV.int .i64 0), (AV.int .i64 0)])) (some (AV.tup []))).bind fun x10 =>
   (A.guard x8 true (A.neq (.s [0, 0]) x9 x10) (some (AV.tup []))).bind fun x11 =>
   (A.pick x8 x11 (AV.bool false)).bind fun x12 =>
   (A.guard x12 false (A.part1 2 c1) (some (AV.tup []))).bind fun x13 =>
   (A.guard x12 false (A.neq .i x13 (AV.int .i64 0)) (some (AV.tup []))).bind fun x14 =>
   (A.guard x12 false (some x14) (some (AV.tup []))).bind fun x15 =>
   (A.guard x15 true (A.part1 3 c1) (some (AV.tup []))).bind fun x16 =>
   (A.guard x15 true (A.neq .i x16 (AV.int .i64 0)) (some (AV.tup []))).bind fun x17 =>
   (A.guard x12 false (A.pick x15 x17 (AV.bool false)) (some (AV.tup []))).bind fun x18 =>
   (A.pick x12 (AV.bool true) x18).bind fun x19 =>
   A.cond x19 (
    A.fin σ (AV.int .i64 3) r6.2) (
    (A.part1 2 c1).bind fun x20 =>
    (m_R1_IsLevel [x20] r6.2).bind fun r21 =>
    (A.not r21.1).bind fun x22 =>
    (A.guard x22 false (A.part1 3 c1) (some (AV.tup []))).bind fun x23 =>
    (A.guard x22 false (A.quiet (m_R1_Within [x23, (AV.int .i64 0), (AV.int .i64 999)] r21.2) r21.2) (some (AV.tup []))).bind fun x24 =>
    (A.guard x22 false (A.not x24) (some (AV.tup []))).bind fun x25 =>
    (A.pick x22 (AV.bool true) x25).bind fun x26 =>
    A.cond x26 (
     A.fin σ (AV.int .i64 1) r21.2) (
     (A.part1 5 c1).bind fun x27 =>
     (A.not x27).bind fun x28 =>
     (A.guard x28 true (A.part1 6 c1) (some (AV.tup []))).bind fun x29 =>
     (A.guard x28 true (A.neq .i x29 (AV.int .i64 0)) (some (AV.tup []))).bind fun x30 =>
     (A.guard x28 true (some x30) (some (AV.tup []))).bind fun x31 =>
     (A.guard x31 false (A.part1 7 c1) (some (AV.tup []))).bind fun x32 =>
     (A.guard x31 false (A.neq .i x32 (AV.int .i64 0)) (some (AV.tup []))).bind fun x33 =>
     (A.guard x28 true (A.pick x31 (AV.bool true) x33) (some (AV.tup []))).bind fun x34 =>
     (A.pick x28 x34 (AV.bool false)).bind fun x35 =>
     A.cond x35 (
      A.fin σ (AV.int .i64 3) r21.2) (
      (A.part1 6 c1).bind fun x36 =>
      (m_R1_IsTime [x36] r21.2).bind fun r37 =>
      (A.not r37.1).bind fun x38 =>
      (A.guard x38 false (A.part1 7 c1) (some (AV.tup []))).bind fun x39 =>
      (A.guard x38 false (A.quiet (m_R1_IsTime [x39] r37.2) r37.2) (some (AV.tup []))).bind fun x40 =>
      (A.guard x38 false (A.not x40) (some (AV.tup []))).bind fun x41 =>
      (A.pick x38 (AV.bool true) x41).bind fun x42 =>
      A.cond x42 (
       A.fin σ (AV.int .i64 1) r37.2) (
       (A.lenS a1).bind fun x43 =>
       (A.gtr x43 (AV.int .i64 0)).bind fun x44 =>
       (A.guard x44 true (some a1) (some (AV.tup []))).bind fun x45 =>
       (A.guard x44 true (some a1) (some (AV.tup []))).bind fun x46 =>
       (A.guard x44 true (A.lenS x46) (some (AV.tup []))).bind fun x47 =>
       (A.guard x44 true (A.sub x47 (AV.int .i64 1)) (some (AV.tup []))).bind fun x48 =>
       (A.guard x44 true (A.iaddr 8 x45 x48) (some (AV.tup []))).bind fun x49 =>
       (A.guard x44 true (A.faddr 0 x49) (some (AV.tup []))).bind fun x50 =>
       (A.guard x44 true ((A.deref x50 r37.2).bind fun c51 => A.partA 0 2 c51) (some (AV.tup []))).bind fun x52 =>
       (A.guard x44 true (A.partA 0 2 c1) (some (AV.tup []))).bind fun x53 =>
       (A.guard x44 true (A.quiet (m_R4_Before [x52, x53] r37.2) r37.2) (some (AV.tup []))).bind fun x54 =>
       (A.guard x44 true (A.not x54) (some (AV.tup []))).bind fun x55 =>
       (A.pick x44 x55 (AV.bool false)).bind fun x56 =>
       A.cond x56 (
        A.fin σ (AV.int .i64 7) r37.2) (
        A.fin σ (AV.int .i64 0) r37.2)))))))
noncomputable def m_R5_checkMove : List AV → Heap → Option (AV × Heap) := A.wrap true [.k, (.s 8)] .k (A.ar2 r_R5_checkMove)
noncomputable def r_R5_checkMoves (a0 : AV) (σ : Heap) : Option (AV × Heap) :=
 (A.lenS a0).bind fun x1 =>
 (A.gtr x1 (AV.int .i64 2000)).bind fun x2 =>
 A.cond x2 (
  A.fin σ (AV.int .i64 2) σ) (
  (A.lenS a0).bind fun x3 =>
  (A.loop (fun v4 s5 =>
    (A.lss (v4.getD 1 AV.undef) x3).bind fun x7 =>
    A.cond x7 (
     (A.iaddr 8 a0 (v4.getD 1 AV.undef)).bind fun x8 =>
     ((A.deref x8 s5).bind fun c9 => A.partA 0 8 c9).bind fun x10 =>
     (A.cells 8 x10).bind fun c11 =>
     (A.splice 0 c11 [(AV.int .i64 0), (AV.str ⟨#[]⟩), (AV.int .i64 0), (AV.int .i64 0), (AV.bool false), (AV.bool false), (AV.int .i64 0), (AV.int .i64 0)]).bind fun c12 =>
     (A.partA 0 8 c12).bind fun x13 =>
     (A.sliceS 8 a0 none (some (v4.getD 1 AV.undef)) s5).bind fun x14 =>
     (A.quiet (m_R5_checkMove [x13, x14] s5) s5).bind fun x15 =>
     (A.neq .i x15 (AV.int .i64 0)).bind fun x16 =>
     A.cond x16 (
      some (AX.ret, [x15, (v4.getD 1 AV.undef)], s5)) (
      (A.add (v4.getD 1 AV.undef) (AV.int .i64 1)).bind fun x17 =>
      some (AX.normal, [(v4.getD 0 AV.undef), x17], s5))) (
     some (AX.exit 0, [(v4.getD 0 AV.undef), (v4.getD 1 AV.undef)], s5))) [(AV.int .i64 0), (AV.int .i64 0)] σ).bind fun r18 =>
  bif r18.1 == AX.exit 0 then (
   A.fin σ (AV.int .i64 0) r18.2.2) else
  bif r18.1 == AX.ret then (
   A.fin σ (r18.2.1.getD 0 AV.undef) r18.2.2) else
  none)
noncomputable def m_R5_checkMoves : List AV → Heap → Option (AV × Heap) := A.wrap true [(.s 8)] .k (A.ar1 r_R5_checkMoves)
noncomputable def r_R5_CheckForm (a0 : AV) (σ : Heap) : Option (AV × Heap) :=
 (A.lenS a0).bind fun x1 =>
 (A.gtr x1 (AV.int .i64 300)).bind fun x2 =>
 A.cond x2 (
  A.fin σ (AV.int .i64 2) σ) (
  (A.lenS a0).bind fun x3 =>
  (A.loop (fun v4 s5 =>
    (A.lss (v4.getD 2 AV.undef) x3).bind fun x7 =>
    A.cond x7 (
     (A.iaddr 11 a0 (v4.getD 2 AV.undef)).bind fun x8 =>
     ((A.deref x8 s5).bind fun c9 => A.partA 0 11 c9).bind fun x10 =>
     (A.cells 11 x10).bind fun c11 =>
     (A.splice 0 c11 [(AV.int .i64 0), (AV.str ⟨#[]⟩), (AV.int .i64 0), (AV.int .i64 0), (AV.int .i64 0), (AV.int .i64 0), (AV.int .i64 0), AV.nsl, (AV.bool false), (AV.int .i64 0), AV.nsl]).bind fun c12 =>
     (A.part1 0 c12).bind fun x13 =>
     (m_R1_Within [x13, (AV.int .i64 1), (AV.int .i64 9999999)] s5).bind fun r14 =>
     (A.not r14.1).bind fun x15 =>
     A.cond x15 (
      some (AX.ret, [(AV.int .i64 1), (v4.getD 1 AV.undef), (v4.getD 2 AV.undef)], r14.2)) (
      (A.gtr (v4.getD 2 AV.undef) (AV.int .i64 0)).bind fun x16 =>
      (A.guard x16 true (A.part1 0 c12) (some (AV.tup []))).bind fun x17 =>
      (A.guard x16 true (some a0) (some (AV.tup []))).bind fun x18 =>
      (A.guard x16 true (some (v4.getD 2 AV.undef)) (some (AV.tup []))).bind fun x19 =>
      (A.guard x16 true (A.sub x19 (AV.int .i64 1)) (some (AV.tup []))).bind fun x20 =>
      (A.guard x16 true (A.iaddr 11 x18 x20) (some (AV.tup []))).bind fun x21 =>
      (A.guard x16 true (A.faddr 0 x21) (some (AV.tup []))).bind fun x22 =>
      (A.guard x16 true ((A.deref x22 r14.2).bind fun c23 => A.part1 0 c23) (some (AV.tup []))).bind fun x24 =>
      (A.guard x16 true (A.leq x17 x24) (some (AV.tup []))).bind fun x25 =>
      (A.pick x16 x25 (AV.bool false)).bind fun x26 =>
      A.cond x26 (
       some (AX.ret, [(AV.int .i64 7), (v4.getD 1 AV.undef), (v4.getD 2 AV.undef)], r14.2)) (
       (A.part1 1 c12).bind fun x27 =>
       (A.neq .z x27 (AV.str ⟨#[]⟩)).bind fun x28 =>
       (A.guard x28 true (A.part1 1 c12) (some (AV.tup []))).bind fun x29 =>
       (A.guard x28 true (A.quiet (m_R1_IsTitle [x29] r14.2) r14.2) (some (AV.tup []))).bind fun x30 =>
       (A.guard x28 true (A.not x30) (some (AV.tup []))).bind fun x31 =>
       (A.pick x28 x31 (AV.bool false)).bind fun x32 =>
       A.cond x32 (
        some (AX.ret, [(AV.int .i64 3), (v4.getD 1 AV.undef), (v4.getD 2 AV.undef)], r14.2)) (
        (A.part1 2 c12).bind fun x33 =>
        (m_R1_IsTime [x33] r14.2).bind fun r34 =>
        (A.not r34.1).bind fun x35 =>
        (A.guard x35 false (A.part1 3 c12) (some (AV.tup []))).bind fun x36 =>
        (A.guard x35 false (A.quiet (m_R1_IsTime [x36] r34.2) r34.2) (some (AV.tup []))).bind fun x37 =>
        (A.guard x35 false (A.not x37) (some (AV.tup []))).bind fun x38 =>
        (A.pick x35 (AV.bool true) x38).bind fun x39 =>
        (A.guard x39 false (A.part1 4 c12) (some (AV.tup []))).bind fun x40 =>
        (A.guard x39 false (A.quiet (m_R1_IsTime [x40] r34.2) r34.2) (some (AV.tup []))).bind fun x41 =>
        (A.guard x39 false (A.not x41) (some (AV.tup []))).bind fun x42 =>
        (A.pick x39 (AV.bool true) x42).bind fun x43 =>
        (A.guard x43 false (A.part1 5 c12) (some (AV.tup []))).bind fun x44 =>
        (A.guard x43 false (A.quiet (m_R1_IsTime [x44] r34.2) r34.2) (some (AV.tup []))).bind fun x45 =>
        (A.guard x43 false (A.not x45) (some (AV.tup []))).bind fun x46 =>
        (A.pick x43 (AV.bool true) x46).bind fun x47 =>
        (A.guard x47 false (A.part1 9 c12) (some (AV.tup []))).bind fun x48 =>
        (A.guard x47 false (A.quiet (m_R1_Within [x48, (AV.int .i64 (-1)), (AV.int .i64 36000000)] r34.2) r34.2) (some (AV.tup []))).bind fun x49 =>
        (A.guard x47 false (A.not x49) (some (AV.tup []))).bind fun x50 =>
        (A.pick x47 (AV.bool true) x50).bind fun x51 =>
        A.cond x51 (
         some (AX.ret, [(AV.int .i64 1), (v4.getD 1 AV.undef), (v4.getD 2 AV.undef)], r34.2)) (
         (A.partA 6 2 c12).bind fun x52 =>
         (m_R1_CheckCurve [x52] r34.2).bind fun r53 =>
         (A.neq .i r53.1 (AV.int .i64 0)).bind fun x54 =>
         A.cond x54 (
          some (AX.ret, [r53.1, (v4.getD 1 AV.undef), (v4.getD 2 AV.undef)], r53.2)) (
          (A.part1 10 c12).bind fun x55 =>
          (m_R5_checkMoves [x55] r53.2).bind fun r56 =>
          (A.neq .i r56.1 (AV.int .i64 0)).bind fun x57 =>
          A.cond x57 (
           some (AX.ret, [r56.1, (v4.getD 1 AV.undef), (v4.getD 2 AV.undef)], r56.2)) (
           (A.part1 10 c12).bind fun x58 =>
           (A.lenS x58).bind fun x59 =>
           (A.add (v4.getD 1 AV.undef) x59).bind fun x60 =>
           (A.add (v4.getD 2 AV.undef) (AV.int .i64 1)).bind fun x61 =>
           some (AX.normal, [(v4.getD 0 AV.undef), x60, x61], r56.2)))))))) (
     some (AX.exit 0, [(v4.getD 0 AV.undef), (v4.getD 1 AV.undef), (v4.getD 2 AV.undef)], s5))) [(AV.int .i64 0), (AV.int .i64 0), (AV.int .i64 0)] σ).bind fun r62 =>
  bif r62.1 == AX.exit 0 then (
   (A.gtr (r62.2.1.getD 1 AV.undef) (AV.int .i64 10000)).bind fun x63 =>
   A.cond x63 (
    A.fin σ (AV.int .i64 2) r62.2.2) (
    A.fin σ (AV.int .i64 0) r62.2.2)) else
  bif r62.1 == AX.ret then (
   A.fin σ (r62.2.1.getD 0 AV.undef) r62.2.2) else
  none)
noncomputable def m_R5_CheckForm : List AV → Heap → Option (AV × Heap) := A.wrap true [(.e 11 [.k, .k, .k, .k, .k, .k, .k, (.s 2), .k, .k, (.s 8)])] .k (A.ar1 r_R5_CheckForm)
noncomputable def r_R5_place (a0 a1 : AV) (σ : Heap) : Option (AV × Heap) :=
 (A.cells 2 a1).bind fun c1 =>
 (A.loop (fun v2 s3 =>
   (A.lenS a0).bind fun x5 =>
   (A.lss (v2.getD 1 AV.undef) x5).bind fun x6 =>
   (A.guard x6 true (some a0) (some (AV.tup []))).bind fun x7 =>
   (A.guard x6 true (some (v2.getD 1 AV.undef)) (some (AV.tup []))).bind fun x8 =>
   (A.guard x6 true (A.iaddr 5 x7 x8) (some (AV.tup []))).bind fun x9 =>
   (A.guard x6 true (A.faddr 0 x9) (some (AV.tup []))).bind fun x10 =>
   (A.guard x6 true ((A.deref x10 s3).bind fun c11 => A.partA 0 2 c11) (some (AV.tup []))).bind fun x12 =>
   (A.guard x6 true ((A.lb (v2.getD 0 AV.undef)).bind fun c13 => A.partA 0 2 c13) (some (AV.tup []))).bind fun x14 =>
   (A.guard x6 true (A.quiet (m_R4_Before [x12, x14] s3) s3) (some (AV.tup []))).bind fun x15 =>
   (A.pick x6 x15 (AV.bool false)).bind fun x16 =>
   A.cond x16 (
    (A.add (v2.getD 1 AV.undef) (AV.int .i64 1)).bind fun x17 =>
    some (AX.normal, [(v2.getD 0 AV.undef), x17], s3)) (
    some (AX.exit 0, [(v2.getD 0 AV.undef), (v2.getD 1 AV.undef)], s3))) [(AV.lbx c1), (AV.int .i64 0)] σ).bind fun r18 =>
 bif r18.1 == AX.exit 0 then (
  (A.lenS a0).bind fun x19 =>
  (A.lss (r18.2.1.getD 1 AV.undef) x19).bind fun x20 =>
  (A.guard x20 true (some a0) (some (AV.tup []))).bind fun x21 =>
  (A.guard x20 true (some (r18.2.1.getD 1 AV.undef)) (some (AV.tup []))).bind fun x22 =>
  (A.guard x20 true (A.iaddr 5 x21 x22) (some (AV.tup []))).bind fun x23 =>
  (A.guard x20 true (A.faddr 0 x23) (some (AV.tup []))).bind fun x24 =>
  (A.guard x20 true ((A.deref x24 r18.2.2).bind fun c25 => A.partA 0 2 c25) (some (AV.tup []))).bind fun x26 =>
  (A.guard x20 true ((A.lb (r18.2.1.getD 0 AV.undef)).bind fun c27 => A.partA 0 2 c27) (some (AV.tup []))).bind fun x28 =>
  (A.guard x20 true (A.eql (.s [0, 2]) x26 x28) (some (AV.tup []))).bind fun x29 =>
  (A.pick x20 x29 (AV.bool false)).bind fun x30 =>
  A.fin σ (AV.tup [(r18.2.1.getD 1 AV.undef), x30]) r18.2.2) else
 none
noncomputable def m_R5_place : List AV → Heap → Option (AV × Heap) := A.wrap true [(.s 5)] .k (A.ar2 r_R5_place)
noncomputable def r_R5_after (a0 a1 : AV) (σ : Heap) : Option (AV × Heap) :=
 (A.cells 11 a1).bind fun c1 =>
 (m_slices_Clone_api_Entry [a0] σ).bind fun r2 =>
 (A.part1 10 c1).bind fun x3 =>
 (A.lenS x3).bind fun x4 =>
 (A.loop (fun v5 s6 =>
   (A.lss (v5.getD 2 AV.undef) x4).bind fun x8 =>
   A.cond x8 (
    (A.iaddr 8 x3 (v5.getD 2 AV.undef)).bind fun x9 =>
    ((A.deref x9 s6).bind fun c10 => A.partA 0 8 c10).bind fun x11 =>
    (A.cells 8 x11).bind fun c12 =>
    (A.splice 0 c12 [(AV.int .i64 0), (AV.str ⟨#[]⟩), (AV.int .i64 0), (AV.int .i64 0), (AV.bool false), (AV.bool false), (AV.int .i64 0), (AV.int .i64 0)]).bind fun c13 =>
    (A.partA 0 2 c13).bind fun x14 =>
    (m_R5_place [(v5.getD 1 AV.undef), x14] s6).bind fun r15 =>
    (A.ext 0 r15.1).bind fun x16 =>
    (A.ext 1 r15.1).bind fun x17 =>
    (A.cond x17 (
     (A.add x16 (AV.int .i64 1)).bind fun x19 =>
     (m_slices_Delete_api_Entry [(v5.getD 1 AV.undef), x16, x19] r15.2).bind fun r20 =>
     some ([(v5.getD 0 AV.undef), r20.1, (AV.lbx c13)], r20.2)) (
     some ([(v5.getD 0 AV.undef), (v5.getD 1 AV.undef), (AV.lbx c13)], r15.2))).bind fun r18 =>
    ((A.lb (r18.1.getD 2 AV.undef)).bind fun _ => some (4)).bind fun p21 =>
    ((A.lb (r18.1.getD 2 AV.undef)).bind fun c22 => A.part1 p21 c22).bind fun x23 =>
    (A.not x23).bind fun x24 =>
    (A.cond x24 (
     ((A.lb (r18.1.getD 2 AV.undef)).bind fun _ => some (0)).bind fun p26 =>
     ((A.lb (r18.1.getD 2 AV.undef)).bind fun c27 => A.partA p26 2 c27).bind fun x28 =>
     ((A.lb (r18.1.getD 2 AV.undef)).bind fun _ => some (2)).bind fun p29 =>
     ((A.lb (r18.1.getD 2 AV.undef)).bind fun c30 => A.partA p29 2 c30).bind fun x31 =>
     ((A.lb (r18.1.getD 0 AV.undef)).bind fun _ => some (0)).bind fun p32 =>
     ((A.lb (r18.1.getD 0 AV.undef)).bind fun c33 => A.part1 p32 c33).bind fun x34 =>
     (((A.cells 2 x28).bind fun c35 => (A.splice 0 c35 [(AV.int .i64 0), (AV.str ⟨#[]⟩), (AV.int .i64 0), (AV.int .i64 0), (AV.int .i64 0)]).bind fun c36 => (A.cells 2 x31).bind fun c37 => (A.splice 2 c37 c36).bind fun c38 => ((A.cell x34).bind fun v => some [v]).bind fun c39 => (A.splice 4 c39 c38).bind fun c40 => some c40).bind fun cs => some (AV.agg cs)).bind fun x41 =>
     (((A.cells 5 x41).bind fun c42 => (A.splice 0 c42 [(AV.int .i64 0), (AV.str ⟨#[]⟩), (AV.int .i64 0), (AV.int .i64 0), (AV.int .i64 0)]).bind fun c43 => some c43).bind fun cs => some (AV.sl 5 (chunks 5 1 cs))).bind fun x44 =>
     (m_slices_Insert_api_Entry [(r18.1.getD 1 AV.undef), x16, x44] r18.2).bind fun r45 =>
     some ([(r18.1.getD 0 AV.undef), r45.1], r45.2)) (
     some ([(r18.1.getD 0 AV.undef), (r18.1.getD 1 AV.undef)], r18.2))).bind fun r25 =>
    (A.add (v5.getD 2 AV.undef) (AV.int .i64 1)).bind fun x46 =>
    some (AX.normal, [(r25.1.getD 0 AV.undef), (r25.1.getD 1 AV.undef), x46], r25.2)) (
    some (AX.exit 0, [(v5.getD 0 AV.undef), (v5.getD 1 AV.undef), (v5.getD 2 AV.undef)], s6))) [(AV.lbx c1), r2.1, (AV.int .i64 0)] r2.2).bind fun r47 =>
 bif r47.1 == AX.exit 0 then (
  some ((r47.2.1.getD 1 AV.undef), r47.2.2)) else
 none
noncomputable def m_R5_after : List AV → Heap → Option (AV × Heap) := A.wrap true [(.s 5), (.a [.k, .k, .k, .k, .k, .k, .k, (.s 2), .k, .k, (.s 8)])] .k (A.ar2 r_R5_after)
noncomputable def r_R5_Before (a0 a1 : AV) (σ : Heap) : Option (AV × Heap) :=
 (A.sliceS 11 a0 none (some a1) σ).bind fun x1 =>
 (A.lenS x1).bind fun x2 =>
 (A.loop (fun v3 s4 =>
   (A.lss (v3.getD 1 AV.undef) x2).bind fun x6 =>
   A.cond x6 (
    (A.iaddr 11 x1 (v3.getD 1 AV.undef)).bind fun x7 =>
    ((A.deref x7 s4).bind fun c8 => A.partA 0 11 c8).bind fun x9 =>
    (A.cells 11 x9).bind fun c10 =>
    (A.splice 0 c10 [(AV.int .i64 0), (AV.str ⟨#[]⟩), (AV.int .i64 0), (AV.int .i64 0), (AV.int .i64 0), (AV.int .i64 0), (AV.int .i64 0), AV.nsl, (AV.bool false), (AV.int .i64 0), AV.nsl]).bind fun c11 =>
    (A.partA 0 11 c11).bind fun x12 =>
    (m_R5_after [(v3.getD 0 AV.undef), x12] s4).bind fun r13 =>
    (A.add (v3.getD 1 AV.undef) (AV.int .i64 1)).bind fun x14 =>
    some (AX.normal, [r13.1, x14], r13.2)) (
    some (AX.exit 0, [(v3.getD 0 AV.undef), (v3.getD 1 AV.undef)], s4))) [AV.nsl, (AV.int .i64 0)] σ).bind fun r15 =>
 bif r15.1 == AX.exit 0 then (
  some ((r15.2.1.getD 0 AV.undef), r15.2.2)) else
 none
noncomputable def m_R5_Before : List AV → Heap → Option (AV × Heap) := A.wrap true [(.e 11 [.k, .k, .k, .k, .k, .k, .k, (.s 2), .k, .k, (.s 8)])] .k (A.ar2 r_R5_Before)
noncomputable def r_R5_cloned (a0 : AV) (σ : Heap) : Option (AV × Heap) :=
 (m_slices_Clone_api_Cue [a0] σ).bind fun r1 =>
 (A.lenS r1.1).bind fun x2 =>
 (A.loop (fun v3 s4 =>
   (A.lss (v3.getD 0 AV.undef) x2).bind fun x6 =>
   A.cond x6 (
    (A.iaddr 11 r1.1 (v3.getD 0 AV.undef)).bind fun x7 =>
    (A.faddr 10 x7).bind fun x8 =>
    ((A.deref x8 s4).bind fun c9 => A.part1 0 c9).bind fun x10 =>
    (m_slices_Clone_api_Move [x10] s4).bind fun r11 =>
    (A.iaddr 11 r1.1 (v3.getD 0 AV.undef)).bind fun x12 =>
    (A.faddr 10 x12).bind fun x13 =>
    ((A.cell r11.1).bind fun v => some [v]).bind fun c14 =>
    (A.storeAt x13 c14 r11.2).bind fun c15 =>
    (A.iaddr 11 r1.1 (v3.getD 0 AV.undef)).bind fun x16 =>
    (A.faddr 6 x16).bind fun x17 =>
    (A.faddr 1 x17).bind fun x18 =>
    ((A.deref x18 c15).bind fun c19 => A.part1 0 c19).bind fun x20 =>
    (m_slices_Clone_api_Point [x20] c15).bind fun r21 =>
    (A.iaddr 11 r1.1 (v3.getD 0 AV.undef)).bind fun x22 =>
    (A.faddr 6 x22).bind fun x23 =>
    (A.faddr 1 x23).bind fun x24 =>
    ((A.cell r21.1).bind fun v => some [v]).bind fun c25 =>
    (A.storeAt x24 c25 r21.2).bind fun c26 =>
    (A.add (v3.getD 0 AV.undef) (AV.int .i64 1)).bind fun x27 =>
    some (AX.normal, [x27], c26)) (
    some (AX.exit 0, [(v3.getD 0 AV.undef)], s4))) [(AV.int .i64 0)] r1.2).bind fun r28 =>
 bif r28.1 == AX.exit 0 then (
  some (r1.1, r28.2.2)) else
 none
noncomputable def m_R5_cloned : List AV → Heap → Option (AV × Heap) := A.wrap true [(.e 11 [.k, .k, .k, .k, .k, .k, .k, (.s 2), .k, .k, (.s 8)])] .k (A.ar1 r_R5_cloned)
noncomputable def r_R5_At (a0 a1 : AV) (σ : Heap) : Option (AV × Heap) :=
 (A.lenS a0).bind fun x1 =>
 (A.loop (fun v2 s3 =>
   (A.lss (v2.getD 1 AV.undef) x1).bind fun x5 =>
   A.cond x5 (
    (A.iaddr 11 a0 (v2.getD 1 AV.undef)).bind fun x6 =>
    ((A.deref x6 s3).bind fun c7 => A.partA 0 11 c7).bind fun x8 =>
    (A.cells 11 x8).bind fun c9 =>
    (A.splice 0 c9 [(AV.int .i64 0), (AV.str ⟨#[]⟩), (AV.int .i64 0), (AV.int .i64 0), (AV.int .i64 0), (AV.int .i64 0), (AV.int .i64 0), AV.nsl, (AV.bool false), (AV.int .i64 0), AV.nsl]).bind fun c10 =>
    (A.part1 0 c10).bind fun x11 =>
    (A.eql .i x11 a1).bind fun x12 =>
    A.cond x12 (
     some (AX.ret, [(v2.getD 1 AV.undef), (v2.getD 1 AV.undef)], s3)) (
     (A.add (v2.getD 1 AV.undef) (AV.int .i64 1)).bind fun x13 =>
     some (AX.normal, [(v2.getD 0 AV.undef), x13], s3))) (
    some (AX.exit 0, [(v2.getD 0 AV.undef), (v2.getD 1 AV.undef)], s3))) [(AV.int .i64 0), (AV.int .i64 0)] σ).bind fun r14 =>
 bif r14.1 == AX.exit 0 then (
  A.fin σ (AV.int .i64 (-1)) r14.2.2) else
 bif r14.1 == AX.ret then (
  A.fin σ (r14.2.1.getD 0 AV.undef) r14.2.2) else
 none
noncomputable def m_R5_At : List AV → Heap → Option (AV × Heap) := A.wrap true [(.e 11 [.k, .k, .k, .k, .k, .k, .k, (.s 2), .k, .k, (.s 8)])] .k (A.ar2 r_R5_At)
noncomputable def r_R5_moveOf (a0 a1 : AV) (σ : Heap) : Option (AV × Heap) :=
 (A.cells 2 a1).bind fun c1 =>
 (A.loop (fun v2 s3 =>
   (A.lenS a0).bind fun x5 =>
   (A.lss (v2.getD 1 AV.undef) x5).bind fun x6 =>
   (A.guard x6 true (some a0) (some (AV.tup []))).bind fun x7 =>
   (A.guard x6 true (some (v2.getD 1 AV.undef)) (some (AV.tup []))).bind fun x8 =>
   (A.guard x6 true (A.iaddr 8 x7 x8) (some (AV.tup []))).bind fun x9 =>
   (A.guard x6 true (A.faddr 0 x9) (some (AV.tup []))).bind fun x10 =>
   (A.guard x6 true ((A.deref x10 s3).bind fun c11 => A.partA 0 2 c11) (some (AV.tup []))).bind fun x12 =>
   (A.guard x6 true ((A.lb (v2.getD 0 AV.undef)).bind fun c13 => A.partA 0 2 c13) (some (AV.tup []))).bind fun x14 =>
   (A.guard x6 true (A.quiet (m_R4_Before [x12, x14] s3) s3) (some (AV.tup []))).bind fun x15 =>
   (A.pick x6 x15 (AV.bool false)).bind fun x16 =>
   A.cond x16 (
    (A.add (v2.getD 1 AV.undef) (AV.int .i64 1)).bind fun x17 =>
    some (AX.normal, [(v2.getD 0 AV.undef), x17], s3)) (
    some (AX.exit 0, [(v2.getD 0 AV.undef), (v2.getD 1 AV.undef)], s3))) [(AV.lbx c1), (AV.int .i64 0)] σ).bind fun r18 =>
 bif r18.1 == AX.exit 0 then (
  (A.lenS a0).bind fun x19 =>
  (A.lss (r18.2.1.getD 1 AV.undef) x19).bind fun x20 =>
  (A.guard x20 true (some a0) (some (AV.tup []))).bind fun x21 =>
  (A.guard x20 true (some (r18.2.1.getD 1 AV.undef)) (some (AV.tup []))).bind fun x22 =>
  (A.guard x20 true (A.iaddr 8 x21 x22) (some (AV.tup []))).bind fun x23 =>
  (A.guard x20 true (A.faddr 0 x23) (some (AV.tup []))).bind fun x24 =>
  (A.guard x20 true ((A.deref x24 r18.2.2).bind fun c25 => A.partA 0 2 c25) (some (AV.tup []))).bind fun x26 =>
  (A.guard x20 true ((A.lb (r18.2.1.getD 0 AV.undef)).bind fun c27 => A.partA 0 2 c27) (some (AV.tup []))).bind fun x28 =>
  (A.guard x20 true (A.eql (.s [0, 2]) x26 x28) (some (AV.tup []))).bind fun x29 =>
  (A.pick x20 x29 (AV.bool false)).bind fun x30 =>
  A.fin σ (AV.tup [(r18.2.1.getD 1 AV.undef), x30]) r18.2.2) else
 none
noncomputable def m_R5_moveOf : List AV → Heap → Option (AV × Heap) := A.wrap true [(.s 8)] .k (A.ar2 r_R5_moveOf)
noncomputable def r_R5_put (a0 a1 : AV) (σ : Heap) : Option (AV × Heap) :=
 (A.cells 8 a1).bind fun c1 =>
 (A.partA 0 2 c1).bind fun x2 =>
 (m_R5_moveOf [a0, x2] σ).bind fun r3 =>
 (A.ext 0 r3.1).bind fun x4 =>
 (A.ext 1 r3.1).bind fun x5 =>
 A.cond x5 (
  (A.partA 0 8 c1).bind fun x6 =>
  (A.iaddr 8 a0 x4).bind fun x7 =>
  (A.cells 8 x6).bind fun c8 =>
  (A.storeAt x7 c8 r3.2).bind fun c9 =>
  some (a0, c9)) (
  (A.partA 0 8 c1).bind fun x10 =>
  (((A.cells 8 x10).bind fun c11 => (A.splice 0 c11 [(AV.int .i64 0), (AV.str ⟨#[]⟩), (AV.int .i64 0), (AV.int .i64 0), (AV.bool false), (AV.bool false), (AV.int .i64 0), (AV.int .i64 0)]).bind fun c12 => some c12).bind fun cs => some (AV.sl 8 (chunks 8 1 cs))).bind fun x13 =>
  (m_slices_Insert_api_Move [a0, x4, x13] r3.2).bind fun r14 =>
  some (r14.1, r14.2))
noncomputable def m_R5_put : List AV → Heap → Option (AV × Heap) := A.wrap false [] .k (A.ar2 r_R5_put)
noncomputable def r_R5_shaped (a0 : AV) (σ : Heap) : Option (AV × Heap) :=
 (m_R5_CheckForm [a0] σ).bind fun r1 =>
 (A.neq .i r1.1 (AV.int .i64 0)).bind fun x2 =>
 A.cond x2 (
  some ((AV.tup [AV.nsl, r1.1]), r1.2)) (
  some ((AV.tup [a0, (AV.int .i64 0)]), r1.2))
noncomputable def m_R5_shaped : List AV → Heap → Option (AV × Heap) := A.wrap false [] .k (A.ar1 r_R5_shaped)
noncomputable def r_R5_valued (a0 a1 : AV) (σ : Heap) : Option (AV × Heap) :=
 (A.cells 2 a1).bind fun c1 =>
 (A.partA 0 2 c1).bind fun x2 =>
 (m_R5_place [a0, x2] σ).bind fun r3 =>
 (A.ext 0 r3.1).bind fun x4 =>
 (A.ext 1 r3.1).bind fun x5 =>
 A.cond x5 (
  (A.partA 0 2 c1).bind fun x6 =>
  (A.iaddr 5 a0 x4).bind fun x7 =>
  (A.faddr 2 x7).bind fun x8 =>
  ((A.deref x8 r3.2).bind fun c9 => A.partA 0 2 c9).bind fun x10 =>
  (((A.cells 2 x6).bind fun c11 => (A.splice 0 c11 [(AV.int .i64 0), (AV.str ⟨#[]⟩), (AV.int .i64 0), (AV.int .i64 0), (AV.bool false), (AV.bool false), (AV.int .i64 0), (AV.int .i64 0)]).bind fun c12 => (A.cells 2 x10).bind fun c13 => (A.splice 2 c13 c12).bind fun c14 => some c14).bind fun cs => some (AV.agg cs)).bind fun x15 =>
  (A.cells 8 x15).bind fun c16 =>
  (A.splice 0 c16 [(AV.int .i64 0), (AV.str ⟨#[]⟩), (AV.int .i64 0), (AV.int .i64 0), (AV.bool false), (AV.bool false), (AV.int .i64 0), (AV.int .i64 0)]).bind fun c17 =>
  (A.partA 0 8 c17).bind fun x18 =>
  A.fin σ x18 r3.2) (
  (A.partA 0 2 c1).bind fun x19 =>
  (((A.cells 2 x19).bind fun c20 => (A.splice 0 c20 [(AV.int .i64 0), (AV.str ⟨#[]⟩), (AV.int .i64 0), (AV.int .i64 0), (AV.bool false), (AV.bool false), (AV.int .i64 0), (AV.int .i64 0)]).bind fun c21 => ((A.cell (AV.bool true)).bind fun v => some [v]).bind fun c22 => (A.splice 4 c22 c21).bind fun c23 => some c23).bind fun cs => some (AV.agg cs)).bind fun x24 =>
  (A.cells 8 x24).bind fun c25 =>
  (A.splice 0 c25 [(AV.int .i64 0), (AV.str ⟨#[]⟩), (AV.int .i64 0), (AV.int .i64 0), (AV.bool false), (AV.bool false), (AV.int .i64 0), (AV.int .i64 0)]).bind fun c26 =>
  (A.partA 0 8 c26).bind fun x27 =>
  A.fin σ x27 r3.2)
noncomputable def m_R5_valued : List AV → Heap → Option (AV × Heap) := A.wrap true [(.s 5)] .k (A.ar2 r_R5_valued)
noncomputable def r_R5_restore (a0 a1 a2 : AV) (σ : Heap) : Option (AV × Heap) :=
 (A.cells 2 a2).bind fun c1 =>
 (A.nilck a0).bind fun x2 =>
 (A.faddr 10 x2).bind fun x3 =>
 ((A.deref x3 σ).bind fun c4 => A.part1 0 c4).bind fun x5 =>
 (A.partA 0 2 c1).bind fun x6 =>
 (A.quiet (m_R5_moveOf [x5, x6] σ) σ).bind fun x7 =>
 (A.ext 0 x7).bind fun x8 =>
 (A.ext 1 x7).bind fun x9 =>
 (A.not x9).bind fun x10 =>
 (A.cond x10 (
  (A.nilck a0).bind fun x12 =>
  (A.faddr 10 x12).bind fun x13 =>
  ((A.deref x13 σ).bind fun c14 => A.part1 0 c14).bind fun x15 =>
  (A.partA 0 2 c1).bind fun x16 =>
  (A.quiet (m_R5_valued [a1, x16] σ) σ).bind fun x17 =>
  (m_R5_put [x15, x17] σ).bind fun r18 =>
  (A.nilck a0).bind fun x19 =>
  (A.faddr 10 x19).bind fun x20 =>
  ((A.cell r18.1).bind fun v => some [v]).bind fun c21 =>
  (A.storeAt x20 c21 r18.2).bind fun c22 =>
  some (([] : List AV), c22)) (
  some (([] : List AV), σ))).bind fun r11 =>
 some ((AV.tup []), r11.2)
noncomputable def m_R5_restore : List AV → Heap → Option (AV × Heap) := A.wrap false [] .k (A.ar3 r_R5_restore)
noncomputable def r_R5_State (a0 a1 : AV) (σ : Heap) : Option (AV × Heap) :=
 (m_R5_CheckForm [a0] σ).bind fun r1 =>
 (A.neq .i r1.1 (AV.int .i64 0)).bind fun x2 =>
 A.cond x2 (
  A.fin σ (AV.tup [AV.nsl, r1.1]) r1.2) (
  (m_R5_At [a0, a1] r1.2).bind fun r3 =>
  (A.lss r3.1 (AV.int .i64 0)).bind fun x4 =>
  A.cond x4 (
   A.fin σ (AV.tup [AV.nsl, (AV.int .i64 8)]) r3.2) (
   (A.add r3.1 (AV.int .i64 1)).bind fun x5 =>
   (m_R5_Before [a0, x5] r3.2).bind fun r6 =>
   A.fin σ (AV.tup [r6.1, (AV.int .i64 0)]) r6.2))
noncomputable def m_R5_State : List AV → Heap → Option (AV × Heap) := A.wrap true [(.e 11 [.k, .k, .k, .k, .k, .k, .k, (.s 2), .k, .k, (.s 8)])] (.t [(.s 5), .k]) (A.ar2 r_R5_State)
noncomputable def r_R5_cleaned (a0 a1 : AV) (σ : Heap) : Option (AV × Heap) :=
 (A.cells 11 a0).bind fun c1 =>
 (A.part1 10 c1).bind fun x2 =>
 (A.lenS x2).bind fun x3 =>
 (A.loop (fun v4 s5 =>
   (A.lss (v4.getD 1 AV.undef) x3).bind fun x7 =>
   A.cond x7 (
    (A.iaddr 8 x2 (v4.getD 1 AV.undef)).bind fun x8 =>
    ((A.deref x8 s5).bind fun c9 => A.partA 0 8 c9).bind fun x10 =>
    (A.cells 8 x10).bind fun c11 =>
    (A.splice 0 c11 [(AV.int .i64 0), (AV.str ⟨#[]⟩), (AV.int .i64 0), (AV.int .i64 0), (AV.bool false), (AV.bool false), (AV.int .i64 0), (AV.int .i64 0)]).bind fun c12 =>
    (A.partA 0 2 c12).bind fun x13 =>
    (m_R5_valued [a1, x13] s5).bind fun r14 =>
    (A.cells 8 r14.1).bind fun c15 =>
    (A.splice 0 c15 [(AV.int .i64 0), (AV.str ⟨#[]⟩), (AV.int .i64 0), (AV.int .i64 0), (AV.bool false), (AV.bool false), (AV.int .i64 0), (AV.int .i64 0)]).bind fun c16 =>
    (A.part1 5 c12).bind fun x17 =>
    (A.guard x17 false (A.partA 2 2 c16) (some (AV.tup []))).bind fun x18 =>
    (A.guard x17 false (A.partA 2 2 c12) (some (AV.tup []))).bind fun x19 =>
    (A.guard x17 false (A.neq (.s [0, 0]) x18 x19) (some (AV.tup []))).bind fun x20 =>
    (A.pick x17 (AV.bool true) x20).bind fun x21 =>
    (A.guard x21 false (A.part1 4 c16) (some (AV.tup []))).bind fun x22 =>
    (A.guard x21 false (A.part1 4 c12) (some (AV.tup []))).bind fun x23 =>
    (A.guard x21 false (A.neq .b x22 x23) (some (AV.tup []))).bind fun x24 =>
    (A.pick x21 (AV.bool true) x24).bind fun x25 =>
    (A.cond x25 (
     (A.partA 0 8 c12).bind fun x27 =>
     (((A.cells 8 x27).bind fun c28 => (A.splice 0 c28 [(AV.int .i64 0), (AV.str ⟨#[]⟩), (AV.int .i64 0), (AV.int .i64 0), (AV.bool false), (AV.bool false), (AV.int .i64 0), (AV.int .i64 0)]).bind fun c29 => some c29).bind fun cs => some (AV.sl 8 (chunks 8 1 cs))).bind fun x30 =>
     (A.append 8 (140737488355328 / 64) (v4.getD 0 AV.undef) x30 r14.2).bind fun r31 =>
     some ([r31.1], r31.2)) (
     some ([(v4.getD 0 AV.undef)], r14.2))).bind fun r26 =>
    (A.add (v4.getD 1 AV.undef) (AV.int .i64 1)).bind fun x32 =>
    some (AX.normal, [(r26.1.getD 0 AV.undef), x32], r26.2)) (
    some (AX.exit 0, [(v4.getD 0 AV.undef), (v4.getD 1 AV.undef)], s5))) [AV.nsl, (AV.int .i64 0)] σ).bind fun r33 =>
 bif r33.1 == AX.exit 0 then (
  some ((r33.2.1.getD 0 AV.undef), r33.2.2)) else
 none
noncomputable def m_R5_cleaned : List AV → Heap → Option (AV × Heap) := A.wrap true [(.a [.k, .k, .k, .k, .k, .k, .k, (.s 2), .k, .k, (.s 8)]), (.s 5)] .k (A.ar2 r_R5_cleaned)
noncomputable def r_R5_Clean (a0 : AV) (σ : Heap) : Option (AV × Heap) :=
 (m_R5_CheckForm [a0] σ).bind fun r1 =>
 (A.neq .i r1.1 (AV.int .i64 0)).bind fun x2 =>
 A.cond x2 (
  A.fin σ (AV.tup [AV.nsl, r1.1]) r1.2) (
  (m_R5_cloned [a0] r1.2).bind fun r3 =>
  (A.lenS r3.1).bind fun x4 =>
  (A.loop (fun v5 s6 =>
    (A.lss (v5.getD 0 AV.undef) x4).bind fun x8 =>
    A.cond x8 (
     (A.iaddr 11 r3.1 (v5.getD 0 AV.undef)).bind fun x9 =>
     (A.faddr 8 x9).bind fun x10 =>
     ((A.deref x10 s6).bind fun c11 => A.part1 0 c11).bind fun x12 =>
     (A.not x12).bind fun x13 =>
     (A.cond x13 (
      (A.iaddr 11 r3.1 (v5.getD 0 AV.undef)).bind fun x15 =>
      ((A.deref x15 s6).bind fun c16 => A.partA 0 11 c16).bind fun x17 =>
      (A.quiet ((A.finC (.s 5) m_R5_Before) [a0, (v5.getD 0 AV.undef)] s6) s6).bind fun x18 =>
      (m_R5_cleaned [x17, x18] s6).bind fun r19 =>
      (A.iaddr 11 r3.1 (v5.getD 0 AV.undef)).bind fun x20 =>
      (A.faddr 10 x20).bind fun x21 =>
      ((A.cell r19.1).bind fun v => some [v]).bind fun c22 =>
      (A.storeAt x21 c22 r19.2).bind fun c23 =>
      some (([] : List AV), c23)) (
      some (([] : List AV), s6))).bind fun r14 =>
     (A.add (v5.getD 0 AV.undef) (AV.int .i64 1)).bind fun x24 =>
     some (AX.normal, [x24], r14.2)) (
     some (AX.exit 0, [(v5.getD 0 AV.undef)], s6))) [(AV.int .i64 0)] r3.2).bind fun r25 =>
  bif r25.1 == AX.exit 0 then (
   A.fin σ (AV.tup [r3.1, (AV.int .i64 0)]) r25.2.2) else
  none)
noncomputable def m_R5_Clean : List AV → Heap → Option (AV × Heap) := A.wrap true [(.e 11 [.k, .k, .k, .k, .k, .k, .k, (.s 2), .k, .k, (.s 8)])] (.t [(.e 11 [.k, .k, .k, .k, .k, .k, .k, (.s 2), .k, .k, (.s 8)]), .k]) (A.ar1 r_R5_Clean)
noncomputable def r_R5_Block (a0 a1 : AV) (σ : Heap) : Option (AV × Heap) :=
 (m_R5_State [a0, a1] σ).bind fun r1 =>
 (A.ext 0 r1.1).bind fun x2 =>
 (A.ext 1 r1.1).bind fun x3 =>
 (A.neq .i x3 (AV.int .i64 0)).bind fun x4 =>
 A.cond x4 (
  A.fin σ (AV.tup [AV.nsl, x3]) r1.2) (
  (m_R5_cloned [a0] r1.2).bind fun r5 =>
  (m_R5_At [r5.1, a1] r5.2).bind fun r6 =>
  (A.iaddr 11 r5.1 r6.1).bind fun x7 =>
  (A.nilck x7).bind fun x8 =>
  (A.faddr 8 x8).bind fun x9 =>
  ((A.cell (AV.bool true)).bind fun v => some [v]).bind fun c10 =>
  (A.storeAt x9 c10 r6.2).bind fun c11 =>
  (A.lenS x2).bind fun x12 =>
  (A.loop (fun v13 s14 =>
    (A.lss (v13.getD 0 AV.undef) x12).bind fun x16 =>
    A.cond x16 (
     (A.iaddr 5 x2 (v13.getD 0 AV.undef)).bind fun x17 =>
     ((A.deref x17 s14).bind fun c18 => A.partA 0 5 c18).bind fun x19 =>
     (A.cells 5 x19).bind fun c20 =>
     (A.splice 0 c20 [(AV.int .i64 0), (AV.str ⟨#[]⟩), (AV.int .i64 0), (AV.int .i64 0), (AV.int .i64 0)]).bind fun c21 =>
     (A.partA 0 2 c21).bind fun x22 =>
     (m_R5_restore [x7, x2, x22] s14).bind fun r23 =>
     (A.add (v13.getD 0 AV.undef) (AV.int .i64 1)).bind fun x24 =>
     some (AX.normal, [x24], r23.2)) (
     some (AX.exit 0, [(v13.getD 0 AV.undef)], s14))) [(AV.int .i64 0)] c11).bind fun r25 =>
  bif r25.1 == AX.exit 0 then (
   (m_R5_shaped [r5.1] r25.2.2).bind fun r26 =>
   (A.ext 0 r26.1).bind fun x27 =>
   (A.ext 1 r26.1).bind fun x28 =>
   A.fin σ (AV.tup [x27, x28]) r26.2) else
  none)
noncomputable def m_R5_Block : List AV → Heap → Option (AV × Heap) := A.wrap true [(.e 11 [.k, .k, .k, .k, .k, .k, .k, (.s 2), .k, .k, (.s 8)])] (.t [(.e 11 [.k, .k, .k, .k, .k, .k, .k, (.s 2), .k, .k, (.s 8)]), .k]) (A.ar2 r_R5_Block)
noncomputable def r_R5_Unblock (a0 a1 : AV) (σ : Heap) : Option (AV × Heap) :=
 (m_R5_CheckForm [a0] σ).bind fun r1 =>
 (A.neq .i r1.1 (AV.int .i64 0)).bind fun x2 =>
 A.cond x2 (
  A.fin σ (AV.tup [AV.nsl, r1.1]) r1.2) (
  (m_R5_At [a0, a1] r1.2).bind fun r3 =>
  (A.lss r3.1 (AV.int .i64 0)).bind fun x4 =>
  A.cond x4 (
   A.fin σ (AV.tup [AV.nsl, (AV.int .i64 8)]) r3.2) (
   (m_R5_cloned [a0] r3.2).bind fun r5 =>
   (A.iaddr 11 r5.1 r3.1).bind fun x6 =>
   (A.faddr 8 x6).bind fun x7 =>
   ((A.cell (AV.bool false)).bind fun v => some [v]).bind fun c8 =>
   (A.storeAt x7 c8 r5.2).bind fun c9 =>
   (A.iaddr 11 r5.1 r3.1).bind fun x10 =>
   ((A.deref x10 c9).bind fun c11 => A.partA 0 11 c11).bind fun x12 =>
   (A.quiet ((A.finC (.s 5) m_R5_Before) [a0, r3.1] c9) c9).bind fun x13 =>
   (m_R5_cleaned [x12, x13] c9).bind fun r14 =>
   (A.iaddr 11 r5.1 r3.1).bind fun x15 =>
   (A.faddr 10 x15).bind fun x16 =>
   ((A.cell r14.1).bind fun v => some [v]).bind fun c17 =>
   (A.storeAt x16 c17 r14.2).bind fun c18 =>
   A.fin σ (AV.tup [r5.1, (AV.int .i64 0)]) c18))
noncomputable def m_R5_Unblock : List AV → Heap → Option (AV × Heap) := A.wrap true [(.e 11 [.k, .k, .k, .k, .k, .k, .k, (.s 2), .k, .k, (.s 8)])] (.t [(.e 11 [.k, .k, .k, .k, .k, .k, .k, (.s 2), .k, .k, (.s 8)]), .k]) (A.ar2 r_R5_Unblock)
end Go.Proofs.Ytphgchakmkankaa

namespace Go.Proofs.Ytphgchakmkankaa
set_option linter.unusedSectionVars false
set_option linter.unusedVariables false
set_option linter.unusedSimpArgs false
def withinB (n lo hi : Int) : Bool := decide (lo ≤ n ∧ n ≤ hi)
def okc (c : UInt8) : Bool := decide (97 ≤ c.toNat ∧ c.toNat ≤ 122) || decide (48 ≤ c.toNat ∧ c.toNat ≤ 57) || decide (c.toNat = 45)
def rowB (s : ByteArray) : Bool := s.data.toList.all okc && decide (0 < s.size)
def nameB (s : ByteArray) : Bool := rowB s && decide (s.size ≤ 20) && decide (97 ≤ (s.data.toList.getD 0 0).toNat) && decide ((s.data.toList.getD 0 0).toNat ≤ 122)
def pc (c : UInt8) : Bool := decide (32 ≤ c.toNat ∧ c.toNat ≤ 126)
def edgeB (s : ByteArray) : Bool := decide (0 < s.size) && decide (s.size ≤ 60) && (decide ((s.data.toList.getD 0 0).toNat ≠ 32) && decide ((s.data.toList.getD (s.size - 1) 0).toNat ≠ 32))
def titleB (s : ByteArray) : Bool := s.data.toList.all pc && edgeB s
theorem getD_byte (s : ByteArray) (i : Nat) (h : i < s.size) : s.data.toList.getD i 0 = s[i] := by
 rw [List.getD_eq_getElem?_getD, List.getElem?_eq_getElem (by simpa using h)]; rfl
def profOf (nm : ByteArray) : List ProfileD → ProfileD × Bool
 | [] => (⟨⟨#[]⟩, 0, []⟩, false)
 | p :: rest => if p.name = nm then (p, true) else profOf nm rest
def lastU (lib : List ProfileD) (u : UnitD) : Int := u.address + (profOf u.profile lib).1.size - 1
def MarksP (lib : List ProfileD) (pre : List UnitD) (f : Int → Nat → Bool) : Prop := ∀ v k, f v k = true ↔ ∃ x ∈ pre, x.univ = v ∧ x.address ≤ (k : Int) ∧ (k : Int) ≤ lastU lib x
theorem MarksP.nil (lib : List ProfileD) : MarksP lib [] (fun _ _ => false) := fun v k => by simp
end Go.Proofs.Ytphgchakmkankaa

namespace Go.Proofs.Ytphgchakmkankaa
set_option linter.unusedSectionVars false
set_option linter.unusedVariables false
set_option linter.unusedSimpArgs false
theorem Within_eq (n lo hi : Int) (σ : Heap) : m_word_Within [.int .i64 n, .int .i64 lo, .int .i64 hi] σ = some (.bool (withinB n lo hi), σ) := by
 refine wrap_eq rfl ?_ rfl
 show r_word_Within _ _ _ σ = _
 unfold r_word_Within withinB
 by_cases h : lo ≤ n <;> simp only [MSb, reduceCtorEq, h, true_and, false_and]
theorem Within1_eq (n lo hi : Int) (σ : Heap) : m_R1_Within [.int .i64 n, .int .i64 lo, .int .i64 hi] σ = some (.bool (withinB n lo hi), σ) := by
 refine wrap_eq rfl ?_ rfl
 show r_R1_Within _ _ _ σ = _
 unfold r_R1_Within withinB
 by_cases h : lo ≤ n <;> simp only [MSb, reduceCtorEq, h, true_and, false_and]
theorem When_eq (b : Bool) (n : Int) (σ : Heap) : m_word_When [.bool b, .int .i64 n] σ = some (.int .i64 (if b = true then n else 0), σ) := by
 refine wrap_eq rfl ?_ rfl
 show r_word_When _ _ σ = _
 unfold r_word_When
 cases b <;> simp [MSb, reduceCtorEq]
theorem sidx_eq (s : ByteArray) {i : Nat} (h : i < s.size) : A.sidx (.str s) (.int .i64 (i : Int)) = some (.int .u8 (s.data.toList.getD i 0).toNat) := by
 have h1 : s[i]? = some s[i] := by simp [h]
 simp [A.sidx, A.idx, h, getD_byte s i h]
 rfl
theorem isEmpty_ne (s : ByteArray) : (decide (¬ s = ⟨#[]⟩)) = decide (0 < s.size) := by
 rw [decide_eq_decide]
 constructor
 ·intro h
  rcases Nat.eq_zero_or_pos s.size with e | e
  ·exact absurd (ByteArray.ext (Array.eq_empty_of_size_eq_zero e)) h
  ·exact e
 ·rintro h rfl; exact absurd h (by decide)
theorem Row_eq (s : ByteArray) (hs : okS s) (σ : Heap) : m_word_Row [.str s] σ = some (.bool (rowB s), σ) := by
 refine wrap_eq rfl ?_ rfl
 show r_word_Row _ σ = _
 unfold r_word_Row
 simp only [MSb, reduceCtorEq]
 refine (all_loop (p := okc) s (some (.bool false, σ)) ?_ ?_ ?_).trans ?_
 ·intro i c hi hc
  have h1 : inI ((i : Int) + 1) := by unfold okS mxl at hs; unfold inI; omega
  have h2 : (i : Int) < s.size := by omega
  simp only [MSb, reduceCtorEq, h2, hc, wrap64 h1, okc]
  clear hc h1
  repeat' ((first | rw [gDp] | rw [gDb] | rw [cDp] | rw [cDnp] | rw [cDn] | rw [cDb]); split <;> try simp only [MSb, reduceCtorEq, *])
  all_goals first | rfl | (refine (if_pos ?_).symm; simp; omega) | (refine (if_neg ?_).symm; simp; omega) | (refine congrArg some (congrArg (fun b => (AV.bool b, σ)) ?_); rw [Bool.eq_iff_iff]; simp; omega)
 ·simp only [MSb, reduceCtorEq, Int.lt_irrefl]
 ·intro i; simp only [MSb, reduceCtorEq]
 ·simp only [MSb, reduceCtorEq, isEmpty_ne, rowB]
  cases s.data.toList.all okc <;> simp
theorem IsWord1_eq (s : ByteArray) (hs : okS s) (σ : Heap) : m_R1_IsWord [.str s] σ = some (.bool (rowB s), σ) := by
 refine wrap_eq rfl ?_ rfl
 show r_R1_IsWord _ σ = _
 unfold r_R1_IsWord
 simp only [MSb, reduceCtorEq]
 refine (all_loop (p := okc) s (some (.bool false, σ)) ?_ ?_ ?_).trans ?_
 ·intro i c hi hc
  have h1 : inI ((i : Int) + 1) := by unfold okS mxl at hs; unfold inI; omega
  have h2 : (i : Int) < s.size := by omega
  simp only [MSb, reduceCtorEq, h2, hc, wrap64 h1, okc]
  clear hc h1
  repeat' ((first | rw [gDp] | rw [gDb] | rw [cDp] | rw [cDnp] | rw [cDn] | rw [cDb]); split <;> try simp only [MSb, reduceCtorEq, *])
  all_goals first | rfl | (refine (if_pos ?_).symm; simp; omega) | (refine (if_neg ?_).symm; simp; omega) | (refine congrArg some (congrArg (fun b => (AV.bool b, σ)) ?_); rw [Bool.eq_iff_iff]; simp; omega)
 ·simp only [MSb, reduceCtorEq, Int.lt_irrefl]
 ·intro i; simp only [MSb, reduceCtorEq]
 ·simp only [MSb, reduceCtorEq, isEmpty_ne, rowB]
  cases s.data.toList.all okc <;> simp
theorem rowB_pos {s : ByteArray} (h : rowB s = true) : 0 < s.size := by
 simp only [rowB, Bool.and_eq_true, decide_eq_true_eq] at h; exact h.2
theorem Name_eq (s : ByteArray) (hs : okS s) (σ : Heap) : m_word_Name [.str s] σ = some (.bool (nameB s), σ) := by
 refine wrap_eq rfl ?_ rfl
 show r_word_Name _ σ = _
 unfold r_word_Name
 simp only [MSb, reduceCtorEq, Row_eq s hs]
 cases h : rowB s
 ·simp [MSb, reduceCtorEq, nameB, h]
 ·have h0 := rowB_pos h
  have := sidx_eq s h0
  simp only [Int.ofNat_zero] at this
  simp only [MSb, reduceCtorEq, this]
  simp only [nameB, h, Bool.true_and]
  generalize s.data.toList.getD 0 0 = c0 at *
  repeat' ((first | rw [gDp] | rw [gDb] | rw [cDp] | rw [cDnp] | rw [cDn] | rw [cDb]); split <;> try simp only [MSb, reduceCtorEq, *])
  all_goals first | rfl | (refine (if_pos ?_).symm; simp; omega) | (refine (if_neg ?_).symm; simp; omega) | (refine congrArg some (congrArg (fun b => (AV.bool b, σ)) ?_); rw [Bool.eq_iff_iff]; simp; omega)
theorem IsName1_eq (s : ByteArray) (hs : okS s) (σ : Heap) : m_R1_IsName [.str s] σ = some (.bool (nameB s), σ) := by
 refine wrap_eq rfl ?_ rfl
 show r_R1_IsName _ σ = _
 unfold r_R1_IsName
 simp only [MSb, reduceCtorEq, IsWord1_eq s hs]
 cases h : rowB s
 ·simp [MSb, reduceCtorEq, nameB, h]
 ·have h0 := rowB_pos h
  have := sidx_eq s h0
  simp only [Int.ofNat_zero] at this
  simp only [MSb, reduceCtorEq, this]
  simp only [nameB, h, Bool.true_and]
  generalize s.data.toList.getD 0 0 = c0 at *
  repeat' ((first | rw [gDp] | rw [gDb] | rw [cDp] | rw [cDnp] | rw [cDn] | rw [cDb]); split <;> try simp only [MSb, reduceCtorEq, *])
  all_goals first | rfl | (refine (if_pos ?_).symm; simp; omega) | (refine (if_neg ?_).symm; simp; omega) | (refine congrArg some (congrArg (fun b => (AV.bool b, σ)) ?_); rw [Bool.eq_iff_iff]; simp; omega)
theorem Title_eq (s : ByteArray) (hs : okS s) (σ : Heap) : m_word_Title [.str s] σ = some (.bool (titleB s), σ) := by
 refine wrap_eq rfl ?_ rfl
 show r_word_Title _ σ = _
 unfold r_word_Title
 simp only [MSb, reduceCtorEq]
 refine (all_loop (p := pc) s (some (.bool false, σ)) ?_ ?_ ?_).trans ?_
 ·intro i c hi hc
  have h1 : inI ((i : Int) + 1) := by unfold okS mxl at hs; unfold inI; omega
  have h2 : (i : Int) < s.size := by omega
  simp only [MSb, reduceCtorEq, h2, hc, wrap64 h1, pc]
  clear h1
  repeat' ((first | rw [gDp] | rw [gDb] | rw [cDp] | rw [cDnp] | rw [cDn] | rw [cDb]); split <;> try simp only [MSb, reduceCtorEq, *])
  all_goals first | rfl | (refine (if_pos ?_).symm; simp; omega) | (refine (if_neg ?_).symm; simp; omega) | (refine congrArg some (congrArg (fun b => (AV.bool b, σ)) ?_); rw [Bool.eq_iff_iff]; simp; omega)
 ·simp only [MSb, reduceCtorEq, Int.lt_irrefl]
 ·intro i; simp only [MSb, reduceCtorEq]
 ·simp only [MSb, reduceCtorEq, isEmpty_ne, titleB]
  cases s.data.toList.all pc
  ·simp
  ·simp only [if_true, Bool.true_and]
   by_cases h0 : 0 < s.size
   ·by_cases h60 : s.size ≤ 60
    ·have e0 := sidx_eq s h0
     have e1 := sidx_eq s (i := s.size - 1) (by omega)
     simp only [Int.ofNat_zero] at e0
     rw [show ((s.size - 1 : Nat) : Int) = (s.size : Int) - 1 by omega] at e1
     have h1 : inI ((s.size : Int) - 1) := by unfold okS mxl at hs; unfold inI; omega
     have h60' : (s.size : Int) ≤ 60 := by omega
     have hw := wrap64 h1
     simp only [edgeB, h0, h60]
     generalize s.data.toList.getD 0 0 = c0 at *
     generalize s.data.toList.getD (s.size - 1) 0 = c1 at *
     simp only [MSb, reduceCtorEq, h0, h60', e0, e1, hw]
     repeat' ((first | rw [gDp] | rw [gDb] | rw [cDp] | rw [cDnp] | rw [cDn] | rw [cDb]); split <;> try simp only [MSb, reduceCtorEq, *])
     all_goals first | rfl | (refine (if_pos ?_).symm; simp; omega) | (refine (if_neg ?_).symm; simp; omega) | (refine congrArg some (congrArg (fun b => (AV.bool b, σ)) ?_); rw [Bool.eq_iff_iff]; simp; omega)
    ·have h60' : ¬ (s.size : Int) ≤ 60 := by omega
     simp [MSb, reduceCtorEq, h0, h60', edgeB, h60]
   ·simp [MSb, reduceCtorEq, h0, edgeB]
theorem IsTitle1_eq (s : ByteArray) (hs : okS s) (σ : Heap) : m_R1_IsTitle [.str s] σ = some (.bool (titleB s), σ) := by
 refine wrap_eq rfl ?_ rfl
 show r_R1_IsTitle _ σ = _
 have e : (s = ⟨#[]⟩) ↔ ¬ 0 < s.size := by
  have := isEmpty_ne s
  rw [decide_eq_decide] at this
  rw [← this]; simp
 have tail : titleB s = (edgeB s && s.data.toList.all pc) := by unfold titleB; exact Bool.and_comm _ _
 unfold r_R1_IsTitle
 simp only [MSb, reduceCtorEq, e]
 by_cases h0 : 0 < s.size
 ·by_cases h60 : s.size ≤ 60
  ·have e0 := sidx_eq s h0
   have e1 := sidx_eq s (i := s.size - 1) (by omega)
   simp only [Int.ofNat_zero] at e0
   rw [show ((s.size - 1 : Nat) : Int) = (s.size : Int) - 1 by omega] at e1
   have h1 : inI ((s.size : Int) - 1) := by unfold okS mxl at hs; unfold inI; omega
   have h60' : ¬ (60 : Int) < (s.size : Int) := by omega
   have hw := wrap64 h1
   have hedge : edgeB s = (decide (¬ (s.data.toList.getD 0 0).toNat = 32) && decide (¬ (s.data.toList.getD (s.size - 1) 0).toNat = 32)) := by simp [edgeB, h0, h60]
   rw [tail, hedge]
   clear tail hedge
   generalize s.data.toList.getD 0 0 = c0 at *
   generalize s.data.toList.getD (s.size - 1) 0 = c1 at *
   by_cases k0 : c0.toNat = 32
   ·have k0' : (c0.toNat : Int) = 32 := by omega
    simp [MSb, reduceCtorEq, h0, h60', e0, k0', k0]
   ·have k0' : ¬ (c0.toNat : Int) = 32 := by omega
    by_cases k1 : c1.toNat = 32
    ·have k1' : (c1.toNat : Int) = 32 := by omega
     simp [MSb, reduceCtorEq, h0, h60', e0, k0', hw, e1, k1', k1]
    ·have k1' : ¬ (c1.toNat : Int) = 32 := by omega
     simp only [MSb, reduceCtorEq, h0, h60', e0, k0', hw, e1, k1', k0, k1]
     refine (all_loop (p := pc) s (some (.bool false, σ)) ?_ ?_ ?_).trans ?_
     ·intro i c hi hc
      have h1 : inI ((i : Int) + 1) := by unfold okS mxl at hs; unfold inI; omega
      have h2 : (i : Int) < s.size := by omega
      simp only [MSb, reduceCtorEq, h2, hc, wrap64 h1, pc]
      clear h1
      repeat' ((first | rw [gDp] | rw [gDb] | rw [cDp] | rw [cDnp] | rw [cDn] | rw [cDb]); split <;> try simp only [MSb, reduceCtorEq, *])
      all_goals first | rfl | (refine (if_pos ?_).symm; simp; omega) | (refine (if_neg ?_).symm; simp; omega) | (refine congrArg some (congrArg (fun b => (AV.bool b, σ)) ?_); rw [Bool.eq_iff_iff]; simp; omega)
     ·simp only [MSb, reduceCtorEq, Int.lt_irrefl]
     ·intro i; simp only [MSb, reduceCtorEq]
     ·simp only [MSb, reduceCtorEq]
      cases s.data.toList.all pc <;> simp
  ·have h60' : (60 : Int) < (s.size : Int) := by omega
   simp [MSb, reduceCtorEq, h0, h60', tail, edgeB, h60]
 ·simp [MSb, reduceCtorEq, h0, tail, edgeB]
end Go.Proofs.Ytphgchakmkankaa

namespace Go.Proofs.Ytphgchakmkankaa
set_option linter.unusedSectionVars false
set_option linter.unusedVariables false
set_option linter.unusedSimpArgs false
theorem IsTime1_eq (n : Int) (σ : Heap) : m_R1_IsTime [.int .i64 n] σ = some (.bool (withinB n 0 36000000), σ) := by
 refine wrap_eq rfl ?_ rfl
 show r_R1_IsTime (.int .i64 n) σ = _
 unfold r_R1_IsTime
 simp only [MSb, reduceCtorEq, Within1_eq]
theorem loop_anyN {γ : Type} {f : List AV → Heap → Option (AX × List AV × Heap)} (a n : Nat) (p : Nat → Bool) (vs : Nat → List AV) (σ : Heap) (fin : AX × List AV × Heap) (ret : Nat → AX × List AV × Heap) {k : AX × List AV × Heap → Option γ} (K1 K2 : Option γ)
  (hstep : ∀ (i : Nat), a ≤ i → i < a + n → f (vs i) σ = if p i = true then some (ret i) else some (.normal, vs (i + 1), σ)) (hend : f (vs (a + n)) σ = some fin) (hk1 : k fin = K1) (hk2 : ∀ i, k (ret i) = K2)
  (hfin : fin.1 ≠ .normal := by simp) (hret : ∀ i, (ret i).1 ≠ .normal := by intros; simp) {v : List AV} {σ' : Heap} (hv : v = vs a := by rfl) (hσ : σ' = σ := by rfl) :
  (A.loop f v σ').bind k = if (List.range' a n).any p = true then K2 else K1 := by
 refine loop_any (List.range' a n) p (fun i => vs (a + i)) σ fin (fun i => ret (a + i)) K1 K2 ?_ (by rw [List.length_range']; exact hend) hk1 (fun i => hk2 _) hfin (fun i => hret _) hv hσ
 intro i x hx
 obtain ⟨h1, h2⟩ := List.getElem?_eq_some_iff.1 hx
 rw [List.length_range'] at h1
 obtain rfl : a + i = x := by simpa [List.getElem_range'] using h2
 exact hstep (a + i) (by omega) (by omega)
def zPoint : PointD := ⟨0, 0⟩
def badP (p : PointD) : Bool := !(withinB p.time 0 1000) || !(withinB p.way 0 1000)
def ordP (l : List PointD) (i : Nat) : Bool := decide ((l.getD i zPoint).time ≤ (l.getD (i - 1) zPoint).time ∨ (l.getD i zPoint).way < (l.getD (i - 1) zPoint).way)
def ptsF (l : List PointD) : Int :=
 if l.any badP = true then 1
 else if ¬ ((l.getD 0 zPoint).time = 0 ∧ (l.getD 0 zPoint).way = 0) then 3
 else if ¬ ((l.getD (l.length - 1) zPoint).time = 1000 ∧ (l.getD (l.length - 1) zPoint).way = 1000) then 3
 else if (List.range' 1 (l.length - 1)).any (ordP l) = true then 7 else 0
def curveF (c : CurveD) : Int :=
 if withinB c.kind 1 6 = false then 4
 else if c.kind = 6 then (if c.points.length < 2 then 8 else if 20 < c.points.length then 2 else ptsF c.points)
 else if 0 < c.points.length then 3 else 0
theorem ne_point (x : PointD) (a b : Int) : A.neq (.s [0, 0]) (.agg (cPoint x)) (.agg [.int .i64 a, .int .i64 b]) = some (.bool (decide (¬ (x.time = a ∧ x.way = b)))) := by
 simp only [A.neq, A.eqK, cPoint, A.eqAll, A.eqC, A.eqI, if_true, Option.bind_some, Option.map_some]
 congr 2
 rw [Bool.eq_iff_iff]
 simp
theorem spl20 (a b c : AV) : A.splice 0 [a] [b, c] = some [a, c] := rfl
theorem spl21 (a b c : AV) : A.splice 1 [a] [b, c] = some [b, a] := rfl
theorem getD_at {l : List PointD} {i : Nat} (h : i < l.length) : l[i]? = some (l.getD i zPoint) := by simp [h]
theorem CheckCurve1_eq (c : CurveD) (σ : Heap) : m_R1_CheckCurve [.agg (cCurve c)] σ = some (.int .i64 (curveF c), σ) := by
 refine wrap_eq rfl ?_ rfl
 show r_R1_CheckCurve (.agg (cCurve c)) σ = _
 unfold r_R1_CheckCurve curveF
 simp only [MSb, reduceCtorEq, p1_cCurve_0, p1_cCurve_1, pA_cCurve, ce_cCurve, sp_cCurve, Within1_eq]
 cases hk : withinB c.kind 1 6
 ·simp only [MSb, reduceCtorEq]
 by_cases h6 : c.kind = 6
 case neg =>
  by_cases h0 : 0 < c.points.length
  ·simp only [MSb, reduceCtorEq, p1_cCurve_0, p1_cCurve_1, pA_cCurve, ce_cCurve, sp_cCurve, h6, h0, show (0 : Int) < c.points.length by omega]
  ·simp only [MSb, reduceCtorEq, p1_cCurve_0, p1_cCurve_1, pA_cCurve, ce_cCurve, sp_cCurve, h6, h0, show ¬ (0 : Int) < c.points.length by omega]
 by_cases h2 : c.points.length < 2
 ·simp only [MSb, reduceCtorEq, p1_cCurve_0, p1_cCurve_1, pA_cCurve, ce_cCurve, sp_cCurve, h6, h2, show (c.points.length : Int) < 2 by omega]
 by_cases h20 : 20 < c.points.length
 ·simp only [MSb, reduceCtorEq, p1_cCurve_0, p1_cCurve_1, pA_cCurve, ce_cCurve, sp_cCurve, h6, h2, h20, show ¬ (c.points.length : Int) < 2 by omega, show (20 : Int) < c.points.length by omega]
 simp only [MSb, reduceCtorEq, p1_cCurve_0, p1_cCurve_1, pA_cCurve, ce_cCurve, sp_cCurve, h6, h2, h20, show ¬ (c.points.length : Int) < 2 by omega, show ¬ (20 : Int) < c.points.length by omega]
 have hmx : c.points.length ≤ mxl := by unfold mxl; omega
 refine (loop_any c.points badP (fun i => [.lbx (cCurve c), .int .i64 0, .int .i64 (i : Int)]) σ (.exit 1, [.lbx (cCurve c), .int .i64 0, .int .i64 (c.points.length : Int)], σ) (fun i => (.ret, [.lbx (cCurve c), .int .i64 1, .int .i64 (i : Int)], σ))
  (some (.int .i64 (if ¬ ((c.points.getD 0 zPoint).time = 0 ∧ (c.points.getD 0 zPoint).way = 0) then 3
 else if ¬ ((c.points.getD (c.points.length - 1) zPoint).time = 1000 ∧ (c.points.getD (c.points.length - 1) zPoint).way = 1000) then 3
 else if (List.range' 1 (c.points.length - 1)).any (ordP c.points) = true then 7 else 0), σ)) (some (.int .i64 1, σ)) ?_ ?_ ?_ ?_).trans ?_
 ·intro i x hx
  obtain ⟨g1, g2, g3⟩ := iaddr_at 2 cPoint hx
  have g3 := g3 hmx
  simp only [MSb, reduceCtorEq, p1_cPoint_0, p1_cPoint_1, pA_cPoint, ce_cPoint, sp_cPoint, g1, g2, g3, Within1_eq, badP]
  rcases Bool.eq_false_or_eq_true (withinB x.time 0 1000) with e | e
  ·rcases Bool.eq_false_or_eq_true (withinB x.way 0 1000) with e' | e' <;> simp only [MSb, reduceCtorEq, Within1_eq, e, e', Bool.false_or, Bool.or_false]
  ·simp only [MSb, reduceCtorEq, e, Bool.true_or]
 ·exact hend_lss _ _ _
 ·have g0 := iaddr_sl 2 cPoint c.points (getD_at (l := c.points) (i := 0) (by omega))
  have gl := iaddr_pred 2 cPoint c.points (k := c.points.length) (by omega) (getD_at (by omega))
  have hw : IntKind.i64.wrap ((c.points.length : Int) - 1) = (c.points.length : Int) - 1 := wrap64 (by unfold inI; omega)
  simp only [Int.ofNat_zero, Int.natCast_zero] at g0
  simp only [MSb, reduceCtorEq, p1_cCurve_0, p1_cCurve_1, pA_cCurve, ce_cCurve, sp_cCurve, p1_cPoint_0, p1_cPoint_1, pA_cPoint, ce_cPoint, sp_cPoint, g0, ne_point]
  by_cases e1 : (c.points.getD 0 zPoint).time = 0 ∧ (c.points.getD 0 zPoint).way = 0
  case neg => simp only [MSb, reduceCtorEq, e1]
  simp only [MSb, reduceCtorEq, p1_cCurve_0, p1_cCurve_1, pA_cCurve, ce_cCurve, sp_cCurve, e1, hw, gl, p1_cPoint_0, p1_cPoint_1, pA_cPoint, ce_cPoint, sp_cPoint]
  by_cases e2 : (c.points.getD (c.points.length - 1) zPoint).time = 1000 ∧ (c.points.getD (c.points.length - 1) zPoint).way = 1000
  case neg =>
   simp only [spl20, spl21, MSb, reduceCtorEq, ne_point, e2]
  simp only [spl20, spl21, MSb, reduceCtorEq, ne_point, e2]
  refine (loop_anyN 1 (c.points.length - 1) (ordP c.points) (fun i => [.lbx (cCurve c), .int .i64 0, .int .i64 (i : Int)]) σ (.exit 3, [.lbx (cCurve c), .int .i64 0, .int .i64 (c.points.length : Int)], σ) (fun i => (.ret, [.lbx (cCurve c), .int .i64 7, .int .i64 (i : Int)], σ)) (some (AV.int .i64 0, σ)) (some (AV.int .i64 7, σ)) ?_ ?_ ?_ ?_).trans ?_
  ·intro i hi1 hi2
   have k1 := iaddr_sl 2 cPoint c.points (getD_at (l := c.points) (i := i) (by omega))
   have k2 := iaddr_pred 2 cPoint c.points (k := i) (by omega) (getD_at (by omega))
   have k3 : IntKind.i64.wrap ((i : Int) - 1) = (i : Int) - 1 := wrap64 (by unfold inI; omega)
   have k4 : IntKind.i64.wrap ((i : Int) + 1) = ((i + 1 : Nat) : Int) := by rw [wrap64 (by unfold inI; omega)]; omega
   have k5 : (i : Int) < c.points.length := by omega
   simp only [MSb, reduceCtorEq, p1_cCurve_0, p1_cCurve_1, pA_cCurve, ce_cCurve, sp_cCurve, p1_cPoint_0, p1_cPoint_1, pA_cPoint, ce_cPoint, sp_cPoint, k1, k2, k3, k5, ordP]
   by_cases q1 : (c.points.getD i zPoint).time ≤ (c.points.getD (i - 1) zPoint).time
   ·simp only [MSb, reduceCtorEq, q1]
   ·by_cases q2 : (c.points.getD i zPoint).way < (c.points.getD (i - 1) zPoint).way <;> simp only [MSb, reduceCtorEq, p1_cCurve_0, p1_cCurve_1, pA_cCurve, ce_cCurve, sp_cCurve, p1_cPoint_0, p1_cPoint_1, pA_cPoint, ce_cPoint, sp_cPoint, k1, k2, k3, k4, q1, q2]
  ·rw [show 1 + (c.points.length - 1) = c.points.length by omega]
   simp only [MSb, reduceCtorEq, p1_cCurve_0, p1_cCurve_1, pA_cCurve, ce_cCurve, sp_cCurve, Int.lt_irrefl]
  ·simp only [MSb, reduceCtorEq]
  ·intro i; simp only [MSb, reduceCtorEq]
  ·cases (List.range' 1 (c.points.length - 1)).any (ordP c.points) <;> rfl
 ·intro i; simp only [MSb, reduceCtorEq]
 ·unfold ptsF
  cases c.points.any badP <;> rfl
end Go.Proofs.Ytphgchakmkankaa

namespace Go.Proofs.Ytphgchakmkankaa
set_option linter.unusedSectionVars false
set_option linter.unusedVariables false
set_option linter.unusedSimpArgs false
theorem CheckCurve_eq (c : CurveD) (σ : Heap) : m_level_CheckCurve [.agg (cCurve c)] σ = some (.int .i64 (curveF c), σ) := by
 refine wrap_eq rfl ?_ rfl
 show r_level_CheckCurve (.agg (cCurve c)) σ = _
 unfold r_level_CheckCurve curveF
 simp only [MSb, reduceCtorEq, p1_cCurve_0, p1_cCurve_1, pA_cCurve, ce_cCurve, sp_cCurve, Within_eq]
 cases hk : withinB c.kind 1 6
 ·simp only [MSb, reduceCtorEq]
 by_cases h6 : c.kind = 6
 case neg =>
  by_cases h0 : 0 < c.points.length
  ·simp only [MSb, reduceCtorEq, p1_cCurve_0, p1_cCurve_1, pA_cCurve, ce_cCurve, sp_cCurve, h6, h0, When_eq, show (0 : Int) < c.points.length by omega]
  ·simp only [MSb, reduceCtorEq, p1_cCurve_0, p1_cCurve_1, pA_cCurve, ce_cCurve, sp_cCurve, h6, h0, When_eq, show ¬ (0 : Int) < c.points.length by omega]
 by_cases h2 : c.points.length < 2
 ·simp only [MSb, reduceCtorEq, p1_cCurve_0, p1_cCurve_1, pA_cCurve, ce_cCurve, sp_cCurve, h6, h2, show (c.points.length : Int) < 2 by omega]
 by_cases h20 : 20 < c.points.length
 ·simp only [MSb, reduceCtorEq, p1_cCurve_0, p1_cCurve_1, pA_cCurve, ce_cCurve, sp_cCurve, h6, h2, h20, show ¬ (c.points.length : Int) < 2 by omega, show (20 : Int) < c.points.length by omega]
 simp only [MSb, reduceCtorEq, p1_cCurve_0, p1_cCurve_1, pA_cCurve, ce_cCurve, sp_cCurve, h6, h2, h20, show ¬ (c.points.length : Int) < 2 by omega, show ¬ (20 : Int) < c.points.length by omega]
 have hmx : c.points.length ≤ mxl := by unfold mxl; omega
 refine (loop_any c.points badP (fun i => [.int .i64 0, .int .i64 (i : Int)]) σ (.exit 0, [.int .i64 0, .int .i64 (c.points.length : Int)], σ) (fun i => (.ret, [.int .i64 1, .int .i64 (i : Int)], σ))
  (some (.int .i64 (if ¬ ((c.points.getD 0 zPoint).time = 0 ∧ (c.points.getD 0 zPoint).way = 0) then 3
 else if ¬ ((c.points.getD (c.points.length - 1) zPoint).time = 1000 ∧ (c.points.getD (c.points.length - 1) zPoint).way = 1000) then 3
 else if (List.range' 1 (c.points.length - 1)).any (ordP c.points) = true then 7 else 0), σ)) (some (.int .i64 1, σ)) ?_ ?_ ?_ ?_).trans ?_
 ·intro i x hx
  obtain ⟨g1, g2, g3⟩ := iaddr_at 2 cPoint hx
  have g3 := g3 hmx
  simp only [MSb, reduceCtorEq, p1_cPoint_0, p1_cPoint_1, pA_cPoint, ce_cPoint, sp_cPoint, g1, g2, g3, Within_eq, badP]
  rcases Bool.eq_false_or_eq_true (withinB x.time 0 1000) with e | e
  ·rcases Bool.eq_false_or_eq_true (withinB x.way 0 1000) with e' | e' <;> simp only [MSb, reduceCtorEq, Within_eq, e, e', Bool.false_or, Bool.or_false]
  ·simp only [MSb, reduceCtorEq, e, Bool.true_or]
 ·exact hend_lss _ _ _
 ·have g0 := iaddr_sl 2 cPoint c.points (getD_at (l := c.points) (i := 0) (by omega))
  have gl := iaddr_pred 2 cPoint c.points (k := c.points.length) (by omega) (getD_at (by omega))
  have hw : IntKind.i64.wrap ((c.points.length : Int) - 1) = (c.points.length : Int) - 1 := wrap64 (by unfold inI; omega)
  simp only [Int.ofNat_zero, Int.natCast_zero] at g0
  simp only [MSb, reduceCtorEq, p1_cCurve_0, p1_cCurve_1, pA_cCurve, ce_cCurve, sp_cCurve, p1_cPoint_0, p1_cPoint_1, pA_cPoint, ce_cPoint, sp_cPoint, g0, ne_point]
  by_cases e1 : (c.points.getD 0 zPoint).time = 0 ∧ (c.points.getD 0 zPoint).way = 0
  case neg => simp only [MSb, reduceCtorEq, e1]
  simp only [MSb, reduceCtorEq, p1_cCurve_0, p1_cCurve_1, pA_cCurve, ce_cCurve, sp_cCurve, e1, hw, gl, p1_cPoint_0, p1_cPoint_1, pA_cPoint, ce_cPoint, sp_cPoint]
  by_cases e2 : (c.points.getD (c.points.length - 1) zPoint).time = 1000 ∧ (c.points.getD (c.points.length - 1) zPoint).way = 1000
  case neg =>
   simp only [spl20, spl21, MSb, reduceCtorEq, ne_point, e2]
  simp only [spl20, spl21, MSb, reduceCtorEq, ne_point, e2]
  refine (loop_anyN 1 (c.points.length - 1) (ordP c.points) (fun i => [.int .i64 0, .int .i64 (i : Int)]) σ (.exit 2, [.int .i64 0, .int .i64 (c.points.length : Int)], σ) (fun i => (.ret, [.int .i64 7, .int .i64 (i : Int)], σ)) (some (AV.int .i64 0, σ)) (some (AV.int .i64 7, σ)) ?_ ?_ ?_ ?_).trans ?_
  ·intro i hi1 hi2
   have k1 := iaddr_sl 2 cPoint c.points (getD_at (l := c.points) (i := i) (by omega))
   have k2 := iaddr_pred 2 cPoint c.points (k := i) (by omega) (getD_at (by omega))
   have k3 : IntKind.i64.wrap ((i : Int) - 1) = (i : Int) - 1 := wrap64 (by unfold inI; omega)
   have k4 : IntKind.i64.wrap ((i : Int) + 1) = ((i + 1 : Nat) : Int) := by rw [wrap64 (by unfold inI; omega)]; omega
   have k5 : (i : Int) < c.points.length := by omega
   simp only [MSb, reduceCtorEq, p1_cCurve_0, p1_cCurve_1, pA_cCurve, ce_cCurve, sp_cCurve, p1_cPoint_0, p1_cPoint_1, pA_cPoint, ce_cPoint, sp_cPoint, k1, k2, k3, k5, ordP]
   by_cases q1 : (c.points.getD i zPoint).time ≤ (c.points.getD (i - 1) zPoint).time
   ·simp only [MSb, reduceCtorEq, q1]
   ·by_cases q2 : (c.points.getD i zPoint).way < (c.points.getD (i - 1) zPoint).way <;> simp only [MSb, reduceCtorEq, p1_cCurve_0, p1_cCurve_1, pA_cCurve, ce_cCurve, sp_cCurve, p1_cPoint_0, p1_cPoint_1, pA_cPoint, ce_cPoint, sp_cPoint, k1, k2, k3, k4, q1, q2]
  ·rw [show 1 + (c.points.length - 1) = c.points.length by omega]
   simp only [MSb, reduceCtorEq, p1_cCurve_0, p1_cCurve_1, pA_cCurve, ce_cCurve, sp_cCurve, Int.lt_irrefl]
  ·simp only [MSb, reduceCtorEq]
  ·intro i; simp only [MSb, reduceCtorEq]
  ·cases (List.range' 1 (c.points.length - 1)).any (ordP c.points) <;> rfl
 ·intro i; simp only [MSb, reduceCtorEq]
 ·unfold ptsF
  cases c.points.any badP <;> rfl
end Go.Proofs.Ytphgchakmkankaa

namespace Go.Proofs.Ytphgchakmkankaa
set_option linter.unusedSectionVars false
set_option linter.unusedVariables false
set_option linter.unusedSimpArgs false
theorem m_slices_IndexFunc_api_Move_eq (dyn : Nat → List AV → Heap → Option (AV × Heap)) (l : List MoveD) (hl : l.length ≤ mxl) (n : Nat) (caps : List AV) (p : MoveD → Bool) (σ : Heap) (hd : ∀ x ∈ l, dyn n ((.agg (cMove x) : AV) :: caps) σ = some (.bool (p x), σ)) : m_slices_IndexFunc_api_Move dyn [sl 8 cMove l, .fn n caps] σ = some (.int .i64 (idxI p l), σ) := by
 refine wrap_eq rfl ?_ rfl
 show r_slices_IndexFunc_api_Move dyn (sl 8 cMove l) (.fn n caps) σ = _
 unfold r_slices_IndexFunc_api_Move
 simp only [MSb, reduceCtorEq]
 refine (loop_pre (S := Unit) (R := Int) l (fun pre x _ => if p x = true then .out (pre.length : Int) else .go ())
  (fun pre _ => [.int .i64 0, .int .i64 (pre.length : Int)]) (fun _ _ => σ) (fun _ => (.exit 0, [.int .i64 0, .int .i64 (l.length : Int)], σ)) (fun pre _ r => (.ret, [.int .i64 (pre.length : Int), .int .i64 (pre.length : Int)], σ))
  (fun _ _ => True) () (fun _ => some (AV.int .i64 (-1), σ)) (fun r => some (AV.int .i64 r, σ)) ?_ ?_ trivial (fun _ _ _ _ _ _ _ _ => trivial) ?_ ?_).trans ?_
 ·intro pre x rest u hl' _
  have hx := pre_get hl'
  have hlt := pre_lt hl'
  have hi1 : IntKind.i64.wrap ((pre.length : Int) + 1) = (pre.length : Int) + 1 := wrap64 (by unfold inI; unfold mxl at hl; omega)
  have hlt' : (pre.length : Int) < (l.length : Int) := by omega
  have hia := iaddr_sl 8 cMove l hx
  have hdx := hd x (by rw [hl']; simp)
  simp only [MSb, reduceCtorEq, p1_cMove_0, p1_cMove_1, p1_cMove_2, p1_cMove_3, p1_cMove_4, p1_cMove_5, p1_cMove_6, p1_cMove_7, pA_cMove_key, pA_cMove_value, pA_cMove, ce_cMove, sp_cMove, hlt', hia, A.callv, List.cons_append, List.nil_append, hdx, hi1]
  cases p x <;> simp [MSb, reduceCtorEq]
 ·intro u _; simp only [MSb, reduceCtorEq, Int.lt_irrefl]
 ·intro u _; simp only [MSb, reduceCtorEq]
 ·intro pre x rest s q hl' _ hb
  have : q = (pre.length : Int) := by
   cases hpx : p x
   ·rw [hpx] at hb; cases hb
   ·rw [hpx] at hb; simp at hb; exact hb.symm
  simp only [MSb, reduceCtorEq, this]
 ·rw [idxI_run p _ _ l [] (by simp)]
  simp only [List.nil_append]
  split
  ·rename_i h; rw [h]
  ·rfl
end Go.Proofs.Ytphgchakmkankaa

namespace Go.Proofs.Ytphgchakmkankaa
set_option linter.unusedSectionVars false
set_option linter.unusedVariables false
set_option linter.unusedSimpArgs false
theorem IsLevel1_eq (n : Int) (σ : Heap) : m_R1_IsLevel [.int .i64 n] σ = some (.bool (withinB n 0 65535), σ) := by
 refine wrap_eq rfl ?_ rfl
 show r_R1_IsLevel (.int .i64 n) σ = _
 unfold r_R1_IsLevel
 simp only [MSb, reduceCtorEq, Within1_eq]
end Go.Proofs.Ytphgchakmkankaa

namespace Go.Proofs.Ytphgchakmkankaa
set_option linter.unusedSectionVars false
set_option linter.unusedVariables false
set_option linter.unusedSimpArgs false
def blankB (s : ByteArray) : Bool := if s = ⟨#[]⟩ then true else titleB s
end Go.Proofs.Ytphgchakmkankaa

namespace Go.Proofs.Ytphgchakmkankaa
set_option linter.unusedSectionVars false
set_option linter.unusedVariables false
set_option linter.unusedSimpArgs false
set_option maxRecDepth 100000
noncomputable def t_cue_isTime (a0 : Int) : Option Bool :=
 some (withinB a0 0 36000000)
theorem h_cue_isTime {a0 : Int} {σ : Heap} {r : Bool} (h : t_cue_isTime a0 = some r) : m_cue_isTime [(AV.int .i64 a0)] σ = some ((AV.bool r), σ) := by
 refine rf_wrap1 (f := r_cue_isTime) (y0 := (AV.int .i64 a0)) (enc := fun r : Bool => (AV.bool r)) (T := t_cue_isTime a0) rfl rfl ?_ r h
 unfold r_cue_isTime t_cue_isTime
 refine rf_s ((AV.bool (withinB a0 0 36000000)), σ) (Within_eq a0 0 36000000 σ) ?_
 exact rf_fin _ (fin_same _ _) ⟨rfl, rfl⟩

noncomputable def t_cue_compare (a0 : KeyD) (a1 : KeyD) : Option Int :=
 if ¬ (a0.unit = a1.unit) then
  if a0.unit < a1.unit then
   some (-1)
  else
  some 1
 else
 some (Lib.compareBytes a0.param.data.toList a1.param.data.toList)
theorem h_cue_compare {a0 : KeyD} { a1 : KeyD} {σ : Heap} {r : Int} (h : t_cue_compare a0 a1 = some r) : m_cue_compare [(AV.agg (cKey a0)), (AV.agg (cKey a1))] σ = some ((AV.int .i64 r), σ) := by
 refine rf_wrap2 (f := r_cue_compare) (y0 := (AV.agg (cKey a0))) (y1 := (AV.agg (cKey a1))) (enc := fun r : Int => (AV.int .i64 r)) (T := t_cue_compare a0 a1) rfl rfl ?_ r h
 unfold r_cue_compare t_cue_compare
 refine rf_s (cKey a0) rfl ?_
 refine rf_s (cKey a1) rfl ?_
 refine rf_s (AV.int .i64 a0.unit) rfl ?_
 refine rf_s (AV.int .i64 a1.unit) rfl ?_
 refine rf_s (AV.bool (decide (¬ (a0.unit = a1.unit)))) (aNe _ _ _) ?_
 refine rf_c (p := ¬ (a0.unit = a1.unit)) (fun c2 => ?_) (fun c2 => ?_)
 ·refine rf_s (AV.int .i64 a0.unit) rfl ?_
  refine rf_s (AV.int .i64 a1.unit) rfl ?_
  refine rf_s (AV.bool (decide (a0.unit < a1.unit))) rfl ?_
  refine rf_c (p := a0.unit < a1.unit) (fun c1 => ?_) (fun c1 => ?_)
  ·exact rf_fin _ (fin_same _ _) ⟨rfl, rfl⟩
  exact rf_fin _ (fin_same _ _) ⟨rfl, rfl⟩
 refine rf_s (AV.str a0.param) rfl ?_
 refine rf_s (AV.str a1.param) rfl ?_
 refine rf_s ((AV.int .i64 (Lib.compareBytes a0.param.data.toList a1.param.data.toList)), σ) (rfl) ?_
 exact rf_fin _ (fin_same _ _) ⟨rfl, rfl⟩

noncomputable def t_cue_checkMoves (a0 : (List MoveD)) : Option Int :=
 forE a0 (fun (i8 : Nat) e7 (s1 : Unit) => (show Option (Lr Unit Unit Int) from
   if (!(withinB e7.key.unit 1 9999)) = true then
    some (.ret 1)
   else
   (tq (okS e7.key.param) (nameB e7.key.param)).bind fun r9 =>
   if (!r9) = true then
    some (.ret 5)
   else
   if ((e7.release && (decide (¬ (e7.value = (⟨0, 0⟩ : ValueD))))) || ((decide (¬ (e7.value.level = 0))) && (decide (¬ (e7.value.preset = 0))))) = true then
    some (.ret 3)
   else
   if ((!(withinB e7.value.level 0 65535)) || (!(withinB e7.value.preset 0 999))) = true then
    some (.ret 1)
   else
   if ((!e7.timed) && ((decide (¬ (e7.delay = 0))) || (decide (¬ (e7.time = 0))))) = true then
    some (.ret 3)
   else
   if ((!((withinB e7.delay 0 36000000))) || (!((withinB e7.time 0 36000000)))) = true then
    some (.ret 1)
   else
   (if decide (0 < (i8 : Int)) = true then tIx a0 (IntKind.i64.wrap ((i8 : Int) - 1)) else some default).bind fun x10 =>
   (if decide (0 < (i8 : Int)) = true then t_cue_compare x10.key e7.key else some default).bind fun r11 =>
   if ((decide (0 < (i8 : Int))) && (decide (0 ≤ r11))) = true then
    some (.ret 7)
   else
   some (.go ()))) (fun s1 => some ()) () (fun b2 =>
  some 0) (fun b2 =>
  some b2)
theorem h_cue_checkMoves {a0 : (List MoveD)} {σ : Heap} {r : Int} (h : t_cue_checkMoves a0 = some r) : m_cue_checkMoves [(sl 8 cMove a0)] σ = some ((AV.int .i64 r), σ) := by
 refine rf_wrap1 (f := r_cue_checkMoves) (y0 := (sl 8 cMove a0)) (enc := fun r : Int => (AV.int .i64 r)) (T := t_cue_checkMoves a0) rfl rfl ?_ r h
 unfold r_cue_checkMoves t_cue_checkMoves
 refine rf_s (AV.int .i64 (a0.length : Int)) (lenS_sl _ _ _) ?_
 refine rf_for (B := Unit) (R := Int) (fun (i8 : Nat) (s1 : Unit) v w3 => v = [(AV.int .i64 0), (AV.int .i64 (i8 : Int))] ∧ σ = w3) (fun (b2 : Unit) (q : LS) => ∃ u2 u7, q = ((AX.exit 0), ([u2, u7] : List AV), σ)) (fun (b2 : Int) (q : LS) => ∃ u7, q = (AX.ret, ([(AV.int .i64 b2), u7] : List AV), σ)) ?_ ?_ ⟨rfl, rfl⟩ ?_ ?_
 ·intro hle7 i8 e7 s1 v w3 he7 hI
  obtain ⟨rfl, rfl⟩ := hI
  refine rf_s (AV.bool true) (ix_lt he7) ?_
  refine rf_ct ?_
  refine rf_s (AV.rp (cMove e7)) (ix_for he7) ?_
  refine rf_s (AV.agg (cMove e7)) rfl ?_
  refine rf_s (cMove e7) rfl ?_
  refine rf_s (cMove e7) (sp_cMove _ _ rfl) ?_
  refine rf_s (AV.int .i64 e7.key.unit) rfl ?_
  refine rf_s ((AV.bool (withinB e7.key.unit 1 9999)), σ) (Within_eq e7.key.unit 1 9999 σ) ?_
  refine rf_s (AV.bool (!(withinB e7.key.unit 1 9999))) rfl ?_
  refine rf_cb (c := (!(withinB e7.key.unit 1 9999))) (fun c18 => ?_) (fun c18 => ?_)
  ·exact rf_ret (rnd_ret (by simp) ⟨_, rfl⟩)
  refine rf_s (AV.str e7.key.param) rfl ?_
  refine rf_o (fun r9 : Bool => ((AV.bool r9), σ)) (fun r9 hr9 => (tq_of (e := fun r : Bool => ((AV.bool r), σ)) (fun hs => Name_eq e7.key.param hs σ)) hr9) (fun r9 hr9 => ?_)
  refine rf_s (AV.bool (!r9)) rfl ?_
  refine rf_cb (c := (!r9)) (fun c17 => ?_) (fun c17 => ?_)
  ·exact rf_ret (rnd_ret (by simp) ⟨_, rfl⟩)
  refine rf_s (AV.bool e7.release) rfl ?_
  refine rf_gt (AV.agg (cValue e7.value)) (fun hg => rfl) ?_
  refine rf_gt (AV.agg (cValue (⟨0, 0⟩ : ValueD))) (fun hg => rfl) ?_
  refine rf_gt (AV.bool (decide (¬ (e7.value = (⟨0, 0⟩ : ValueD))))) (fun hg => by
    simp only [hg, Bool.true_and, cond_true]; first | done | exact (ne_Value _ _)) ?_
  refine rf_s (AV.bool (e7.release && (decide (¬ (e7.value = (⟨0, 0⟩ : ValueD)))))) (pk_and _ _) ?_
  refine rf_gf (AV.int .i64 e7.value.level) (fun hg => rfl) ?_
  refine rf_gf (AV.bool (decide (¬ (e7.value.level = 0)))) (fun hg => by
    simp only [hg, Bool.true_and, cond_true]; first | done | exact (aNe _ _ _)) ?_
  refine rf_gf (AV.bool (decide (¬ (e7.value.level = 0)))) (fun hg => by
    simp only [hg, Bool.true_and, cond_true]; first | done | exact rfl) ?_
  refine rf_ggt (AV.int .i64 e7.value.preset) (fun hg => rfl) ?_
  refine rf_ggt (AV.bool (decide (¬ (e7.value.preset = 0)))) (fun hg => by
    simp only [hg, Bool.true_and, cond_true]; first | done | exact (aNe _ _ _)) ?_
  refine rf_gf (AV.bool ((decide (¬ (e7.value.level = 0))) && (decide (¬ (e7.value.preset = 0))))) (fun hg => by
    simp only [hg, Bool.true_and, cond_true]; first | done | exact (pk_and _ _)) ?_
  refine rf_s (AV.bool ((e7.release && (decide (¬ (e7.value = (⟨0, 0⟩ : ValueD))))) || ((decide (¬ (e7.value.level = 0))) && (decide (¬ (e7.value.preset = 0)))))) (pk_or _ _) ?_
  refine rf_cb (c := ((e7.release && (decide (¬ (e7.value = (⟨0, 0⟩ : ValueD))))) || ((decide (¬ (e7.value.level = 0))) && (decide (¬ (e7.value.preset = 0)))))) (fun c16 => ?_) (fun c16 => ?_)
  ·exact rf_ret (rnd_ret (by simp) ⟨_, rfl⟩)
  refine rf_s (AV.int .i64 e7.value.level) rfl ?_
  refine rf_s ((AV.bool (withinB e7.value.level 0 65535)), σ) (Within_eq e7.value.level 0 65535 σ) ?_
  refine rf_s (AV.bool (!(withinB e7.value.level 0 65535))) rfl ?_
  refine rf_gf (AV.int .i64 e7.value.preset) (fun hg => rfl) ?_
  refine rf_gf (AV.bool (withinB e7.value.preset 0 999)) (fun hg => by
    simp only [hg, Bool.true_and, cond_true]; first | done | exact (quiet_of (Within_eq e7.value.preset 0 999 σ))) ?_
  refine rf_gf (AV.bool (!(withinB e7.value.preset 0 999))) (fun hg => by
    simp only [hg, Bool.true_and, cond_true]; first | done | exact rfl) ?_
  refine rf_s (AV.bool ((!(withinB e7.value.level 0 65535)) || (!(withinB e7.value.preset 0 999)))) (pk_or _ _) ?_
  refine rf_cb (c := ((!(withinB e7.value.level 0 65535)) || (!(withinB e7.value.preset 0 999)))) (fun c15 => ?_) (fun c15 => ?_)
  ·exact rf_ret (rnd_ret (by simp) ⟨_, rfl⟩)
  refine rf_s (AV.bool e7.timed) rfl ?_
  refine rf_s (AV.bool (!e7.timed)) rfl ?_
  refine rf_gt (AV.int .i64 e7.delay) (fun hg => rfl) ?_
  refine rf_gt (AV.bool (decide (¬ (e7.delay = 0)))) (fun hg => by
    simp only [hg, Bool.true_and, cond_true]; first | done | exact (aNe _ _ _)) ?_
  refine rf_gt (AV.bool (decide (¬ (e7.delay = 0)))) (fun hg => by
    simp only [hg, Bool.true_and, cond_true]; first | done | exact rfl) ?_
  refine rf_ggf (AV.int .i64 e7.time) (fun hg => rfl) ?_
  refine rf_ggf (AV.bool (decide (¬ (e7.time = 0)))) (fun hg => by
    simp only [hg, Bool.true_and, cond_true]; first | done | exact (aNe _ _ _)) ?_
  refine rf_gt (AV.bool ((decide (¬ (e7.delay = 0))) || (decide (¬ (e7.time = 0))))) (fun hg => by
    simp only [hg, Bool.true_and, cond_true]; first | done | exact (pk_or _ _)) ?_
  refine rf_s (AV.bool ((!e7.timed) && ((decide (¬ (e7.delay = 0))) || (decide (¬ (e7.time = 0)))))) (pk_and _ _) ?_
  refine rf_cb (c := ((!e7.timed) && ((decide (¬ (e7.delay = 0))) || (decide (¬ (e7.time = 0)))))) (fun c14 => ?_) (fun c14 => ?_)
  ·exact rf_ret (rnd_ret (by simp) ⟨_, rfl⟩)
  refine rf_s (AV.int .i64 e7.delay) rfl ?_
  refine rf_s ((AV.bool ((withinB e7.delay 0 36000000))), σ) (h_cue_isTime (σ := σ) (r := (withinB e7.delay 0 36000000)) rfl) ?_
  refine rf_s (AV.bool (!((withinB e7.delay 0 36000000)))) rfl ?_
  refine rf_gf (AV.int .i64 e7.time) (fun hg => rfl) ?_
  refine rf_gf (AV.bool ((withinB e7.time 0 36000000))) (fun hg => by
    simp only [hg, Bool.true_and, cond_true]; first | done | exact (quiet_of (h_cue_isTime (σ := σ) (r := (withinB e7.time 0 36000000)) rfl))) ?_
  refine rf_gf (AV.bool (!((withinB e7.time 0 36000000)))) (fun hg => by
    simp only [hg, Bool.true_and, cond_true]; first | done | exact rfl) ?_
  refine rf_s (AV.bool ((!((withinB e7.delay 0 36000000))) || (!((withinB e7.time 0 36000000))))) (pk_or _ _) ?_
  refine rf_cb (c := ((!((withinB e7.delay 0 36000000))) || (!((withinB e7.time 0 36000000))))) (fun c13 => ?_) (fun c13 => ?_)
  ·exact rf_ret (rnd_ret (by simp) ⟨_, rfl⟩)
  refine rf_s (AV.bool (decide (0 < (i8 : Int)))) rfl ?_
  refine rf_gt (sl 8 cMove a0) (fun hg => rfl) ?_
  refine rf_gt (AV.int .i64 (i8 : Int)) (fun hg => rfl) ?_
  refine rf_gt (AV.int .i64 (IntKind.i64.wrap ((i8 : Int) - 1))) (fun hg => by
    simp only [hg, Bool.true_and, cond_true]; first | done | exact rfl) ?_
  refine rf_gto (ω := MoveD) (fun x10 => (AV.rp (cMove x10))) (fun hg x10 hx10 => by
    simp only [hg, Bool.true_and, cond_true]; first | done | exact ix_at hx10) (fun x10 hx10 => ?_)
  refine rf_gt (AV.rp (cMove x10)) (fun hg => by
    simp only [hg, Bool.true_and, cond_true]; first | done | exact rfl) ?_
  refine rf_gt (AV.agg (cKey x10.key)) (fun hg => by
    simp only [hg, Bool.true_and, cond_true]; first | done | exact rfl) ?_
  refine rf_gt (AV.agg (cKey e7.key)) (fun hg => rfl) ?_
  refine rf_gto (ω := Int) (fun r11 => (AV.int .i64 r11)) (fun hg r11 hr11 => by
    simp only [hg, Bool.true_and, cond_true]; first | done | exact (quiet_of (h_cue_compare hr11))) (fun r11 hr11 => ?_)
  refine rf_gt (AV.bool (decide (0 ≤ r11))) (fun hg => by
    simp only [hg, Bool.true_and, cond_true]; first | done | exact rfl) ?_
  refine rf_s (AV.bool ((decide (0 < (i8 : Int))) && (decide (0 ≤ r11)))) (pk_and _ _) ?_
  refine rf_cb (c := ((decide (0 < (i8 : Int))) && (decide (0 ≤ r11)))) (fun c12 => ?_) (fun c12 => ?_)
  ·exact rf_ret (rnd_ret (by simp) ⟨_, rfl⟩)
  refine rf_s (AV.int .i64 ((i8 + 1 : Nat) : Int)) (ix_inc he7 hle7) ?_
  exact rf_ret (rnd_go ⟨rfl, rfl⟩)
 ·intro hl s1 v w3 hI
  obtain ⟨rfl, rfl⟩ := hI
  refine rf_s (AV.bool false) (ix_end _) ?_
  refine rf_cf ?_
  exact rf_ret ⟨by simp, ⟨_, _, rfl⟩⟩
 ·intro hl b2 q hq
  obtain ⟨u2, u7, rfl⟩ := hq
  refine rf_bt rfl ?_
  exact rf_fin _ (fin_same _ _) ⟨rfl, rfl⟩
 ·intro hl b2 q hq
  obtain ⟨u7, rfl⟩ := hq
  refine rf_bf rfl ?_
  refine rf_bt rfl ?_
  exact rf_fin _ (fin_same _ _) ⟨rfl, rfl⟩

noncomputable def t_cue_form (a0 : (List CueD)) : Option Int :=
 if 300 < (a0.length : Int) then
  some 2
 else
 forE a0 (fun (i8 : Nat) e7 (s1 : Int) => (show Option (Lr Int Int Int) from
   if (!(withinB e7.number 1 9999999)) = true then
    some (.ret 1)
   else
   (if decide (0 < (i8 : Int)) = true then tIx a0 (IntKind.i64.wrap ((i8 : Int) - 1)) else some default).bind fun x9 =>
   if ((decide (0 < (i8 : Int))) && (decide (e7.number ≤ x9.number))) = true then
    some (.ret 7)
   else
   (if decide (¬ (e7.title = (⟨#[]⟩ : ByteArray))) = true then tq (okS e7.title) (titleB e7.title) else some default).bind fun r10 =>
   if ((decide (¬ (e7.title = (⟨#[]⟩ : ByteArray)))) && (!r10)) = true then
    some (.ret 3)
   else
   if (((((!((withinB e7.delay 0 36000000))) || (!((withinB e7.up 0 36000000)))) || (!((withinB e7.down 0 36000000)))) || (!((withinB e7.other 0 36000000)))) || (!(withinB e7.follow (-1) 36000000))) = true then
    some (.ret 1)
   else
   if ¬ ((curveF e7.curve) = 0) then
    some (.ret (curveF e7.curve))
   else
   if 2000 < (e7.moves.length : Int) then
    some (.ret 2)
   else
   (t_cue_checkMoves e7.moves).bind fun r11 =>
   if ¬ (r11 = 0) then
    some (.ret r11)
   else
   some (.go (IntKind.i64.wrap (s1 + (e7.moves.length : Int)))))) (fun s1 => some s1) 0 (fun b2 =>
  some (if (decide (10000 < b2)) = true then 2 else 0)) (fun b2 =>
  some b2)
theorem h_cue_form {a0 : (List CueD)} {σ : Heap} {r : Int} (h : t_cue_form a0 = some r) : m_cue_form [(sl 11 cCue a0)] σ = some ((AV.int .i64 r), σ) := by
 refine rf_wrap1 (f := r_cue_form) (y0 := (sl 11 cCue a0)) (enc := fun r : Int => (AV.int .i64 r)) (T := t_cue_form a0) (nn_t1 (nn_e (fun _ => rfl) _) rfl) rfl ?_ r h
 unfold r_cue_form t_cue_form
 refine rf_s (AV.int .i64 (a0.length : Int)) (lenS_sl _ _ _) ?_
 refine rf_s (AV.bool (decide (300 < (a0.length : Int)))) rfl ?_
 refine rf_c (p := 300 < (a0.length : Int)) (fun c19 => ?_) (fun c19 => ?_)
 ·exact rf_fin _ (fin_same _ _) ⟨rfl, rfl⟩
 refine rf_s (AV.int .i64 (a0.length : Int)) (lenS_sl _ _ _) ?_
 refine rf_for (B := Int) (R := Int) (fun (i8 : Nat) (s1 : Int) v w3 => v = [(AV.int .i64 0), (AV.int .i64 s1), (AV.int .i64 (i8 : Int))] ∧ σ = w3) (fun (b2 : Int) (q : LS) => ∃ u2 u13, q = ((AX.exit 0), ([u2, (AV.int .i64 b2), u13] : List AV), σ)) (fun (b2 : Int) (q : LS) => ∃ u3 u13, q = (AX.ret, ([(AV.int .i64 b2), u3, u13] : List AV), σ)) ?_ ?_ ⟨rfl, rfl⟩ ?_ ?_
 ·intro hle7 i8 e7 s1 v w3 he7 hI
  obtain ⟨rfl, rfl⟩ := hI
  refine rf_s (AV.bool true) (ix_lt he7) ?_
  refine rf_ct ?_
  refine rf_s (AV.rp (cCue e7)) (ix_for he7) ?_
  refine rf_s (AV.agg (cCue e7)) rfl ?_
  refine rf_s (cCue e7) rfl ?_
  refine rf_s (cCue e7) (sp_cCue _ _ rfl) ?_
  refine rf_s (AV.int .i64 e7.number) rfl ?_
  refine rf_s ((AV.bool (withinB e7.number 1 9999999)), σ) (Within_eq e7.number 1 9999999 σ) ?_
  refine rf_s (AV.bool (!(withinB e7.number 1 9999999))) rfl ?_
  refine rf_cb (c := (!(withinB e7.number 1 9999999))) (fun c18 => ?_) (fun c18 => ?_)
  ·exact rf_ret (rnd_ret (by simp) ⟨_, _, rfl⟩)
  refine rf_s (AV.bool (decide (0 < (i8 : Int)))) rfl ?_
  refine rf_gt (AV.int .i64 e7.number) (fun hg => rfl) ?_
  refine rf_gt (sl 11 cCue a0) (fun hg => rfl) ?_
  refine rf_gt (AV.int .i64 (i8 : Int)) (fun hg => rfl) ?_
  refine rf_gt (AV.int .i64 (IntKind.i64.wrap ((i8 : Int) - 1))) (fun hg => by
    simp only [hg, Bool.true_and, cond_true]; first | done | exact rfl) ?_
  refine rf_gto (ω := CueD) (fun x9 => (AV.rp (cCue x9))) (fun hg x9 hx9 => by
    simp only [hg, Bool.true_and, cond_true]; first | done | exact ix_at hx9) (fun x9 hx9 => ?_)
  refine rf_gt (AV.rp (cCue x9)) (fun hg => by
    simp only [hg, Bool.true_and, cond_true]; first | done | exact rfl) ?_
  refine rf_gt (AV.int .i64 x9.number) (fun hg => by
    simp only [hg, Bool.true_and, cond_true]; first | done | exact rfl) ?_
  refine rf_gt (AV.bool (decide (e7.number ≤ x9.number))) (fun hg => by
    simp only [hg, Bool.true_and, cond_true]; first | done | exact rfl) ?_
  refine rf_s (AV.bool ((decide (0 < (i8 : Int))) && (decide (e7.number ≤ x9.number)))) (pk_and _ _) ?_
  refine rf_cb (c := ((decide (0 < (i8 : Int))) && (decide (e7.number ≤ x9.number)))) (fun c17 => ?_) (fun c17 => ?_)
  ·exact rf_ret (rnd_ret (by simp) ⟨_, _, rfl⟩)
  refine rf_s (AV.str e7.title) rfl ?_
  refine rf_s (AV.bool (decide (¬ (e7.title = (⟨#[]⟩ : ByteArray))))) (aNeZ _ _) ?_
  refine rf_gt (AV.str e7.title) (fun hg => rfl) ?_
  refine rf_gto (ω := Bool) (fun r10 => (AV.bool r10)) (fun hg r10 hr10 => by
    simp only [hg, Bool.true_and, cond_true]; first | done | exact (quiet_of ((tq_of (e := fun r : Bool => ((AV.bool r), σ)) (fun hs => Title_eq e7.title hs σ)) hr10))) (fun r10 hr10 => ?_)
  refine rf_gt (AV.bool (!r10)) (fun hg => by
    simp only [hg, Bool.true_and, cond_true]; first | done | exact rfl) ?_
  refine rf_s (AV.bool ((decide (¬ (e7.title = (⟨#[]⟩ : ByteArray)))) && (!r10))) (pk_and _ _) ?_
  refine rf_cb (c := ((decide (¬ (e7.title = (⟨#[]⟩ : ByteArray)))) && (!r10))) (fun c16 => ?_) (fun c16 => ?_)
  ·exact rf_ret (rnd_ret (by simp) ⟨_, _, rfl⟩)
  refine rf_s (AV.int .i64 e7.delay) rfl ?_
  refine rf_s ((AV.bool ((withinB e7.delay 0 36000000))), σ) (h_cue_isTime (σ := σ) (r := (withinB e7.delay 0 36000000)) rfl) ?_
  refine rf_s (AV.bool (!((withinB e7.delay 0 36000000)))) rfl ?_
  refine rf_gf (AV.int .i64 e7.up) (fun hg => rfl) ?_
  refine rf_gf (AV.bool ((withinB e7.up 0 36000000))) (fun hg => by
    simp only [hg, Bool.true_and, cond_true]; first | done | exact (quiet_of (h_cue_isTime (σ := σ) (r := (withinB e7.up 0 36000000)) rfl))) ?_
  refine rf_gf (AV.bool (!((withinB e7.up 0 36000000)))) (fun hg => by
    simp only [hg, Bool.true_and, cond_true]; first | done | exact rfl) ?_
  refine rf_s (AV.bool ((!((withinB e7.delay 0 36000000))) || (!((withinB e7.up 0 36000000))))) (pk_or _ _) ?_
  refine rf_gf (AV.int .i64 e7.down) (fun hg => rfl) ?_
  refine rf_gf (AV.bool ((withinB e7.down 0 36000000))) (fun hg => by
    simp only [hg, Bool.true_and, cond_true]; first | done | exact (quiet_of (h_cue_isTime (σ := σ) (r := (withinB e7.down 0 36000000)) rfl))) ?_
  refine rf_gf (AV.bool (!((withinB e7.down 0 36000000)))) (fun hg => by
    simp only [hg, Bool.true_and, cond_true]; first | done | exact rfl) ?_
  refine rf_s (AV.bool (((!((withinB e7.delay 0 36000000))) || (!((withinB e7.up 0 36000000)))) || (!((withinB e7.down 0 36000000))))) (pk_or _ _) ?_
  refine rf_gf (AV.int .i64 e7.other) (fun hg => rfl) ?_
  refine rf_gf (AV.bool ((withinB e7.other 0 36000000))) (fun hg => by
    simp only [hg, Bool.true_and, cond_true]; first | done | exact (quiet_of (h_cue_isTime (σ := σ) (r := (withinB e7.other 0 36000000)) rfl))) ?_
  refine rf_gf (AV.bool (!((withinB e7.other 0 36000000)))) (fun hg => by
    simp only [hg, Bool.true_and, cond_true]; first | done | exact rfl) ?_
  refine rf_s (AV.bool ((((!((withinB e7.delay 0 36000000))) || (!((withinB e7.up 0 36000000)))) || (!((withinB e7.down 0 36000000)))) || (!((withinB e7.other 0 36000000))))) (pk_or _ _) ?_
  refine rf_gf (AV.int .i64 e7.follow) (fun hg => rfl) ?_
  refine rf_gf (AV.bool (withinB e7.follow (-1) 36000000)) (fun hg => by
    simp only [hg, Bool.true_and, cond_true]; first | done | exact (quiet_of (Within_eq e7.follow (-1) 36000000 σ))) ?_
  refine rf_gf (AV.bool (!(withinB e7.follow (-1) 36000000))) (fun hg => by
    simp only [hg, Bool.true_and, cond_true]; first | done | exact rfl) ?_
  refine rf_s (AV.bool (((((!((withinB e7.delay 0 36000000))) || (!((withinB e7.up 0 36000000)))) || (!((withinB e7.down 0 36000000)))) || (!((withinB e7.other 0 36000000)))) || (!(withinB e7.follow (-1) 36000000)))) (pk_or _ _) ?_
  refine rf_cb (c := (((((!((withinB e7.delay 0 36000000))) || (!((withinB e7.up 0 36000000)))) || (!((withinB e7.down 0 36000000)))) || (!((withinB e7.other 0 36000000)))) || (!(withinB e7.follow (-1) 36000000)))) (fun c15 => ?_) (fun c15 => ?_)
  ·exact rf_ret (rnd_ret (by simp) ⟨_, _, rfl⟩)
  refine rf_s (AV.agg (cCurve e7.curve)) rfl ?_
  refine rf_s ((AV.int .i64 (curveF e7.curve)), σ) (CheckCurve_eq e7.curve σ) ?_
  refine rf_s (AV.bool (decide (¬ ((curveF e7.curve) = 0)))) (aNe _ _ _) ?_
  refine rf_c (p := ¬ ((curveF e7.curve) = 0)) (fun c14 => ?_) (fun c14 => ?_)
  ·exact rf_ret (rnd_ret (by simp) ⟨_, _, rfl⟩)
  refine rf_s (sl 8 cMove e7.moves) rfl ?_
  refine rf_s (AV.int .i64 (e7.moves.length : Int)) (lenS_sl _ _ _) ?_
  refine rf_s (AV.bool (decide (2000 < (e7.moves.length : Int)))) rfl ?_
  refine rf_c (p := 2000 < (e7.moves.length : Int)) (fun c13 => ?_) (fun c13 => ?_)
  ·exact rf_ret (rnd_ret (by simp) ⟨_, _, rfl⟩)
  refine rf_s (sl 8 cMove e7.moves) rfl ?_
  refine rf_o (fun r11 : Int => ((AV.int .i64 r11), σ)) (fun r11 hr11 => h_cue_checkMoves hr11) (fun r11 hr11 => ?_)
  refine rf_s (AV.bool (decide (¬ (r11 = 0)))) (aNe _ _ _) ?_
  refine rf_c (p := ¬ (r11 = 0)) (fun c12 => ?_) (fun c12 => ?_)
  ·exact rf_ret (rnd_ret (by simp) ⟨_, _, rfl⟩)
  refine rf_s (sl 8 cMove e7.moves) rfl ?_
  refine rf_s (AV.int .i64 (e7.moves.length : Int)) (lenS_sl _ _ _) ?_
  refine rf_s (AV.int .i64 (IntKind.i64.wrap (s1 + (e7.moves.length : Int)))) rfl ?_
  refine rf_s (AV.int .i64 ((i8 + 1 : Nat) : Int)) (ix_inc he7 hle7) ?_
  exact rf_ret (rnd_go ⟨rfl, rfl⟩)
 ·intro hl s1 v w3 hI
  obtain ⟨rfl, rfl⟩ := hI
  refine rf_s (AV.bool false) (ix_end _) ?_
  refine rf_cf ?_
  exact rf_ret ⟨by simp, ⟨_, _, rfl⟩⟩
 ·intro hl b2 q hq
  obtain ⟨u2, u13, rfl⟩ := hq
  refine rf_bt rfl ?_
  refine rf_s (AV.bool (decide (10000 < b2))) rfl ?_
  refine rf_s ((AV.int .i64 (if (decide (10000 < b2)) = true then 2 else 0)), σ) (When_eq (decide (10000 < b2)) 2 σ) ?_
  exact rf_fin _ (fin_same _ _) ⟨rfl, rfl⟩
 ·intro hl b2 q hq
  obtain ⟨u3, u13, rfl⟩ := hq
  refine rf_bf rfl ?_
  refine rf_bt rfl ?_
  exact rf_fin _ (fin_same _ _) ⟨rfl, rfl⟩

noncomputable def t_R4_Before (a0 : KeyD) (a1 : KeyD) : Option Bool :=
 some ((decide (a0.unit < a1.unit)) || ((decide (a0.unit = a1.unit)) && (Op.bytesLess a0.param.toList a1.param.toList)))
theorem h_R4_Before {a0 : KeyD} { a1 : KeyD} {σ : Heap} {r : Bool} (h : t_R4_Before a0 a1 = some r) : m_R4_Before [(AV.agg (cKey a0)), (AV.agg (cKey a1))] σ = some ((AV.bool r), σ) := by
 refine rf_wrap2 (f := r_R4_Before) (y0 := (AV.agg (cKey a0))) (y1 := (AV.agg (cKey a1))) (enc := fun r : Bool => (AV.bool r)) (T := t_R4_Before a0 a1) rfl rfl ?_ r h
 unfold r_R4_Before t_R4_Before
 refine rf_s (cKey a0) rfl ?_
 refine rf_s (cKey a1) rfl ?_
 refine rf_s (AV.int .i64 a0.unit) rfl ?_
 refine rf_s (AV.int .i64 a1.unit) rfl ?_
 refine rf_s (AV.bool (decide (a0.unit < a1.unit))) rfl ?_
 refine rf_gf (AV.int .i64 a0.unit) (fun hg => rfl) ?_
 refine rf_gf (AV.int .i64 a1.unit) (fun hg => rfl) ?_
 refine rf_gf (AV.bool (decide (a0.unit = a1.unit))) (fun hg => by
   simp only [hg, Bool.true_and, cond_true]; first | done | exact (aEq _ _ _)) ?_
 refine rf_gf (AV.bool (decide (a0.unit = a1.unit))) (fun hg => by
   simp only [hg, Bool.true_and, cond_true]; first | done | exact rfl) ?_
 refine rf_ggt (AV.str a0.param) (fun hg => rfl) ?_
 refine rf_ggt (AV.str a1.param) (fun hg => rfl) ?_
 refine rf_ggt (AV.bool (Op.bytesLess a0.param.toList a1.param.toList)) (fun hg => by
   simp only [hg, Bool.true_and, cond_true]; first | done | exact rfl) ?_
 refine rf_gf (AV.bool ((decide (a0.unit = a1.unit)) && (Op.bytesLess a0.param.toList a1.param.toList))) (fun hg => by
   simp only [hg, Bool.true_and, cond_true]; first | done | exact (pk_and _ _)) ?_
 refine rf_s (AV.bool ((decide (a0.unit < a1.unit)) || ((decide (a0.unit = a1.unit)) && (Op.bytesLess a0.param.toList a1.param.toList)))) (pk_or _ _) ?_
 exact rf_fin _ (fin_same _ _) ⟨rfl, rfl⟩

noncomputable def t_R5_checkMove (a0 : MoveD) (a1 : (List MoveD)) : Option Int :=
 if (!(withinB a0.key.unit 1 9999)) = true then
  some 1
 else
 (tq (okS a0.key.param) (nameB a0.key.param)).bind fun r1 =>
 if (!r1) = true then
  some 5
 else
 if ((a0.release && (decide (¬ (a0.value = (⟨0, 0⟩ : ValueD))))) || ((decide (¬ (a0.value.level = 0))) && (decide (¬ (a0.value.preset = 0))))) = true then
  some 3
 else
 if ((!(withinB a0.value.level 0 65535)) || (!(withinB a0.value.preset 0 999))) = true then
  some 1
 else
 if ((!a0.timed) && ((decide (¬ (a0.delay = 0))) || (decide (¬ (a0.time = 0))))) = true then
  some 3
 else
 if ((!(withinB a0.delay 0 36000000)) || (!(withinB a0.time 0 36000000))) = true then
  some 1
 else
 (if decide (0 < (a1.length : Int)) = true then tIx a1 (IntKind.i64.wrap ((a1.length : Int) - 1)) else some default).bind fun x2 =>
 if ((decide (0 < (a1.length : Int))) && (!(((decide (x2.key.unit < a0.key.unit)) || ((decide (x2.key.unit = a0.key.unit)) && (Op.bytesLess x2.key.param.toList a0.key.param.toList)))))) = true then
  some 7
 else
 some 0
theorem h_R5_checkMove {a0 : MoveD} { a1 : (List MoveD)} {σ : Heap} {r : Int} (h : t_R5_checkMove a0 a1 = some r) : m_R5_checkMove [(AV.agg (cMove a0)), (sl 8 cMove a1)] σ = some ((AV.int .i64 r), σ) := by
 refine rf_wrap2 (f := r_R5_checkMove) (y0 := (AV.agg (cMove a0))) (y1 := (sl 8 cMove a1)) (enc := fun r : Int => (AV.int .i64 r)) (T := t_R5_checkMove a0 a1) rfl rfl ?_ r h
 unfold r_R5_checkMove t_R5_checkMove
 refine rf_s (cMove a0) rfl ?_
 refine rf_s (AV.int .i64 a0.key.unit) rfl ?_
 refine rf_s ((AV.bool (withinB a0.key.unit 1 9999)), σ) (Within1_eq a0.key.unit 1 9999 σ) ?_
 refine rf_s (AV.bool (!(withinB a0.key.unit 1 9999))) rfl ?_
 refine rf_cb (c := (!(withinB a0.key.unit 1 9999))) (fun c9 => ?_) (fun c9 => ?_)
 ·exact rf_fin _ (fin_same _ _) ⟨rfl, rfl⟩
 refine rf_s (AV.str a0.key.param) rfl ?_
 refine rf_o (fun r1 : Bool => ((AV.bool r1), σ)) (fun r1 hr1 => (tq_of (e := fun r : Bool => ((AV.bool r), σ)) (fun hs => IsName1_eq a0.key.param hs σ)) hr1) (fun r1 hr1 => ?_)
 refine rf_s (AV.bool (!r1)) rfl ?_
 refine rf_cb (c := (!r1)) (fun c8 => ?_) (fun c8 => ?_)
 ·exact rf_fin _ (fin_same _ _) ⟨rfl, rfl⟩
 refine rf_s (AV.bool a0.release) rfl ?_
 refine rf_gt (AV.agg (cValue a0.value)) (fun hg => rfl) ?_
 refine rf_gt (AV.agg (cValue (⟨0, 0⟩ : ValueD))) (fun hg => rfl) ?_
 refine rf_gt (AV.bool (decide (¬ (a0.value = (⟨0, 0⟩ : ValueD))))) (fun hg => by
   simp only [hg, Bool.true_and, cond_true]; first | done | exact (ne_Value _ _)) ?_
 refine rf_s (AV.bool (a0.release && (decide (¬ (a0.value = (⟨0, 0⟩ : ValueD)))))) (pk_and _ _) ?_
 refine rf_gf (AV.int .i64 a0.value.level) (fun hg => rfl) ?_
 refine rf_gf (AV.bool (decide (¬ (a0.value.level = 0)))) (fun hg => by
   simp only [hg, Bool.true_and, cond_true]; first | done | exact (aNe _ _ _)) ?_
 refine rf_gf (AV.bool (decide (¬ (a0.value.level = 0)))) (fun hg => by
   simp only [hg, Bool.true_and, cond_true]; first | done | exact rfl) ?_
 refine rf_ggt (AV.int .i64 a0.value.preset) (fun hg => rfl) ?_
 refine rf_ggt (AV.bool (decide (¬ (a0.value.preset = 0)))) (fun hg => by
   simp only [hg, Bool.true_and, cond_true]; first | done | exact (aNe _ _ _)) ?_
 refine rf_gf (AV.bool ((decide (¬ (a0.value.level = 0))) && (decide (¬ (a0.value.preset = 0))))) (fun hg => by
   simp only [hg, Bool.true_and, cond_true]; first | done | exact (pk_and _ _)) ?_
 refine rf_s (AV.bool ((a0.release && (decide (¬ (a0.value = (⟨0, 0⟩ : ValueD))))) || ((decide (¬ (a0.value.level = 0))) && (decide (¬ (a0.value.preset = 0)))))) (pk_or _ _) ?_
 refine rf_cb (c := ((a0.release && (decide (¬ (a0.value = (⟨0, 0⟩ : ValueD))))) || ((decide (¬ (a0.value.level = 0))) && (decide (¬ (a0.value.preset = 0)))))) (fun c7 => ?_) (fun c7 => ?_)
 ·exact rf_fin _ (fin_same _ _) ⟨rfl, rfl⟩
 refine rf_s (AV.int .i64 a0.value.level) rfl ?_
 refine rf_s ((AV.bool (withinB a0.value.level 0 65535)), σ) (IsLevel1_eq a0.value.level σ) ?_
 refine rf_s (AV.bool (!(withinB a0.value.level 0 65535))) rfl ?_
 refine rf_gf (AV.int .i64 a0.value.preset) (fun hg => rfl) ?_
 refine rf_gf (AV.bool (withinB a0.value.preset 0 999)) (fun hg => by
   simp only [hg, Bool.true_and, cond_true]; first | done | exact (quiet_of (Within1_eq a0.value.preset 0 999 σ))) ?_
 refine rf_gf (AV.bool (!(withinB a0.value.preset 0 999))) (fun hg => by
   simp only [hg, Bool.true_and, cond_true]; first | done | exact rfl) ?_
 refine rf_s (AV.bool ((!(withinB a0.value.level 0 65535)) || (!(withinB a0.value.preset 0 999)))) (pk_or _ _) ?_
 refine rf_cb (c := ((!(withinB a0.value.level 0 65535)) || (!(withinB a0.value.preset 0 999)))) (fun c6 => ?_) (fun c6 => ?_)
 ·exact rf_fin _ (fin_same _ _) ⟨rfl, rfl⟩
 refine rf_s (AV.bool a0.timed) rfl ?_
 refine rf_s (AV.bool (!a0.timed)) rfl ?_
 refine rf_gt (AV.int .i64 a0.delay) (fun hg => rfl) ?_
 refine rf_gt (AV.bool (decide (¬ (a0.delay = 0)))) (fun hg => by
   simp only [hg, Bool.true_and, cond_true]; first | done | exact (aNe _ _ _)) ?_
 refine rf_gt (AV.bool (decide (¬ (a0.delay = 0)))) (fun hg => by
   simp only [hg, Bool.true_and, cond_true]; first | done | exact rfl) ?_
 refine rf_ggf (AV.int .i64 a0.time) (fun hg => rfl) ?_
 refine rf_ggf (AV.bool (decide (¬ (a0.time = 0)))) (fun hg => by
   simp only [hg, Bool.true_and, cond_true]; first | done | exact (aNe _ _ _)) ?_
 refine rf_gt (AV.bool ((decide (¬ (a0.delay = 0))) || (decide (¬ (a0.time = 0))))) (fun hg => by
   simp only [hg, Bool.true_and, cond_true]; first | done | exact (pk_or _ _)) ?_
 refine rf_s (AV.bool ((!a0.timed) && ((decide (¬ (a0.delay = 0))) || (decide (¬ (a0.time = 0)))))) (pk_and _ _) ?_
 refine rf_cb (c := ((!a0.timed) && ((decide (¬ (a0.delay = 0))) || (decide (¬ (a0.time = 0)))))) (fun c5 => ?_) (fun c5 => ?_)
 ·exact rf_fin _ (fin_same _ _) ⟨rfl, rfl⟩
 refine rf_s (AV.int .i64 a0.delay) rfl ?_
 refine rf_s ((AV.bool (withinB a0.delay 0 36000000)), σ) (IsTime1_eq a0.delay σ) ?_
 refine rf_s (AV.bool (!(withinB a0.delay 0 36000000))) rfl ?_
 refine rf_gf (AV.int .i64 a0.time) (fun hg => rfl) ?_
 refine rf_gf (AV.bool (withinB a0.time 0 36000000)) (fun hg => by
   simp only [hg, Bool.true_and, cond_true]; first | done | exact (quiet_of (IsTime1_eq a0.time σ))) ?_
 refine rf_gf (AV.bool (!(withinB a0.time 0 36000000))) (fun hg => by
   simp only [hg, Bool.true_and, cond_true]; first | done | exact rfl) ?_
 refine rf_s (AV.bool ((!(withinB a0.delay 0 36000000)) || (!(withinB a0.time 0 36000000)))) (pk_or _ _) ?_
 refine rf_cb (c := ((!(withinB a0.delay 0 36000000)) || (!(withinB a0.time 0 36000000)))) (fun c4 => ?_) (fun c4 => ?_)
 ·exact rf_fin _ (fin_same _ _) ⟨rfl, rfl⟩
 refine rf_s (AV.int .i64 (a1.length : Int)) (lenS_sl _ _ _) ?_
 refine rf_s (AV.bool (decide (0 < (a1.length : Int)))) rfl ?_
 refine rf_gt (sl 8 cMove a1) (fun hg => rfl) ?_
 refine rf_gt (sl 8 cMove a1) (fun hg => rfl) ?_
 refine rf_gt (AV.int .i64 (a1.length : Int)) (fun hg => by
   simp only [hg, Bool.true_and, cond_true]; first | done | exact (lenS_sl _ _ _)) ?_
 refine rf_gt (AV.int .i64 (IntKind.i64.wrap ((a1.length : Int) - 1))) (fun hg => by
   simp only [hg, Bool.true_and, cond_true]; first | done | exact rfl) ?_
 refine rf_gto (ω := MoveD) (fun x2 => (AV.rp (cMove x2))) (fun hg x2 hx2 => by
   simp only [hg, Bool.true_and, cond_true]; first | done | exact ix_at hx2) (fun x2 hx2 => ?_)
 refine rf_gt (AV.rp (cMove x2)) (fun hg => by
   simp only [hg, Bool.true_and, cond_true]; first | done | exact rfl) ?_
 refine rf_gt (AV.agg (cKey x2.key)) (fun hg => by
   simp only [hg, Bool.true_and, cond_true]; first | done | exact rfl) ?_
 refine rf_gt (AV.agg (cKey a0.key)) (fun hg => rfl) ?_
 refine rf_gt (AV.bool (((decide (x2.key.unit < a0.key.unit)) || ((decide (x2.key.unit = a0.key.unit)) && (Op.bytesLess x2.key.param.toList a0.key.param.toList))))) (fun hg => by
   simp only [hg, Bool.true_and, cond_true]; first | done | exact (quiet_of (h_R4_Before (σ := σ) (r := ((decide (x2.key.unit < a0.key.unit)) || ((decide (x2.key.unit = a0.key.unit)) && (Op.bytesLess x2.key.param.toList a0.key.param.toList)))) rfl))) ?_
 refine rf_gt (AV.bool (!(((decide (x2.key.unit < a0.key.unit)) || ((decide (x2.key.unit = a0.key.unit)) && (Op.bytesLess x2.key.param.toList a0.key.param.toList)))))) (fun hg => by
   simp only [hg, Bool.true_and, cond_true]; first | done | exact rfl) ?_
 refine rf_s (AV.bool ((decide (0 < (a1.length : Int))) && (!(((decide (x2.key.unit < a0.key.unit)) || ((decide (x2.key.unit = a0.key.unit)) && (Op.bytesLess x2.key.param.toList a0.key.param.toList))))))) (pk_and _ _) ?_
 refine rf_cb (c := ((decide (0 < (a1.length : Int))) && (!(((decide (x2.key.unit < a0.key.unit)) || ((decide (x2.key.unit = a0.key.unit)) && (Op.bytesLess x2.key.param.toList a0.key.param.toList))))))) (fun c3 => ?_) (fun c3 => ?_)
 ·exact rf_fin _ (fin_same _ _) ⟨rfl, rfl⟩
 exact rf_fin _ (fin_same _ _) ⟨rfl, rfl⟩

noncomputable def t_R5_checkMoves (a0 : (List MoveD)) : Option Int :=
 if 2000 < (a0.length : Int) then
  some 2
 else
 forE a0 (fun (i8 : Nat) e7 (s1 : Unit) => (show Option (Lr Unit Unit Int) from
   (tSl a0 none (some (i8 : Int))).bind fun x9 =>
   (t_R5_checkMove e7 x9).bind fun r10 =>
   if ¬ (r10 = 0) then
    some (.ret r10)
   else
   some (.go ()))) (fun s1 => some ()) () (fun b2 =>
  some 0) (fun b2 =>
  some b2)
theorem h_R5_checkMoves {a0 : (List MoveD)} {σ : Heap} {r : Int} (h : t_R5_checkMoves a0 = some r) : m_R5_checkMoves [(sl 8 cMove a0)] σ = some ((AV.int .i64 r), σ) := by
 refine rf_wrap1 (f := r_R5_checkMoves) (y0 := (sl 8 cMove a0)) (enc := fun r : Int => (AV.int .i64 r)) (T := t_R5_checkMoves a0) rfl rfl ?_ r h
 unfold r_R5_checkMoves t_R5_checkMoves
 refine rf_s (AV.int .i64 (a0.length : Int)) (lenS_sl _ _ _) ?_
 refine rf_s (AV.bool (decide (2000 < (a0.length : Int)))) rfl ?_
 refine rf_c (p := 2000 < (a0.length : Int)) (fun c12 => ?_) (fun c12 => ?_)
 ·exact rf_fin _ (fin_same _ _) ⟨rfl, rfl⟩
 refine rf_s (AV.int .i64 (a0.length : Int)) (lenS_sl _ _ _) ?_
 refine rf_for (B := Unit) (R := Int) (fun (i8 : Nat) (s1 : Unit) v w3 => v = [(AV.int .i64 0), (AV.int .i64 (i8 : Int))] ∧ σ = w3) (fun (b2 : Unit) (q : LS) => ∃ u2 u11, q = ((AX.exit 0), ([u2, u11] : List AV), σ)) (fun (b2 : Int) (q : LS) => ∃ u11, q = (AX.ret, ([(AV.int .i64 b2), u11] : List AV), σ)) ?_ ?_ ⟨rfl, rfl⟩ ?_ ?_
 ·intro hle7 i8 e7 s1 v w3 he7 hI
  obtain ⟨rfl, rfl⟩ := hI
  refine rf_s (AV.bool true) (ix_lt he7) ?_
  refine rf_ct ?_
  refine rf_s (AV.rp (cMove e7)) (ix_for he7) ?_
  refine rf_s (AV.agg (cMove e7)) rfl ?_
  refine rf_s (cMove e7) rfl ?_
  refine rf_s (cMove e7) (sp_cMove _ _ rfl) ?_
  refine rf_s (AV.agg (cMove e7)) rfl ?_
  refine rf_o (fun x9 : (List MoveD) => (sl 8 cMove x9)) (fun x9 hx9 => (sls_at hx9)) (fun x9 hx9 => ?_)
  refine rf_o (fun r10 : Int => (AV.int .i64 r10)) (fun r10 hr10 => (quiet_of (h_R5_checkMove hr10))) (fun r10 hr10 => ?_)
  refine rf_s (AV.bool (decide (¬ (r10 = 0)))) (aNe _ _ _) ?_
  refine rf_c (p := ¬ (r10 = 0)) (fun c11 => ?_) (fun c11 => ?_)
  ·exact rf_ret (rnd_ret (by simp) ⟨_, rfl⟩)
  refine rf_s (AV.int .i64 ((i8 + 1 : Nat) : Int)) (ix_inc he7 hle7) ?_
  exact rf_ret (rnd_go ⟨rfl, rfl⟩)
 ·intro hl s1 v w3 hI
  obtain ⟨rfl, rfl⟩ := hI
  refine rf_s (AV.bool false) (ix_end _) ?_
  refine rf_cf ?_
  exact rf_ret ⟨by simp, ⟨_, _, rfl⟩⟩
 ·intro hl b2 q hq
  obtain ⟨u2, u11, rfl⟩ := hq
  refine rf_bt rfl ?_
  exact rf_fin _ (fin_same _ _) ⟨rfl, rfl⟩
 ·intro hl b2 q hq
  obtain ⟨u11, rfl⟩ := hq
  refine rf_bf rfl ?_
  refine rf_bt rfl ?_
  exact rf_fin _ (fin_same _ _) ⟨rfl, rfl⟩

noncomputable def t_R5_CheckForm (a0 : (List CueD)) : Option Int :=
 if 300 < (a0.length : Int) then
  some 2
 else
 forE a0 (fun (i8 : Nat) e7 (s1 : Int) => (show Option (Lr Int Int Int) from
   if (!(withinB e7.number 1 9999999)) = true then
    some (.ret 1)
   else
   (if decide (0 < (i8 : Int)) = true then tIx a0 (IntKind.i64.wrap ((i8 : Int) - 1)) else some default).bind fun x9 =>
   if ((decide (0 < (i8 : Int))) && (decide (e7.number ≤ x9.number))) = true then
    some (.ret 7)
   else
   (if decide (¬ (e7.title = (⟨#[]⟩ : ByteArray))) = true then tq (okS e7.title) (titleB e7.title) else some default).bind fun r10 =>
   if ((decide (¬ (e7.title = (⟨#[]⟩ : ByteArray)))) && (!r10)) = true then
    some (.ret 3)
   else
   if (((((!(withinB e7.delay 0 36000000)) || (!(withinB e7.up 0 36000000))) || (!(withinB e7.down 0 36000000))) || (!(withinB e7.other 0 36000000))) || (!(withinB e7.follow (-1) 36000000))) = true then
    some (.ret 1)
   else
   if ¬ ((curveF e7.curve) = 0) then
    some (.ret (curveF e7.curve))
   else
   (t_R5_checkMoves e7.moves).bind fun r11 =>
   if ¬ (r11 = 0) then
    some (.ret r11)
   else
   some (.go (IntKind.i64.wrap (s1 + (e7.moves.length : Int)))))) (fun s1 => some s1) 0 (fun b2 =>
  if 10000 < b2 then
   some 2
  else
  some 0) (fun b2 =>
  some b2)
theorem h_R5_CheckForm {a0 : (List CueD)} {σ : Heap} {r : Int} (h : t_R5_CheckForm a0 = some r) : m_R5_CheckForm [(sl 11 cCue a0)] σ = some ((AV.int .i64 r), σ) := by
 refine rf_wrap1 (f := r_R5_CheckForm) (y0 := (sl 11 cCue a0)) (enc := fun r : Int => (AV.int .i64 r)) (T := t_R5_CheckForm a0) (nn_t1 (nn_e (fun _ => rfl) _) rfl) rfl ?_ r h
 unfold r_R5_CheckForm t_R5_CheckForm
 refine rf_s (AV.int .i64 (a0.length : Int)) (lenS_sl _ _ _) ?_
 refine rf_s (AV.bool (decide (300 < (a0.length : Int)))) rfl ?_
 refine rf_c (p := 300 < (a0.length : Int)) (fun c19 => ?_) (fun c19 => ?_)
 ·exact rf_fin _ (fin_same _ _) ⟨rfl, rfl⟩
 refine rf_s (AV.int .i64 (a0.length : Int)) (lenS_sl _ _ _) ?_
 refine rf_for (B := Int) (R := Int) (fun (i8 : Nat) (s1 : Int) v w3 => v = [(AV.int .i64 0), (AV.int .i64 s1), (AV.int .i64 (i8 : Int))] ∧ σ = w3) (fun (b2 : Int) (q : LS) => ∃ u2 u13, q = ((AX.exit 0), ([u2, (AV.int .i64 b2), u13] : List AV), σ)) (fun (b2 : Int) (q : LS) => ∃ u3 u13, q = (AX.ret, ([(AV.int .i64 b2), u3, u13] : List AV), σ)) ?_ ?_ ⟨rfl, rfl⟩ ?_ ?_
 ·intro hle7 i8 e7 s1 v w3 he7 hI
  obtain ⟨rfl, rfl⟩ := hI
  refine rf_s (AV.bool true) (ix_lt he7) ?_
  refine rf_ct ?_
  refine rf_s (AV.rp (cCue e7)) (ix_for he7) ?_
  refine rf_s (AV.agg (cCue e7)) rfl ?_
  refine rf_s (cCue e7) rfl ?_
  refine rf_s (cCue e7) (sp_cCue _ _ rfl) ?_
  refine rf_s (AV.int .i64 e7.number) rfl ?_
  refine rf_s ((AV.bool (withinB e7.number 1 9999999)), σ) (Within1_eq e7.number 1 9999999 σ) ?_
  refine rf_s (AV.bool (!(withinB e7.number 1 9999999))) rfl ?_
  refine rf_cb (c := (!(withinB e7.number 1 9999999))) (fun c17 => ?_) (fun c17 => ?_)
  ·exact rf_ret (rnd_ret (by simp) ⟨_, _, rfl⟩)
  refine rf_s (AV.bool (decide (0 < (i8 : Int)))) rfl ?_
  refine rf_gt (AV.int .i64 e7.number) (fun hg => rfl) ?_
  refine rf_gt (sl 11 cCue a0) (fun hg => rfl) ?_
  refine rf_gt (AV.int .i64 (i8 : Int)) (fun hg => rfl) ?_
  refine rf_gt (AV.int .i64 (IntKind.i64.wrap ((i8 : Int) - 1))) (fun hg => by
    simp only [hg, Bool.true_and, cond_true]; first | done | exact rfl) ?_
  refine rf_gto (ω := CueD) (fun x9 => (AV.rp (cCue x9))) (fun hg x9 hx9 => by
    simp only [hg, Bool.true_and, cond_true]; first | done | exact ix_at hx9) (fun x9 hx9 => ?_)
  refine rf_gt (AV.rp (cCue x9)) (fun hg => by
    simp only [hg, Bool.true_and, cond_true]; first | done | exact rfl) ?_
  refine rf_gt (AV.int .i64 x9.number) (fun hg => by
    simp only [hg, Bool.true_and, cond_true]; first | done | exact rfl) ?_
  refine rf_gt (AV.bool (decide (e7.number ≤ x9.number))) (fun hg => by
    simp only [hg, Bool.true_and, cond_true]; first | done | exact rfl) ?_
  refine rf_s (AV.bool ((decide (0 < (i8 : Int))) && (decide (e7.number ≤ x9.number)))) (pk_and _ _) ?_
  refine rf_cb (c := ((decide (0 < (i8 : Int))) && (decide (e7.number ≤ x9.number)))) (fun c16 => ?_) (fun c16 => ?_)
  ·exact rf_ret (rnd_ret (by simp) ⟨_, _, rfl⟩)
  refine rf_s (AV.str e7.title) rfl ?_
  refine rf_s (AV.bool (decide (¬ (e7.title = (⟨#[]⟩ : ByteArray))))) (aNeZ _ _) ?_
  refine rf_gt (AV.str e7.title) (fun hg => rfl) ?_
  refine rf_gto (ω := Bool) (fun r10 => (AV.bool r10)) (fun hg r10 hr10 => by
    simp only [hg, Bool.true_and, cond_true]; first | done | exact (quiet_of ((tq_of (e := fun r : Bool => ((AV.bool r), σ)) (fun hs => IsTitle1_eq e7.title hs σ)) hr10))) (fun r10 hr10 => ?_)
  refine rf_gt (AV.bool (!r10)) (fun hg => by
    simp only [hg, Bool.true_and, cond_true]; first | done | exact rfl) ?_
  refine rf_s (AV.bool ((decide (¬ (e7.title = (⟨#[]⟩ : ByteArray)))) && (!r10))) (pk_and _ _) ?_
  refine rf_cb (c := ((decide (¬ (e7.title = (⟨#[]⟩ : ByteArray)))) && (!r10))) (fun c15 => ?_) (fun c15 => ?_)
  ·exact rf_ret (rnd_ret (by simp) ⟨_, _, rfl⟩)
  refine rf_s (AV.int .i64 e7.delay) rfl ?_
  refine rf_s ((AV.bool (withinB e7.delay 0 36000000)), σ) (IsTime1_eq e7.delay σ) ?_
  refine rf_s (AV.bool (!(withinB e7.delay 0 36000000))) rfl ?_
  refine rf_gf (AV.int .i64 e7.up) (fun hg => rfl) ?_
  refine rf_gf (AV.bool (withinB e7.up 0 36000000)) (fun hg => by
    simp only [hg, Bool.true_and, cond_true]; first | done | exact (quiet_of (IsTime1_eq e7.up σ))) ?_
  refine rf_gf (AV.bool (!(withinB e7.up 0 36000000))) (fun hg => by
    simp only [hg, Bool.true_and, cond_true]; first | done | exact rfl) ?_
  refine rf_s (AV.bool ((!(withinB e7.delay 0 36000000)) || (!(withinB e7.up 0 36000000)))) (pk_or _ _) ?_
  refine rf_gf (AV.int .i64 e7.down) (fun hg => rfl) ?_
  refine rf_gf (AV.bool (withinB e7.down 0 36000000)) (fun hg => by
    simp only [hg, Bool.true_and, cond_true]; first | done | exact (quiet_of (IsTime1_eq e7.down σ))) ?_
  refine rf_gf (AV.bool (!(withinB e7.down 0 36000000))) (fun hg => by
    simp only [hg, Bool.true_and, cond_true]; first | done | exact rfl) ?_
  refine rf_s (AV.bool (((!(withinB e7.delay 0 36000000)) || (!(withinB e7.up 0 36000000))) || (!(withinB e7.down 0 36000000)))) (pk_or _ _) ?_
  refine rf_gf (AV.int .i64 e7.other) (fun hg => rfl) ?_
  refine rf_gf (AV.bool (withinB e7.other 0 36000000)) (fun hg => by
    simp only [hg, Bool.true_and, cond_true]; first | done | exact (quiet_of (IsTime1_eq e7.other σ))) ?_
  refine rf_gf (AV.bool (!(withinB e7.other 0 36000000))) (fun hg => by
    simp only [hg, Bool.true_and, cond_true]; first | done | exact rfl) ?_
  refine rf_s (AV.bool ((((!(withinB e7.delay 0 36000000)) || (!(withinB e7.up 0 36000000))) || (!(withinB e7.down 0 36000000))) || (!(withinB e7.other 0 36000000)))) (pk_or _ _) ?_
  refine rf_gf (AV.int .i64 e7.follow) (fun hg => rfl) ?_
  refine rf_gf (AV.bool (withinB e7.follow (-1) 36000000)) (fun hg => by
    simp only [hg, Bool.true_and, cond_true]; first | done | exact (quiet_of (Within1_eq e7.follow (-1) 36000000 σ))) ?_
  refine rf_gf (AV.bool (!(withinB e7.follow (-1) 36000000))) (fun hg => by
    simp only [hg, Bool.true_and, cond_true]; first | done | exact rfl) ?_
  refine rf_s (AV.bool (((((!(withinB e7.delay 0 36000000)) || (!(withinB e7.up 0 36000000))) || (!(withinB e7.down 0 36000000))) || (!(withinB e7.other 0 36000000))) || (!(withinB e7.follow (-1) 36000000)))) (pk_or _ _) ?_
  refine rf_cb (c := (((((!(withinB e7.delay 0 36000000)) || (!(withinB e7.up 0 36000000))) || (!(withinB e7.down 0 36000000))) || (!(withinB e7.other 0 36000000))) || (!(withinB e7.follow (-1) 36000000)))) (fun c14 => ?_) (fun c14 => ?_)
  ·exact rf_ret (rnd_ret (by simp) ⟨_, _, rfl⟩)
  refine rf_s (AV.agg (cCurve e7.curve)) rfl ?_
  refine rf_s ((AV.int .i64 (curveF e7.curve)), σ) (CheckCurve1_eq e7.curve σ) ?_
  refine rf_s (AV.bool (decide (¬ ((curveF e7.curve) = 0)))) (aNe _ _ _) ?_
  refine rf_c (p := ¬ ((curveF e7.curve) = 0)) (fun c13 => ?_) (fun c13 => ?_)
  ·exact rf_ret (rnd_ret (by simp) ⟨_, _, rfl⟩)
  refine rf_s (sl 8 cMove e7.moves) rfl ?_
  refine rf_o (fun r11 : Int => ((AV.int .i64 r11), σ)) (fun r11 hr11 => h_R5_checkMoves hr11) (fun r11 hr11 => ?_)
  refine rf_s (AV.bool (decide (¬ (r11 = 0)))) (aNe _ _ _) ?_
  refine rf_c (p := ¬ (r11 = 0)) (fun c12 => ?_) (fun c12 => ?_)
  ·exact rf_ret (rnd_ret (by simp) ⟨_, _, rfl⟩)
  refine rf_s (sl 8 cMove e7.moves) rfl ?_
  refine rf_s (AV.int .i64 (e7.moves.length : Int)) (lenS_sl _ _ _) ?_
  refine rf_s (AV.int .i64 (IntKind.i64.wrap (s1 + (e7.moves.length : Int)))) rfl ?_
  refine rf_s (AV.int .i64 ((i8 + 1 : Nat) : Int)) (ix_inc he7 hle7) ?_
  exact rf_ret (rnd_go ⟨rfl, rfl⟩)
 ·intro hl s1 v w3 hI
  obtain ⟨rfl, rfl⟩ := hI
  refine rf_s (AV.bool false) (ix_end _) ?_
  refine rf_cf ?_
  exact rf_ret ⟨by simp, ⟨_, _, rfl⟩⟩
 ·intro hl b2 q hq
  obtain ⟨u2, u13, rfl⟩ := hq
  refine rf_bt rfl ?_
  refine rf_s (AV.bool (decide (10000 < b2))) rfl ?_
  refine rf_c (p := 10000 < b2) (fun c18 => ?_) (fun c18 => ?_)
  ·exact rf_fin _ (fin_same _ _) ⟨rfl, rfl⟩
  exact rf_fin _ (fin_same _ _) ⟨rfl, rfl⟩
 ·intro hl b2 q hq
  obtain ⟨u3, u13, rfl⟩ := hq
  refine rf_bf rfl ?_
  refine rf_bt rfl ?_
  exact rf_fin _ (fin_same _ _) ⟨rfl, rfl⟩

end Go.Proofs.Ytphgchakmkankaa

namespace Go.Proofs.Ytphgchakmkankaa
set_option linter.unusedSectionVars false
set_option linter.unusedVariables false
set_option linter.unusedSimpArgs false
section
variable {κ ν : Type} [DecidableEq κ]
end
theorem ite_pure {α : Type} {p : Prop} [Decidable p] (a b : α) : (if p then some a else some b) = some (if p then a else b) := by split <;> rfl
theorem bind_ite2 {α β : Type} {p : Prop} [Decidable p] (a b : α) (f : α → Option β) : (if p then some a else some b).bind f = f (if p then a else b) := by split <;> rfl
theorem compare_eq (a b : KeyD) : t_cue_compare a b = some (cmpK a b) := by
 unfold t_cue_compare cmpK
 by_cases h : a.unit = b.unit
 ·simp [h]
 ·by_cases h2 : a.unit < b.unit <;> simp [h, h2]
theorem guard_cmp (c : Bool) (a b : KeyD) : (c && decide (0 ≤ (if c = true then cmpK a b else (default : Int)))) = (c && !ltK a b) := by
 cases c
 ·rfl
 ·simp only [if_true, Bool.true_and]; exact cmpK_ge a b
theorem guard_title (s : ByteArray) : (decide (¬ (s = (⟨#[]⟩ : ByteArray))) && !(if decide (¬ (s = (⟨#[]⟩ : ByteArray))) = true then titleB s else (default : Bool))) = !blankB s := by
 unfold blankB
 by_cases h : s = ⟨#[]⟩ <;> simp [h]
def moveF (l : List MoveD) (i : Nat) (m : MoveD) : Int :=
 if (!(withinB m.key.unit 1 9999)) = true then 1
 else if (!(nameB m.key.param)) = true then 5
 else if ((m.release && (decide (¬ (m.value = (⟨0, 0⟩ : ValueD))))) || ((decide (¬ (m.value.level = 0))) && (decide (¬ (m.value.preset = 0))))) = true then 3
 else if ((!(withinB m.value.level 0 65535)) || (!(withinB m.value.preset 0 999))) = true then 1
 else if ((!m.timed) && ((decide (¬ (m.delay = 0))) || (decide (¬ (m.time = 0))))) = true then 3
 else if ((!(withinB m.delay 0 36000000)) || (!(withinB m.time 0 36000000))) = true then 1
 else if (decide (0 < (i : Int)) && !ltK (pv l i).key m.key) = true then 7 else 0
def movesF (l : List MoveD) : Int := chkE (moveF l) l 0
theorem checkMoves_t (l : List MoveD) (hl : okL okMove l) : t_cue_checkMoves l = some (movesF l) := by
 unfold t_cue_checkMoves movesF
 rw [forE_chk (f := moveF l) hl.1 ?_]
 ·split
  ·rename_i h; rw [h]
  ·rfl
 intro i m hm
 have hmm := hl.2 m (List.mem_of_getElem? hm)
 simp only [prev_at hm hl.1, Option.bind_some, tq_pos hmm.1.2, compare_eq, bind_ite2, guard_cmp]
 unfold moveF
 repeat first | exact go_ret | refine ite_ret (by decide) ?_
theorem checkMove5_t (l : List MoveD) (hl : okL okMove l) (i : Nat) (m : MoveD) (hm : l[i]? = some m) : t_R5_checkMove m (l.take i) = some (moveF l i m) := by
 have hmm := hl.2 m (List.mem_of_getElem? hm)
 have hi := (List.getElem?_eq_some_iff.1 hm).1
 have e : ((l.take i).length : Int) = (i : Int) := by simp; omega
 unfold t_R5_checkMove moveF
 simp only [tq_pos hmm.1.2, Option.bind_some]
 have := last_at hm hl.1
 rw [e] at this
 simp only [e, this, Option.bind_some, ite_pure]
 rfl
theorem checkMoves5_t (l : List MoveD) (hl : okL okMove l) : t_R5_checkMoves l = some (if 2000 < (l.length : Int) then 2 else movesF l) := by
 unfold t_R5_checkMoves movesF
 split
 ·rfl
 rw [forE_chk (f := moveF l) hl.1 ?_]
 ·split
  ·rename_i h; rw [h]
  ·rfl
 intro i m hm
 have hi := (List.getElem?_eq_some_iff.1 hm).1
 simp only [tSl_pre (Nat.le_of_lt hi), Option.bind_some, checkMove5_t l hl i m hm]
 by_cases h : moveF l i m = 0 <;> simp [h]
def cueF (l : List CueD) (i : Nat) (c : CueD) : Int :=
 if (!(withinB c.number 1 9999999)) = true then 1
 else if (decide (0 < (i : Int)) && decide (c.number ≤ (pv l i).number)) = true then 7
 else if (!(blankB c.title)) = true then 3
 else if (((((!(withinB c.delay 0 36000000)) || (!(withinB c.up 0 36000000))) || (!(withinB c.down 0 36000000))) || (!(withinB c.other 0 36000000))) || (!(withinB c.follow (-1) 36000000))) = true then 1
 else if ¬ (curveF c.curve = 0) then curveF c.curve
 else if 2000 < (c.moves.length : Int) then 2
 else movesF c.moves
def manyF (l : List CueD) : Int := l.foldl (fun s c => IntKind.i64.wrap (s + (c.moves.length : Int))) 0
def formF (l : List CueD) : Int :=
 if 300 < (l.length : Int) then 2 else if ¬ (chkE (cueF l) l 0 = 0) then chkE (cueF l) l 0 else if 10000 < manyF l then 2 else 0
theorem forE_chkS {α γ S B : Type} {f : Nat → α → Int} {g : S → α → S} {l : List α} {body : Nat → α → S → Option (Lr S B Int)} {fin : S → Option B} {s : S} {K1 : B → Option γ} {K2 : Int → Option γ} (hl : l.length ≤ mxl) (hb : ∀ i x s, l[i]? = some x → body i x s = some (if f i x = 0 then .go (g s x) else .ret (f i x))) : forE l body fin s K1 K2 = if chkE f l 0 = 0 then (fin (l.foldl g s)).bind K1 else K2 (chkE f l 0) := by
 rw [forE_le hl]
 have key : ∀ (rest pre : List α) (s : S), l = pre ++ rest → forL body fin rest pre.length s = if chkE f rest pre.length = 0 then (fin (rest.foldl g s)).map .inl else some (.inr (chkE f rest pre.length)) := by
  intro rest
  induction rest with
  | nil => intro pre s _; simp [forL, chkE]
  | cons x rest ih =>
   intro pre s hp
   rw [forL, hb pre.length x s (by rw [hp]; simp), Option.bind_some, chkE]
   by_cases h : f pre.length x = 0
   ·simp only [h, if_true]
    have := ih (pre ++ [x]) (g s x) (by simpa using hp)
    simpa using this
   ·simp only [h, if_false]
 have k := key l [] s rfl
 rw [List.length_nil] at k
 rw [k]
 split
 ·cases fin (l.foldl g s) <;> rfl
 ·rfl
theorem ite_retS {S B : Type} {p : Prop} [Decidable p] {k f : Int} {t : S} {Y : Option (Lr S B Int)} (hk : k ≠ 0) (h : Y = some (if f = 0 then .go t else .ret f)) : (if p then some (.ret k) else Y) = some (if (if p then k else f) = 0 then .go t else .ret (if p then k else f)) := by
 by_cases hp : p
 ·simp [hp, hk]
 ·simp [hp, h]
theorem ite_retvS {S B : Type} {k f : Int} {t : S} {Y : Option (Lr S B Int)} (h : Y = some (if f = 0 then .go t else .ret f)) : (if ¬ (k = 0) then some (.ret k) else Y) = some (if (if ¬ (k = 0) then k else f) = 0 then .go t else .ret (if ¬ (k = 0) then k else f)) := by
 by_cases hp : k = 0
 ·simp [hp, h]
 ·simp [hp]
theorem ite_lastS {S B : Type} {k : Int} {t : S} : (if ¬ (k = 0) then some (.ret k) else some (.go t) : Option (Lr S B Int)) = some (if k = 0 then .go t else .ret k) := by
 by_cases hp : k = 0 <;> simp [hp]
theorem form_t (l : List CueD) (hl : okL okCue l) : t_cue_form l = some (formF l) := by
 unfold t_cue_form formF
 split
 ·rfl
 rw [forE_chkS (f := cueF l) (g := fun s c => IntKind.i64.wrap (s + (c.moves.length : Int))) hl.1 ?_]
 ·show (if chkE (cueF l) l 0 = 0 then some (if decide (10000 < manyF l) = true then (2 : Int) else 0) else some (chkE (cueF l) l 0)) = _
  by_cases h : chkE (cueF l) l 0 = 0
  ·by_cases h2 : 10000 < manyF l <;> simp [h, h2]
  ·simp [h]
 intro i c s hc
 obtain ⟨_, ht, _, _, _, _, _, _, hm⟩ := hl.2 c (List.mem_of_getElem? hc)
 simp only [prev_at hc hl.1, Option.bind_some, tq_pos ht, checkMoves_t _ hm, bind_ite2, guard_title]
 unfold cueF
 repeat first | exact ite_lastS | refine ite_retS (by decide) ?_ | refine ite_retvS ?_
theorem CheckForm5_t (l : List CueD) (hl : okL okCue l) : t_R5_CheckForm l = some (formF l) := by
 unfold t_R5_CheckForm formF
 split
 ·rfl
 rw [forE_chkS (f := cueF l) (g := fun s c => IntKind.i64.wrap (s + (c.moves.length : Int))) hl.1 ?_]
 ·show (if chkE (cueF l) l 0 = 0 then (if 10000 < manyF l then some (2 : Int) else some 0) else some (chkE (cueF l) l 0)) = _
  by_cases h : chkE (cueF l) l 0 = 0
  ·by_cases h2 : 10000 < manyF l <;> simp [h, h2]
  ·simp [h]
 intro i c s hc
 obtain ⟨_, ht, _, _, _, _, _, _, hm⟩ := hl.2 c (List.mem_of_getElem? hc)
 simp only [prev_at hc hl.1, Option.bind_some, tq_pos ht, checkMoves5_t _ hm, bind_ite2, guard_title]
 unfold cueF
 repeat first | exact ite_lastS | refine ite_retS (by decide) ?_ | refine ite_retvS ?_
end Go.Proofs.Ytphgchakmkankaa

namespace Go.Proofs.Ytphgchakmkankaa
set_option linter.unusedSectionVars false
set_option linter.unusedSimpArgs false
set_option linter.unusedVariables false
set_option maxRecDepth 100000
noncomputable def r_W5_sameCue (a0 a1 : AV) (σ : Heap) : Option (AV × Heap) :=
 (A.cells 11 a0).bind fun c1 =>
 (A.cells 11 a1).bind fun c2 =>
 (A.part1 0 c1).bind fun x3 =>
 (A.part1 0 c2).bind fun x4 =>
 (A.eql .i x3 x4).bind fun x5 =>
 (A.guard x5 true (A.part1 1 c1) (some (AV.tup []))).bind fun x6 =>
 (A.guard x5 true (A.part1 1 c2) (some (AV.tup []))).bind fun x7 =>
 (A.guard x5 true (A.eql .z x6 x7) (some (AV.tup []))).bind fun x8 =>
 (A.pick x5 x8 (AV.bool false)).bind fun x9 =>
 (A.guard x9 true (A.part1 2 c1) (some (AV.tup []))).bind fun x10 =>
 (A.guard x9 true (A.part1 2 c2) (some (AV.tup []))).bind fun x11 =>
 (A.guard x9 true (A.eql .i x10 x11) (some (AV.tup []))).bind fun x12 =>
 (A.pick x9 x12 (AV.bool false)).bind fun x13 =>
 (A.guard x13 true (A.part1 3 c1) (some (AV.tup []))).bind fun x14 =>
 (A.guard x13 true (A.part1 3 c2) (some (AV.tup []))).bind fun x15 =>
 (A.guard x13 true (A.eql .i x14 x15) (some (AV.tup []))).bind fun x16 =>
 (A.pick x13 x16 (AV.bool false)).bind fun x17 =>
 (A.guard x17 true (A.part1 4 c1) (some (AV.tup []))).bind fun x18 =>
 (A.guard x17 true (A.part1 4 c2) (some (AV.tup []))).bind fun x19 =>
 (A.guard x17 true (A.eql .i x18 x19) (some (AV.tup []))).bind fun x20 =>
 (A.pick x17 x20 (AV.bool false)).bind fun x21 =>
 (A.guard x21 true (A.part1 5 c1) (some (AV.tup []))).bind fun x22 =>
 (A.guard x21 true (A.part1 5 c2) (some (AV.tup []))).bind fun x23 =>
 (A.guard x21 true (A.eql .i x22 x23) (some (AV.tup []))).bind fun x24 =>
 (A.pick x21 x24 (AV.bool false)).bind fun x25 =>
 (A.guard x25 true (A.part1 8 c1) (some (AV.tup []))).bind fun x26 =>
 (A.guard x25 true (A.part1 8 c2) (some (AV.tup []))).bind fun x27 =>
 (A.guard x25 true (A.eql .b x26 x27) (some (AV.tup []))).bind fun x28 =>
 (A.pick x25 x28 (AV.bool false)).bind fun x29 =>
 (A.guard x29 true (A.part1 9 c1) (some (AV.tup []))).bind fun x30 =>
 (A.guard x29 true (A.part1 9 c2) (some (AV.tup []))).bind fun x31 =>
 (A.guard x29 true (A.eql .i x30 x31) (some (AV.tup []))).bind fun x32 =>
 (A.pick x29 x32 (AV.bool false)).bind fun x33 =>
 (A.guard x33 true (A.part1 6 c1) (some (AV.tup []))).bind fun x34 =>
 (A.guard x33 true (A.part1 6 c2) (some (AV.tup []))).bind fun x35 =>
 (A.guard x33 true (A.eql .i x34 x35) (some (AV.tup []))).bind fun x36 =>
 (A.pick x33 x36 (AV.bool false)).bind fun x37 =>
 (A.guard x37 true (A.part1 7 c1) (some (AV.tup []))).bind fun x38 =>
 (A.guard x37 true (A.part1 7 c2) (some (AV.tup []))).bind fun x39 =>
 (A.guard x37 true (A.quiet (m_slices_Equal_api_Point [x38, x39] σ) σ) (some (AV.tup []))).bind fun x40 =>
 (A.pick x37 x40 (AV.bool false)).bind fun x41 =>
 (A.guard x41 true (A.part1 10 c1) (some (AV.tup []))).bind fun x42 =>
 (A.guard x41 true (A.part1 10 c2) (some (AV.tup []))).bind fun x43 =>
 (A.guard x41 true (A.quiet (m_slices_Equal_api_Move [x42, x43] σ) σ) (some (AV.tup []))).bind fun x44 =>
 (A.pick x41 x44 (AV.bool false)).bind fun x45 =>
 A.fin σ x45 σ
noncomputable def m_W5_sameCue : List AV → Heap → Option (AV × Heap) := A.wrap true [(.a [.k, .k, .k, .k, .k, .k, .k, (.s 2), .k, .k, (.s 8)]), (.a [.k, .k, .k, .k, .k, .k, .k, (.s 2), .k, .k, (.s 8)])] .k (A.ar2 r_W5_sameCue)
noncomputable def r_W5_sameList (a0 a1 : AV) (σ : Heap) : Option (AV × Heap) :=
 (m_slices_EqualFunc_api_Cue (A.tab (fun _ _ => none) [(201, m_W5_sameCue)]) [a0, a1, (AV.fn 201 [])] σ).bind fun r1 =>
 A.fin σ r1.1 r1.2
noncomputable def m_W5_sameList : List AV → Heap → Option (AV × Heap) := A.wrap true [(.e 11 [.k, .k, .k, .k, .k, .k, .k, (.s 2), .k, .k, (.s 8)]), (.e 11 [.k, .k, .k, .k, .k, .k, .k, (.s 2), .k, .k, (.s 8)])] .k (A.ar2 r_W5_sameList)
noncomputable def r_W5_CueCleansMatchSpec (a0 a1 : AV) (σ : Heap) : Option (AV × Heap) :=
 (m_cue_Clean [a0] σ).bind fun r1 =>
 (A.ext 0 r1.1).bind fun x2 =>
 (A.ext 1 r1.1).bind fun x3 =>
 (m_R5_Clean [a0] r1.2).bind fun r4 =>
 (A.ext 0 r4.1).bind fun x5 =>
 (A.ext 1 r4.1).bind fun x6 =>
 (m_W5_sameList [x2, x5] r4.2).bind fun r7 =>
 (A.not r7.1).bind fun x8 =>
 (A.guard x8 false (some x3) (some (AV.tup []))).bind fun x9 =>
 (A.guard x8 false (some x6) (some (AV.tup []))).bind fun x10 =>
 (A.guard x8 false (A.neq .i x9 x10) (some (AV.tup []))).bind fun x11 =>
 (A.pick x8 (AV.bool true) x11).bind fun x12 =>
 A.cond x12 (
  A.fin σ (AV.bool false) r7.2) (
  (m_cue_Block [a0, a1] r7.2).bind fun r13 =>
  (A.ext 0 r13.1).bind fun x14 =>
  (A.ext 1 r13.1).bind fun x15 =>
  (m_R5_Block [a0, a1] r13.2).bind fun r16 =>
  (A.ext 0 r16.1).bind fun x17 =>
  (A.ext 1 r16.1).bind fun x18 =>
  (m_W5_sameList [x14, x17] r16.2).bind fun r19 =>
  (A.not r19.1).bind fun x20 =>
  (A.guard x20 false (some x15) (some (AV.tup []))).bind fun x21 =>
  (A.guard x20 false (some x18) (some (AV.tup []))).bind fun x22 =>
  (A.guard x20 false (A.neq .i x21 x22) (some (AV.tup []))).bind fun x23 =>
  (A.pick x20 (AV.bool true) x23).bind fun x24 =>
  A.cond x24 (
   A.fin σ (AV.bool false) r19.2) (
   (m_cue_Unblock [a0, a1] r19.2).bind fun r25 =>
   (A.ext 0 r25.1).bind fun x26 =>
   (A.ext 1 r25.1).bind fun x27 =>
   (m_R5_Unblock [a0, a1] r25.2).bind fun r28 =>
   (A.ext 0 r28.1).bind fun x29 =>
   (A.ext 1 r28.1).bind fun x30 =>
   (m_W5_sameList [x26, x29] r28.2).bind fun r31 =>
   (A.guard r31.1 true (some x27) (some (AV.tup []))).bind fun x32 =>
   (A.guard r31.1 true (some x30) (some (AV.tup []))).bind fun x33 =>
   (A.guard r31.1 true (A.eql .i x32 x33) (some (AV.tup []))).bind fun x34 =>
   (A.pick r31.1 x34 (AV.bool false)).bind fun x35 =>
   A.fin σ x35 r31.2))
noncomputable def m_W5_CueCleansMatchSpec : List AV → Heap → Option (AV × Heap) := A.wrap true [(.e 11 [.k, .k, .k, .k, .k, .k, .k, (.s 2), .k, .k, (.s 8)])] .k (A.ar2 r_W5_CueCleansMatchSpec)
end Go.Proofs.Ytphgchakmkankaa

namespace Go.Proofs.Ytphgchakmkankaa
set_option linter.unusedSectionVars false
set_option linter.unusedVariables false
set_option linter.unusedSimpArgs false
set_option maxRecDepth 100000
noncomputable def t_cue_place_fn1 (a0 : CueD) (a1 : Int) : Option Int :=
 some (IntKind.i64.wrap (a0.number - a1))
theorem h_cue_place_fn1 {a0 : CueD} { a1 : Int} {σ : Heap} {r : Int} (h : t_cue_place_fn1 a0 a1 = some r) : m_cue_place_fn1 [(AV.agg (cCue a0)), (AV.int .i64 a1)] σ = some ((AV.int .i64 r), σ) := by
 refine rf_wrap2 (f := r_cue_place_fn1) (y0 := (AV.agg (cCue a0))) (y1 := (AV.int .i64 a1)) (enc := fun r : Int => (AV.int .i64 r)) (T := t_cue_place_fn1 a0 a1) (nn_t1 (nn_a rfl) rfl) rfl ?_ r h
 unfold r_cue_place_fn1 t_cue_place_fn1
 refine rf_s (cCue a0) rfl ?_
 refine rf_s (AV.int .i64 a0.number) rfl ?_
 refine rf_s (AV.int .i64 (IntKind.i64.wrap (a0.number - a1))) rfl ?_
 exact rf_fin _ (fin_same _ _) ⟨rfl, rfl⟩

noncomputable def t_cue_moveAt_fn1 (a0 : MoveD) (a1 : KeyD) : Option Int :=
 (t_cue_compare a0.key a1).bind fun r1 =>
 some r1
theorem h_cue_moveAt_fn1 {a0 : MoveD} { a1 : KeyD} {σ : Heap} {r : Int} (h : t_cue_moveAt_fn1 a0 a1 = some r) : m_cue_moveAt_fn1 [(AV.agg (cMove a0)), (AV.agg (cKey a1))] σ = some ((AV.int .i64 r), σ) := by
 refine rf_wrap2 (f := r_cue_moveAt_fn1) (y0 := (AV.agg (cMove a0))) (y1 := (AV.agg (cKey a1))) (enc := fun r : Int => (AV.int .i64 r)) (T := t_cue_moveAt_fn1 a0 a1) rfl rfl ?_ r h
 unfold r_cue_moveAt_fn1 t_cue_moveAt_fn1
 refine rf_s (cMove a0) rfl ?_
 refine rf_s (cKey a1) rfl ?_
 refine rf_s (AV.agg (cKey a0.key)) rfl ?_
 refine rf_s (AV.agg (cKey a1)) rfl ?_
 refine rf_o (fun r1 : Int => ((AV.int .i64 r1), σ)) (fun r1 hr1 => h_cue_compare hr1) (fun r1 hr1 => ?_)
 exact rf_fin _ (fin_same _ _) ⟨rfl, rfl⟩

noncomputable def t_cue_state (a0 : (List CueD)) : Option (List (KeyD × EntryD)) :=
 forE a0 (fun (i10 : Nat) e9 (s3 : (List (KeyD × EntryD))) => (show Option (Lr (List (KeyD × EntryD)) (List (KeyD × EntryD)) Unit) from
   forE e9.moves (fun (i18 : Nat) e17 (s11 : (List (KeyD × EntryD))) => (show Option (Lr (List (KeyD × EntryD)) (List (KeyD × EntryD)) Unit) from
     (show Option (List (KeyD × EntryD)) from
       if e17.release = true then
        some (tdel e17.key s11)
       else
       some (tupd e17.key (⟨(⟨e17.key.unit, e17.key.param⟩ : KeyD), (⟨e17.value.level, e17.value.preset⟩ : ValueD), e9.number⟩ : EntryD) s11)).bind fun j26 =>
     some (.go j26))) (fun s11 => some s11) s3 (fun b12 =>
    some (.go b12)) (fun b12 =>
    none))) (fun s3 => some s3) ([] : List (KeyD × EntryD)) (fun b4 =>
  some b4) (fun b4 =>
  none)
theorem h_cue_state {a0 : (List CueD)} {σ : Heap} {r : (List (KeyD × EntryD))} (h : t_cue_state a0 = some r) : m_cue_state [(sl 11 cCue a0)] σ = some ((fmE (fun x => (AV.agg (cKey x))) (fun x => (AV.agg (cEntry x))) r), σ) := by
 refine rf_wrap1 (f := r_cue_state) (y0 := (sl 11 cCue a0)) (enc := fun r : (List (KeyD × EntryD)) => (fmE (fun x => (AV.agg (cKey x))) (fun x => (AV.agg (cEntry x))) r)) (T := t_cue_state a0) (nn_t1 (nn_e (fun _ => rfl) _) rfl) rfl ?_ r h
 unfold r_cue_state t_cue_state
 have hp1 : Hp σ σ [] := hp_nil σ
 have hp2 : Hp σ (σ ++ [Blk.map []]) [((AV.om σ.length), (Ct.m (List.map (fun p => ((fun x => (AV.agg (cKey x))) p.1, (fun x => (AV.agg (cEntry x))) p.2)) ([] : List (KeyD × EntryD)))))] := hp_om hp1
 refine rf_s (AV.int .i64 (a0.length : Int)) (lenS_sl _ _ _) ?_
 refine rf_for (B := (List (KeyD × EntryD))) (R := Unit) (fun (i10 : Nat) (s3 : (List (KeyD × EntryD))) v w5 => v = [(AV.int .i64 (i10 : Int))] ∧ Hp σ w5 [((AV.om σ.length), (Ct.m (List.map (fun p => ((fun x => (AV.agg (cKey x))) p.1, (fun x => (AV.agg (cEntry x))) p.2)) s3)))]) (fun (b4 : (List (KeyD × EntryD))) (q : LS) => ∃ u11 w6, q = ((AX.exit 0), ([u11] : List AV), w6) ∧ Hp σ w6 [((AV.om σ.length), (Ct.m (List.map (fun p => ((fun x => (AV.agg (cKey x))) p.1, (fun x => (AV.agg (cEntry x))) p.2)) b4)))]) (fun (b4 : Unit) (q : LS) => False) ?_ ?_ ⟨rfl, hp2⟩ ?_ ?_
 ·intro hle9 i10 e9 s3 v w5 he9 hI
  obtain ⟨rfl, hp7⟩ := hI
  refine rf_s (AV.bool true) (ix_lt he9) ?_
  refine rf_ct ?_
  refine rf_s (AV.rp (cCue e9)) (ix_for he9) ?_
  refine rf_s (AV.agg (cCue e9)) rfl ?_
  refine rf_s (cCue e9) rfl ?_
  refine rf_s (cCue e9) (sp_cCue _ _ rfl) ?_
  refine rf_s (sl 8 cMove e9.moves) rfl ?_
  refine rf_s (AV.int .i64 (e9.moves.length : Int)) (lenS_sl _ _ _) ?_
  refine rf_for (B := (List (KeyD × EntryD))) (R := Unit) (fun (i18 : Nat) (s11 : (List (KeyD × EntryD))) v w13 => v = [(AV.lbx (cCue e9)), (AV.int .i64 (i18 : Int))] ∧ Hp σ w13 [((AV.om σ.length), (Ct.m (List.map (fun p => ((fun x => (AV.agg (cKey x))) p.1, (fun x => (AV.agg (cEntry x))) p.2)) s11)))]) (fun (b12 : (List (KeyD × EntryD))) (q : LS) => ∃ u5 u18 w14, q = ((AX.exit 2), ([u5, u18] : List AV), w14) ∧ Hp σ w14 [((AV.om σ.length), (Ct.m (List.map (fun p => ((fun x => (AV.agg (cKey x))) p.1, (fun x => (AV.agg (cEntry x))) p.2)) b12)))]) (fun (b12 : Unit) (q : LS) => False) ?_ ?_ ⟨rfl, hp7⟩ ?_ ?_
  ·intro hle17 i18 e17 s11 v w13 he17 hI
   obtain ⟨rfl, hp15⟩ := hI
   refine rf_s (AV.bool true) (ix_lt he17) ?_
   refine rf_ct ?_
   refine rf_s (AV.rp (cMove e17)) (ix_for he17) ?_
   refine rf_s (AV.agg (cMove e17)) rfl ?_
   refine rf_s (cMove e17) rfl ?_
   refine rf_s (cMove e17) (sp_cMove _ _ rfl) ?_
   refine rf_s (AV.bool e17.release) rfl ?_
   refine rf_b (ω := (List (KeyD × EntryD))) (fun j26 a => ∃ w27, a = (([(AV.lbx (cCue e9))] : List AV), w27) ∧ Hp σ w27 [((AV.om σ.length), (Ct.m (List.map (fun p => ((fun x => (AV.agg (cKey x))) p.1, (fun x => (AV.agg (cEntry x))) p.2)) j26)))]) (
     by
      refine rf_cb (c := e17.release) (fun c25 => ?_) (fun c25 => ?_)
      ·refine rf_s (AV.agg (cKey e17.key)) rfl ?_
       obtain ⟨w19, e21, hp20⟩ := hp_delT (ek := (.s [0, 2])) (eK := (fun x => (AV.agg (cKey x)))) (eV := (fun x => (AV.agg (cEntry x)))) hp15 0 rfl eqk_Key e17.key rfl
       change Hp σ w19 [((AV.om σ.length), (Ct.m (List.map (fun p => ((fun x => (AV.agg (cKey x))) p.1, (fun x => (AV.agg (cEntry x))) p.2)) (tdel e17.key s11))))] at hp20
       refine rf_s w19 e21 ?_
       exact rf_ret ⟨_, rfl, hp20⟩
      refine rf_s (AV.agg (cKey e17.key)) rfl ?_
      refine rf_s (AV.agg (cKey e17.key)) rfl ?_
      refine rf_s (AV.agg (cValue e17.value)) rfl ?_
      refine rf_s _ rfl ?_
      refine rf_s (AV.int .i64 e9.number) rfl ?_
      refine rf_s (AV.agg (cEntry (⟨(⟨e17.key.unit, e17.key.param⟩ : KeyD), (⟨e17.value.level, e17.value.preset⟩ : ValueD), e9.number⟩ : EntryD))) rfl ?_
      obtain ⟨w22, e24, hp23⟩ := hp_updT (ek := (.s [0, 2])) (eK := (fun x => (AV.agg (cKey x)))) (eV := (fun x => (AV.agg (cEntry x)))) hp15 0 rfl eqk_Key e17.key (⟨(⟨e17.key.unit, e17.key.param⟩ : KeyD), (⟨e17.value.level, e17.value.preset⟩ : ValueD), e9.number⟩ : EntryD) rfl
      change Hp σ w22 [((AV.om σ.length), (Ct.m (List.map (fun p => ((fun x => (AV.agg (cKey x))) p.1, (fun x => (AV.agg (cEntry x))) p.2)) (tupd e17.key (⟨(⟨e17.key.unit, e17.key.param⟩ : KeyD), (⟨e17.value.level, e17.value.preset⟩ : ValueD), e9.number⟩ : EntryD) s11))))] at hp23
      refine rf_s w22 e24 ?_
      exact rf_ret ⟨_, rfl, hp23⟩
     ) (fun j26 a ha => ?_)
   obtain ⟨w27, rfl, hp28⟩ := ha
   refine rf_s (AV.int .i64 ((i18 + 1 : Nat) : Int)) (ix_inc he17 hle17) ?_
   exact rf_ret (rnd_go ⟨rfl, hp28⟩)
  ·intro hl s11 v w13 hI
   obtain ⟨rfl, hp15⟩ := hI
   refine rf_s (AV.bool false) (ix_end _) ?_
   refine rf_cf ?_
   exact rf_ret ⟨by simp, ⟨_, _, _, rfl, hp15⟩⟩
  ·intro hl b12 q hq
   obtain ⟨u5, u18, w14, rfl, hp16⟩ := hq
   refine rf_bt rfl ?_
   refine rf_s (AV.int .i64 ((i10 + 1 : Nat) : Int)) (ix_inc he9 hle9) ?_
   exact rf_ret (rnd_go ⟨rfl, hp16⟩)
  ·intro hl b12 q hq
   exact False.elim hq
 ·intro hl s3 v w5 hI
  obtain ⟨rfl, hp7⟩ := hI
  refine rf_s (AV.bool false) (ix_end _) ?_
  refine rf_cf ?_
  exact rf_ret ⟨by simp, ⟨_, _, rfl, hp7⟩⟩
 ·intro hl b4 q hq
  obtain ⟨u11, w6, rfl, hp8⟩ := hq
  refine rf_bt rfl ?_
  exact rf_fin _ (hp_fin hp8 (fzv_om hp8 (k := 0) rfl (by intro p hp; obtain ⟨x, _, rfl⟩ := List.mem_map.1 hp; exact ⟨(fz_agg (fz_cKey _)), (fz_agg (fz_cEntry _))⟩))) ⟨rfl, rfl⟩
 ·intro hl b4 q hq
  exact False.elim hq

noncomputable def t_cue_move (a0 : (List (KeyD × EntryD))) (a1 : KeyD) : Option MoveD :=
 some (⟨(⟨a1.unit, a1.param⟩ : KeyD), (⟨(((tfind a1 a0).getD (⟨(⟨0, (⟨#[]⟩ : ByteArray)⟩ : KeyD), (⟨0, 0⟩ : ValueD), 0⟩ : EntryD)).value).level, (((tfind a1 a0).getD (⟨(⟨0, (⟨#[]⟩ : ByteArray)⟩ : KeyD), (⟨0, 0⟩ : ValueD), 0⟩ : EntryD)).value).preset⟩ : ValueD), (!((tfind a1 a0).isSome)), false, 0, 0⟩ : MoveD)
theorem h_cue_move {a0 : (List (KeyD × EntryD))} { a1 : KeyD} {σ : Heap} {r : MoveD} (h : t_cue_move a0 a1 = some r) : m_cue_move [(fmE (fun x => (AV.agg (cKey x))) (fun x => (AV.agg (cEntry x))) a0), (AV.agg (cKey a1))] σ = some ((AV.agg (cMove r)), σ) := by
 refine rf_wrap2 (f := r_cue_move) (y0 := (fmE (fun x => (AV.agg (cKey x))) (fun x => (AV.agg (cEntry x))) a0)) (y1 := (AV.agg (cKey a1))) (enc := fun r : MoveD => (AV.agg (cMove r))) (T := t_cue_move a0 a1) rfl rfl ?_ r h
 unfold r_cue_move t_cue_move
 refine rf_s (cKey a1) rfl ?_
 refine rf_s (AV.agg (cKey a1)) rfl ?_
 refine rf_s (AV.tup [(AV.agg (cEntry ((tfind a1 a0).getD (⟨(⟨0, (⟨#[]⟩ : ByteArray)⟩ : KeyD), (⟨0, 0⟩ : ValueD), 0⟩ : EntryD)))), (AV.bool (tfind a1 a0).isSome)]) (fm_lookOkT (ek := (.s [0, 2])) (eK := (fun x => (AV.agg (cKey x)))) (eV := (fun x => (AV.agg (cEntry x)))) eqk_Key a1 (⟨(⟨0, (⟨#[]⟩ : ByteArray)⟩ : KeyD), (⟨0, 0⟩ : ValueD), 0⟩ : EntryD) rfl) ?_
 refine rf_s (AV.agg (cEntry ((tfind a1 a0).getD (⟨(⟨0, (⟨#[]⟩ : ByteArray)⟩ : KeyD), (⟨0, 0⟩ : ValueD), 0⟩ : EntryD)))) rfl ?_
 refine rf_s (AV.bool (tfind a1 a0).isSome) rfl ?_
 refine rf_s (cEntry ((tfind a1 a0).getD (⟨(⟨0, (⟨#[]⟩ : ByteArray)⟩ : KeyD), (⟨0, 0⟩ : ValueD), 0⟩ : EntryD))) rfl ?_
 refine rf_s (cEntry ((tfind a1 a0).getD (⟨(⟨0, (⟨#[]⟩ : ByteArray)⟩ : KeyD), (⟨0, 0⟩ : ValueD), 0⟩ : EntryD))) (sp_cEntry _ _ rfl) ?_
 refine rf_s (AV.agg (cKey a1)) rfl ?_
 refine rf_s (AV.agg (cValue (((tfind a1 a0).getD (⟨(⟨0, (⟨#[]⟩ : ByteArray)⟩ : KeyD), (⟨0, 0⟩ : ValueD), 0⟩ : EntryD)).value))) rfl ?_
 refine rf_s (AV.bool (!((tfind a1 a0).isSome))) rfl ?_
 refine rf_s (AV.agg (cMove (⟨(⟨a1.unit, a1.param⟩ : KeyD), (⟨(((tfind a1 a0).getD (⟨(⟨0, (⟨#[]⟩ : ByteArray)⟩ : KeyD), (⟨0, 0⟩ : ValueD), 0⟩ : EntryD)).value).level, (((tfind a1 a0).getD (⟨(⟨0, (⟨#[]⟩ : ByteArray)⟩ : KeyD), (⟨0, 0⟩ : ValueD), 0⟩ : EntryD)).value).preset⟩ : ValueD), (!((tfind a1 a0).isSome)), false, 0, 0⟩ : MoveD))) rfl ?_
 refine rf_s (cMove (⟨(⟨a1.unit, a1.param⟩ : KeyD), (⟨(((tfind a1 a0).getD (⟨(⟨0, (⟨#[]⟩ : ByteArray)⟩ : KeyD), (⟨0, 0⟩ : ValueD), 0⟩ : EntryD)).value).level, (((tfind a1 a0).getD (⟨(⟨0, (⟨#[]⟩ : ByteArray)⟩ : KeyD), (⟨0, 0⟩ : ValueD), 0⟩ : EntryD)).value).preset⟩ : ValueD), (!((tfind a1 a0).isSome)), false, 0, 0⟩ : MoveD)) rfl ?_
 refine rf_s (cMove (⟨(⟨a1.unit, a1.param⟩ : KeyD), (⟨(((tfind a1 a0).getD (⟨(⟨0, (⟨#[]⟩ : ByteArray)⟩ : KeyD), (⟨0, 0⟩ : ValueD), 0⟩ : EntryD)).value).level, (((tfind a1 a0).getD (⟨(⟨0, (⟨#[]⟩ : ByteArray)⟩ : KeyD), (⟨0, 0⟩ : ValueD), 0⟩ : EntryD)).value).preset⟩ : ValueD), (!((tfind a1 a0).isSome)), false, 0, 0⟩ : MoveD)) (sp_cMove _ _ rfl) ?_
 refine rf_s (AV.agg (cMove (⟨(⟨a1.unit, a1.param⟩ : KeyD), (⟨(((tfind a1 a0).getD (⟨(⟨0, (⟨#[]⟩ : ByteArray)⟩ : KeyD), (⟨0, 0⟩ : ValueD), 0⟩ : EntryD)).value).level, (((tfind a1 a0).getD (⟨(⟨0, (⟨#[]⟩ : ByteArray)⟩ : KeyD), (⟨0, 0⟩ : ValueD), 0⟩ : EntryD)).value).preset⟩ : ValueD), (!((tfind a1 a0).isSome)), false, 0, 0⟩ : MoveD))) rfl ?_
 exact rf_fin _ (fin_same _ _) ⟨rfl, rfl⟩

noncomputable def t_R5_At (a0 : (List CueD)) (a1 : Int) : Option Int :=
 forE a0 (fun (i8 : Nat) e7 (s1 : Unit) => (show Option (Lr Unit Unit Int) from
   if e7.number = a1 then
    some (.ret (i8 : Int))
   else
   some (.go ()))) (fun s1 => some ()) () (fun b2 =>
  some (-1)) (fun b2 =>
  some b2)
theorem h_R5_At {a0 : (List CueD)} { a1 : Int} {σ : Heap} {r : Int} (h : t_R5_At a0 a1 = some r) : m_R5_At [(sl 11 cCue a0), (AV.int .i64 a1)] σ = some ((AV.int .i64 r), σ) := by
 refine rf_wrap2 (f := r_R5_At) (y0 := (sl 11 cCue a0)) (y1 := (AV.int .i64 a1)) (enc := fun r : Int => (AV.int .i64 r)) (T := t_R5_At a0 a1) (nn_t1 (nn_e (fun _ => rfl) _) rfl) rfl ?_ r h
 unfold r_R5_At t_R5_At
 refine rf_s (AV.int .i64 (a0.length : Int)) (lenS_sl _ _ _) ?_
 refine rf_for (B := Unit) (R := Int) (fun (i8 : Nat) (s1 : Unit) v w3 => v = [(AV.int .i64 0), (AV.int .i64 (i8 : Int))] ∧ σ = w3) (fun (b2 : Unit) (q : LS) => ∃ u4 u9, q = ((AX.exit 0), ([u4, u9] : List AV), σ)) (fun (b2 : Int) (q : LS) => ∃ u9, q = (AX.ret, ([(AV.int .i64 b2), u9] : List AV), σ)) ?_ ?_ ⟨rfl, rfl⟩ ?_ ?_
 ·intro hle7 i8 e7 s1 v w3 he7 hI
  obtain ⟨rfl, rfl⟩ := hI
  refine rf_s (AV.bool true) (ix_lt he7) ?_
  refine rf_ct ?_
  refine rf_s (AV.rp (cCue e7)) (ix_for he7) ?_
  refine rf_s (AV.agg (cCue e7)) rfl ?_
  refine rf_s (cCue e7) rfl ?_
  refine rf_s (cCue e7) (sp_cCue _ _ rfl) ?_
  refine rf_s (AV.int .i64 e7.number) rfl ?_
  refine rf_s (AV.bool (decide (e7.number = a1))) (aEq _ _ _) ?_
  refine rf_c (p := e7.number = a1) (fun c9 => ?_) (fun c9 => ?_)
  ·exact rf_ret (rnd_ret (by simp) ⟨_, rfl⟩)
  refine rf_s (AV.int .i64 ((i8 + 1 : Nat) : Int)) (ix_inc he7 hle7) ?_
  exact rf_ret (rnd_go ⟨rfl, rfl⟩)
 ·intro hl s1 v w3 hI
  obtain ⟨rfl, rfl⟩ := hI
  refine rf_s (AV.bool false) (ix_end _) ?_
  refine rf_cf ?_
  exact rf_ret ⟨by simp, ⟨_, _, rfl⟩⟩
 ·intro hl b2 q hq
  obtain ⟨u4, u9, rfl⟩ := hq
  refine rf_bt rfl ?_
  exact rf_fin _ (fin_same _ _) ⟨rfl, rfl⟩
 ·intro hl b2 q hq
  obtain ⟨u9, rfl⟩ := hq
  refine rf_bf rfl ?_
  refine rf_bt rfl ?_
  exact rf_fin _ (fin_same _ _) ⟨rfl, rfl⟩

noncomputable def t_R5_place (a0 : (List EntryD)) (a1 : KeyD) : Option (Int × Bool) :=
 whE (fun (s1 : Int) => (show Option (Lr Int Int Unit) from
   (if decide (s1 < (a0.length : Int)) = true then tIx a0 s1 else some default).bind fun x7 =>
   if ((decide (s1 < (a0.length : Int))) && (((decide (x7.key.unit < a1.unit)) || ((decide (x7.key.unit = a1.unit)) && (Op.bytesLess x7.key.param.toList a1.param.toList))))) = true then
    some (.go (IntKind.i64.wrap (s1 + 1)))
   else
   some (.brk s1))) 0 (fun b2 =>
  (if decide (b2 < (a0.length : Int)) = true then tIx a0 b2 else some default).bind fun x9 =>
  some (b2, ((decide (b2 < (a0.length : Int))) && (decide (x9.key = a1))))) (fun b2 =>
  none)
theorem h_R5_place {a0 : (List EntryD)} { a1 : KeyD} {σ : Heap} {r : (Int × Bool)} (h : t_R5_place a0 a1 = some r) : m_R5_place [(sl 5 cEntry a0), (AV.agg (cKey a1))] σ = some ((AV.tup [(AV.int .i64 r.1), (AV.bool r.2)]), σ) := by
 refine rf_wrap2 (f := r_R5_place) (y0 := (sl 5 cEntry a0)) (y1 := (AV.agg (cKey a1))) (enc := fun r : (Int × Bool) => (AV.tup [(AV.int .i64 r.1), (AV.bool r.2)])) (T := t_R5_place a0 a1) rfl rfl ?_ r h
 unfold r_R5_place t_R5_place
 refine rf_s (cKey a1) rfl ?_
 refine rf_wh (B := Int) (R := Unit) (fun (s1 : Int) v w3 => v = [(AV.lbx (cKey a1)), (AV.int .i64 s1)] ∧ σ = w3) (fun (b2 : Int) (q : LS) => q = ((AX.exit 0), ([(AV.lbx (cKey a1)), (AV.int .i64 b2)] : List AV), σ)) (fun (b2 : Unit) (q : LS) => False) ?_ ⟨rfl, rfl⟩ ?_ ?_
 ·intro s1 v w3 hI
  obtain ⟨rfl, rfl⟩ := hI
  refine rf_s (AV.int .i64 (a0.length : Int)) (lenS_sl _ _ _) ?_
  refine rf_s (AV.bool (decide (s1 < (a0.length : Int)))) rfl ?_
  refine rf_gt (sl 5 cEntry a0) (fun hg => rfl) ?_
  refine rf_gt (AV.int .i64 s1) (fun hg => rfl) ?_
  refine rf_gto (ω := EntryD) (fun x7 => (AV.rp (cEntry x7))) (fun hg x7 hx7 => by
    simp only [hg, Bool.true_and, cond_true]; first | done | exact ix_at hx7) (fun x7 hx7 => ?_)
  refine rf_gt (AV.rp (cEntry x7)) (fun hg => by
    simp only [hg, Bool.true_and, cond_true]; first | done | exact rfl) ?_
  refine rf_gt (AV.agg (cKey x7.key)) (fun hg => by
    simp only [hg, Bool.true_and, cond_true]; first | done | exact rfl) ?_
  refine rf_gt (AV.agg (cKey a1)) (fun hg => rfl) ?_
  refine rf_gt (AV.bool (((decide (x7.key.unit < a1.unit)) || ((decide (x7.key.unit = a1.unit)) && (Op.bytesLess x7.key.param.toList a1.param.toList))))) (fun hg => by
    simp only [hg, Bool.true_and, cond_true]; first | done | exact (quiet_of (h_R4_Before (σ := σ) (r := ((decide (x7.key.unit < a1.unit)) || ((decide (x7.key.unit = a1.unit)) && (Op.bytesLess x7.key.param.toList a1.param.toList)))) rfl))) ?_
  refine rf_s (AV.bool ((decide (s1 < (a0.length : Int))) && (((decide (x7.key.unit < a1.unit)) || ((decide (x7.key.unit = a1.unit)) && (Op.bytesLess x7.key.param.toList a1.param.toList)))))) (pk_and _ _) ?_
  refine rf_cb (c := ((decide (s1 < (a0.length : Int))) && (((decide (x7.key.unit < a1.unit)) || ((decide (x7.key.unit = a1.unit)) && (Op.bytesLess x7.key.param.toList a1.param.toList)))))) (fun c8 => ?_) (fun c8 => ?_)
  ·refine rf_s (AV.int .i64 (IntKind.i64.wrap (s1 + 1))) rfl ?_
   exact rf_ret (rnd_go ⟨rfl, rfl⟩)
  exact rf_ret (rnd_brk (by simp) rfl)
 ·intro b2 q hq
  subst hq
  refine rf_bt rfl ?_
  refine rf_s (AV.int .i64 (a0.length : Int)) (lenS_sl _ _ _) ?_
  refine rf_s (AV.bool (decide (b2 < (a0.length : Int)))) rfl ?_
  refine rf_gt (sl 5 cEntry a0) (fun hg => rfl) ?_
  refine rf_gt (AV.int .i64 b2) (fun hg => rfl) ?_
  refine rf_gto (ω := EntryD) (fun x9 => (AV.rp (cEntry x9))) (fun hg x9 hx9 => by
    simp only [hg, Bool.true_and, cond_true]; first | done | exact ix_at hx9) (fun x9 hx9 => ?_)
  refine rf_gt (AV.rp (cEntry x9)) (fun hg => by
    simp only [hg, Bool.true_and, cond_true]; first | done | exact rfl) ?_
  refine rf_gt (AV.agg (cKey x9.key)) (fun hg => by
    simp only [hg, Bool.true_and, cond_true]; first | done | exact rfl) ?_
  refine rf_gt (AV.agg (cKey a1)) (fun hg => rfl) ?_
  refine rf_gt (AV.bool (decide (x9.key = a1))) (fun hg => by
    simp only [hg, Bool.true_and, cond_true]; first | done | exact (eq_Key _ _)) ?_
  refine rf_s (AV.bool ((decide (b2 < (a0.length : Int))) && (decide (x9.key = a1)))) (pk_and _ _) ?_
  exact rf_fin _ (fin_same _ _) ⟨rfl, rfl⟩
 ·intro b2 q hq
  exact False.elim hq

noncomputable def t_R5_moveOf (a0 : (List MoveD)) (a1 : KeyD) : Option (Int × Bool) :=
 whE (fun (s1 : Int) => (show Option (Lr Int Int Unit) from
   (if decide (s1 < (a0.length : Int)) = true then tIx a0 s1 else some default).bind fun x7 =>
   if ((decide (s1 < (a0.length : Int))) && (((decide (x7.key.unit < a1.unit)) || ((decide (x7.key.unit = a1.unit)) && (Op.bytesLess x7.key.param.toList a1.param.toList))))) = true then
    some (.go (IntKind.i64.wrap (s1 + 1)))
   else
   some (.brk s1))) 0 (fun b2 =>
  (if decide (b2 < (a0.length : Int)) = true then tIx a0 b2 else some default).bind fun x9 =>
  some (b2, ((decide (b2 < (a0.length : Int))) && (decide (x9.key = a1))))) (fun b2 =>
  none)
theorem h_R5_moveOf {a0 : (List MoveD)} { a1 : KeyD} {σ : Heap} {r : (Int × Bool)} (h : t_R5_moveOf a0 a1 = some r) : m_R5_moveOf [(sl 8 cMove a0), (AV.agg (cKey a1))] σ = some ((AV.tup [(AV.int .i64 r.1), (AV.bool r.2)]), σ) := by
 refine rf_wrap2 (f := r_R5_moveOf) (y0 := (sl 8 cMove a0)) (y1 := (AV.agg (cKey a1))) (enc := fun r : (Int × Bool) => (AV.tup [(AV.int .i64 r.1), (AV.bool r.2)])) (T := t_R5_moveOf a0 a1) rfl rfl ?_ r h
 unfold r_R5_moveOf t_R5_moveOf
 refine rf_s (cKey a1) rfl ?_
 refine rf_wh (B := Int) (R := Unit) (fun (s1 : Int) v w3 => v = [(AV.lbx (cKey a1)), (AV.int .i64 s1)] ∧ σ = w3) (fun (b2 : Int) (q : LS) => q = ((AX.exit 0), ([(AV.lbx (cKey a1)), (AV.int .i64 b2)] : List AV), σ)) (fun (b2 : Unit) (q : LS) => False) ?_ ⟨rfl, rfl⟩ ?_ ?_
 ·intro s1 v w3 hI
  obtain ⟨rfl, rfl⟩ := hI
  refine rf_s (AV.int .i64 (a0.length : Int)) (lenS_sl _ _ _) ?_
  refine rf_s (AV.bool (decide (s1 < (a0.length : Int)))) rfl ?_
  refine rf_gt (sl 8 cMove a0) (fun hg => rfl) ?_
  refine rf_gt (AV.int .i64 s1) (fun hg => rfl) ?_
  refine rf_gto (ω := MoveD) (fun x7 => (AV.rp (cMove x7))) (fun hg x7 hx7 => by
    simp only [hg, Bool.true_and, cond_true]; first | done | exact ix_at hx7) (fun x7 hx7 => ?_)
  refine rf_gt (AV.rp (cMove x7)) (fun hg => by
    simp only [hg, Bool.true_and, cond_true]; first | done | exact rfl) ?_
  refine rf_gt (AV.agg (cKey x7.key)) (fun hg => by
    simp only [hg, Bool.true_and, cond_true]; first | done | exact rfl) ?_
  refine rf_gt (AV.agg (cKey a1)) (fun hg => rfl) ?_
  refine rf_gt (AV.bool (((decide (x7.key.unit < a1.unit)) || ((decide (x7.key.unit = a1.unit)) && (Op.bytesLess x7.key.param.toList a1.param.toList))))) (fun hg => by
    simp only [hg, Bool.true_and, cond_true]; first | done | exact (quiet_of (h_R4_Before (σ := σ) (r := ((decide (x7.key.unit < a1.unit)) || ((decide (x7.key.unit = a1.unit)) && (Op.bytesLess x7.key.param.toList a1.param.toList)))) rfl))) ?_
  refine rf_s (AV.bool ((decide (s1 < (a0.length : Int))) && (((decide (x7.key.unit < a1.unit)) || ((decide (x7.key.unit = a1.unit)) && (Op.bytesLess x7.key.param.toList a1.param.toList)))))) (pk_and _ _) ?_
  refine rf_cb (c := ((decide (s1 < (a0.length : Int))) && (((decide (x7.key.unit < a1.unit)) || ((decide (x7.key.unit = a1.unit)) && (Op.bytesLess x7.key.param.toList a1.param.toList)))))) (fun c8 => ?_) (fun c8 => ?_)
  ·refine rf_s (AV.int .i64 (IntKind.i64.wrap (s1 + 1))) rfl ?_
   exact rf_ret (rnd_go ⟨rfl, rfl⟩)
  exact rf_ret (rnd_brk (by simp) rfl)
 ·intro b2 q hq
  subst hq
  refine rf_bt rfl ?_
  refine rf_s (AV.int .i64 (a0.length : Int)) (lenS_sl _ _ _) ?_
  refine rf_s (AV.bool (decide (b2 < (a0.length : Int)))) rfl ?_
  refine rf_gt (sl 8 cMove a0) (fun hg => rfl) ?_
  refine rf_gt (AV.int .i64 b2) (fun hg => rfl) ?_
  refine rf_gto (ω := MoveD) (fun x9 => (AV.rp (cMove x9))) (fun hg x9 hx9 => by
    simp only [hg, Bool.true_and, cond_true]; first | done | exact ix_at hx9) (fun x9 hx9 => ?_)
  refine rf_gt (AV.rp (cMove x9)) (fun hg => by
    simp only [hg, Bool.true_and, cond_true]; first | done | exact rfl) ?_
  refine rf_gt (AV.agg (cKey x9.key)) (fun hg => by
    simp only [hg, Bool.true_and, cond_true]; first | done | exact rfl) ?_
  refine rf_gt (AV.agg (cKey a1)) (fun hg => rfl) ?_
  refine rf_gt (AV.bool (decide (x9.key = a1))) (fun hg => by
    simp only [hg, Bool.true_and, cond_true]; first | done | exact (eq_Key _ _)) ?_
  refine rf_s (AV.bool ((decide (b2 < (a0.length : Int))) && (decide (x9.key = a1)))) (pk_and _ _) ?_
  exact rf_fin _ (fin_same _ _) ⟨rfl, rfl⟩
 ·intro b2 q hq
  exact False.elim hq

noncomputable def t_R5_valued (a0 : (List EntryD)) (a1 : KeyD) : Option MoveD :=
 (t_R5_place a0 a1).bind fun r1 =>
 if r1.2 = true then
  (tIx a0 r1.1).bind fun x2 =>
  some (⟨(⟨a1.unit, a1.param⟩ : KeyD), (⟨x2.value.level, x2.value.preset⟩ : ValueD), false, false, 0, 0⟩ : MoveD)
 else
 some (⟨(⟨a1.unit, a1.param⟩ : KeyD), (⟨0, 0⟩ : ValueD), true, false, 0, 0⟩ : MoveD)
theorem h_R5_valued {a0 : (List EntryD)} { a1 : KeyD} {σ : Heap} {r : MoveD} (h : t_R5_valued a0 a1 = some r) : m_R5_valued [(sl 5 cEntry a0), (AV.agg (cKey a1))] σ = some ((AV.agg (cMove r)), σ) := by
 refine rf_wrap2 (f := r_R5_valued) (y0 := (sl 5 cEntry a0)) (y1 := (AV.agg (cKey a1))) (enc := fun r : MoveD => (AV.agg (cMove r))) (T := t_R5_valued a0 a1) rfl rfl ?_ r h
 unfold r_R5_valued t_R5_valued
 refine rf_s (cKey a1) rfl ?_
 refine rf_s (AV.agg (cKey a1)) rfl ?_
 refine rf_o (fun r1 : (Int × Bool) => ((AV.tup [(AV.int .i64 r1.1), (AV.bool r1.2)]), σ)) (fun r1 hr1 => h_R5_place hr1) (fun r1 hr1 => ?_)
 refine rf_s (AV.int .i64 r1.1) rfl ?_
 refine rf_s (AV.bool r1.2) rfl ?_
 refine rf_cb (c := r1.2) (fun c3 => ?_) (fun c3 => ?_)
 ·refine rf_s (AV.agg (cKey a1)) rfl ?_
  refine rf_o (fun x2 : EntryD => (AV.rp (cEntry x2))) (fun x2 hx2 => ix_at hx2) (fun x2 hx2 => ?_)
  refine rf_s (AV.rp (List.drop 2 (cEntry x2))) rfl ?_
  refine rf_s (AV.agg (cValue x2.value)) rfl ?_
  refine rf_s (AV.agg (cMove (⟨(⟨a1.unit, a1.param⟩ : KeyD), (⟨x2.value.level, x2.value.preset⟩ : ValueD), false, false, 0, 0⟩ : MoveD))) rfl ?_
  refine rf_s (cMove (⟨(⟨a1.unit, a1.param⟩ : KeyD), (⟨x2.value.level, x2.value.preset⟩ : ValueD), false, false, 0, 0⟩ : MoveD)) rfl ?_
  refine rf_s (cMove (⟨(⟨a1.unit, a1.param⟩ : KeyD), (⟨x2.value.level, x2.value.preset⟩ : ValueD), false, false, 0, 0⟩ : MoveD)) (sp_cMove _ _ rfl) ?_
  refine rf_s (AV.agg (cMove (⟨(⟨a1.unit, a1.param⟩ : KeyD), (⟨x2.value.level, x2.value.preset⟩ : ValueD), false, false, 0, 0⟩ : MoveD))) rfl ?_
  exact rf_fin _ (fin_same _ _) ⟨rfl, rfl⟩
 refine rf_s (AV.agg (cKey a1)) rfl ?_
 refine rf_s (AV.agg (cMove (⟨(⟨a1.unit, a1.param⟩ : KeyD), (⟨0, 0⟩ : ValueD), true, false, 0, 0⟩ : MoveD))) rfl ?_
 refine rf_s (cMove (⟨(⟨a1.unit, a1.param⟩ : KeyD), (⟨0, 0⟩ : ValueD), true, false, 0, 0⟩ : MoveD)) rfl ?_
 refine rf_s (cMove (⟨(⟨a1.unit, a1.param⟩ : KeyD), (⟨0, 0⟩ : ValueD), true, false, 0, 0⟩ : MoveD)) (sp_cMove _ _ rfl) ?_
 refine rf_s (AV.agg (cMove (⟨(⟨a1.unit, a1.param⟩ : KeyD), (⟨0, 0⟩ : ValueD), true, false, 0, 0⟩ : MoveD))) rfl ?_
 exact rf_fin _ (fin_same _ _) ⟨rfl, rfl⟩

noncomputable def t_cue_idle_fn1 (a0 : MoveD) (a1 : (List (KeyD × EntryD))) : Option Bool :=
 some ((!a0.timed) && ((a0.release && (!((tfind a0.key a1).isSome))) || (((!a0.release) && ((tfind a0.key a1).isSome)) && (decide (((tfind a0.key a1).getD (⟨(⟨0, (⟨#[]⟩ : ByteArray)⟩ : KeyD), (⟨0, 0⟩ : ValueD), 0⟩ : EntryD)).value = a0.value)))))
theorem h_cue_idle_fn1 {a0 : MoveD} { a1 : (List (KeyD × EntryD))} {σ : Heap} {r : Bool} (h : t_cue_idle_fn1 a0 a1 = some r) : m_cue_idle_fn1 [(AV.agg (cMove a0)), (AV.rp [(fmE (fun x => (AV.agg (cKey x))) (fun x => (AV.agg (cEntry x))) a1)])] σ = some ((AV.bool r), σ) := by
 refine rf_wrap2 (f := r_cue_idle_fn1) (y0 := (AV.agg (cMove a0))) (y1 := (AV.rp [(fmE (fun x => (AV.agg (cKey x))) (fun x => (AV.agg (cEntry x))) a1)])) (enc := fun r : Bool => (AV.bool r)) (T := t_cue_idle_fn1 a0 a1) rfl rfl ?_ r h
 unfold r_cue_idle_fn1 t_cue_idle_fn1
 refine rf_s (cMove a0) rfl ?_
 refine rf_s (fmE (fun x => (AV.agg (cKey x))) (fun x => (AV.agg (cEntry x))) a1) rfl ?_
 refine rf_s (AV.agg (cKey a0.key)) rfl ?_
 refine rf_s (AV.tup [(AV.agg (cEntry ((tfind a0.key a1).getD (⟨(⟨0, (⟨#[]⟩ : ByteArray)⟩ : KeyD), (⟨0, 0⟩ : ValueD), 0⟩ : EntryD)))), (AV.bool (tfind a0.key a1).isSome)]) (fm_lookOkT (ek := (.s [0, 2])) (eK := (fun x => (AV.agg (cKey x)))) (eV := (fun x => (AV.agg (cEntry x)))) eqk_Key a0.key (⟨(⟨0, (⟨#[]⟩ : ByteArray)⟩ : KeyD), (⟨0, 0⟩ : ValueD), 0⟩ : EntryD) rfl) ?_
 refine rf_s (AV.agg (cEntry ((tfind a0.key a1).getD (⟨(⟨0, (⟨#[]⟩ : ByteArray)⟩ : KeyD), (⟨0, 0⟩ : ValueD), 0⟩ : EntryD)))) rfl ?_
 refine rf_s (AV.bool (tfind a0.key a1).isSome) rfl ?_
 refine rf_s (cEntry ((tfind a0.key a1).getD (⟨(⟨0, (⟨#[]⟩ : ByteArray)⟩ : KeyD), (⟨0, 0⟩ : ValueD), 0⟩ : EntryD))) rfl ?_
 refine rf_s (cEntry ((tfind a0.key a1).getD (⟨(⟨0, (⟨#[]⟩ : ByteArray)⟩ : KeyD), (⟨0, 0⟩ : ValueD), 0⟩ : EntryD))) (sp_cEntry _ _ rfl) ?_
 refine rf_s (AV.bool a0.timed) rfl ?_
 refine rf_s (AV.bool (!a0.timed)) rfl ?_
 refine rf_gt (AV.bool a0.release) (fun hg => rfl) ?_
 refine rf_gt (AV.bool a0.release) (fun hg => by
   simp only [hg, Bool.true_and, cond_true]; first | done | exact rfl) ?_
 refine rf_ggt (AV.bool (tfind a0.key a1).isSome) (fun hg => rfl) ?_
 refine rf_ggt (AV.bool (!((tfind a0.key a1).isSome))) (fun hg => by
   simp only [hg, Bool.true_and, cond_true]; first | done | exact rfl) ?_
 refine rf_gt (AV.bool (a0.release && (!((tfind a0.key a1).isSome)))) (fun hg => by
   simp only [hg, Bool.true_and, cond_true]; first | done | exact (pk_and _ _)) ?_
 refine rf_gt (AV.bool (a0.release && (!((tfind a0.key a1).isSome)))) (fun hg => by
   simp only [hg, Bool.true_and, cond_true]; first | done | exact rfl) ?_
 refine rf_ggf (AV.bool a0.release) (fun hg => rfl) ?_
 refine rf_ggf (AV.bool (!a0.release)) (fun hg => by
   simp only [hg, Bool.true_and, cond_true]; first | done | exact rfl) ?_
 refine rf_ggf (AV.bool (!a0.release)) (fun hg => by
   simp only [hg, Bool.true_and, cond_true]; first | done | exact rfl) ?_
 refine rf_ggt (AV.bool (tfind a0.key a1).isSome) (fun hg => rfl) ?_
 refine rf_ggf (AV.bool ((!a0.release) && ((tfind a0.key a1).isSome))) (fun hg => by
   simp only [hg, Bool.true_and, cond_true]; first | done | exact (pk_and _ _)) ?_
 refine rf_ggf (AV.bool ((!a0.release) && ((tfind a0.key a1).isSome))) (fun hg => by
   simp only [hg, Bool.true_and, cond_true]; first | done | exact rfl) ?_
 refine rf_ggt (AV.agg (cValue (((tfind a0.key a1).getD (⟨(⟨0, (⟨#[]⟩ : ByteArray)⟩ : KeyD), (⟨0, 0⟩ : ValueD), 0⟩ : EntryD)).value))) (fun hg => rfl) ?_
 refine rf_ggt (AV.agg (cValue a0.value)) (fun hg => rfl) ?_
 refine rf_ggt (AV.bool (decide (((tfind a0.key a1).getD (⟨(⟨0, (⟨#[]⟩ : ByteArray)⟩ : KeyD), (⟨0, 0⟩ : ValueD), 0⟩ : EntryD)).value = a0.value))) (fun hg => by
   simp only [hg, Bool.true_and, cond_true]; first | done | exact (eq_Value _ _)) ?_
 refine rf_ggf (AV.bool (((!a0.release) && ((tfind a0.key a1).isSome)) && (decide (((tfind a0.key a1).getD (⟨(⟨0, (⟨#[]⟩ : ByteArray)⟩ : KeyD), (⟨0, 0⟩ : ValueD), 0⟩ : EntryD)).value = a0.value)))) (fun hg => by
   simp only [hg, Bool.true_and, cond_true]; first | done | exact (pk_and _ _)) ?_
 refine rf_gt (AV.bool ((a0.release && (!((tfind a0.key a1).isSome))) || (((!a0.release) && ((tfind a0.key a1).isSome)) && (decide (((tfind a0.key a1).getD (⟨(⟨0, (⟨#[]⟩ : ByteArray)⟩ : KeyD), (⟨0, 0⟩ : ValueD), 0⟩ : EntryD)).value = a0.value))))) (fun hg => by
   simp only [hg, Bool.true_and, cond_true]; first | done | exact (pk_or _ _)) ?_
 refine rf_s (AV.bool ((!a0.timed) && ((a0.release && (!((tfind a0.key a1).isSome))) || (((!a0.release) && ((tfind a0.key a1).isSome)) && (decide (((tfind a0.key a1).getD (⟨(⟨0, (⟨#[]⟩ : ByteArray)⟩ : KeyD), (⟨0, 0⟩ : ValueD), 0⟩ : EntryD)).value = a0.value)))))) (pk_and _ _) ?_
 exact rf_fin _ (fin_same _ _) ⟨rfl, rfl⟩

noncomputable def t_slices_Equal_api_Point (a0 : (List PointD)) (a1 : (List PointD)) : Option Bool :=
 if ¬ ((a0.length : Int) = (a1.length : Int)) then
  some false
 else
 forE a0 (fun (i8 : Nat) e7 (s1 : Unit) => (show Option (Lr Unit Unit Unit) from
   (tIx a1 (i8 : Int)).bind fun x9 =>
   if ¬ (e7 = x9) then
    some (.ret ())
   else
   some (.go ()))) (fun s1 => some ()) () (fun b2 =>
  some true) (fun b2 =>
  some false)
theorem h_slices_Equal_api_Point {a0 : (List PointD)} { a1 : (List PointD)} {σ : Heap} {r : Bool} (h : t_slices_Equal_api_Point a0 a1 = some r) : m_slices_Equal_api_Point [(sl 2 cPoint a0), (sl 2 cPoint a1)] σ = some ((AV.bool r), σ) := by
 refine rf_wrap2 (f := r_slices_Equal_api_Point) (y0 := (sl 2 cPoint a0)) (y1 := (sl 2 cPoint a1)) (enc := fun r : Bool => (AV.bool r)) (T := t_slices_Equal_api_Point a0 a1) rfl rfl ?_ r h
 unfold r_slices_Equal_api_Point t_slices_Equal_api_Point
 refine rf_s (AV.int .i64 (a0.length : Int)) (lenS_sl _ _ _) ?_
 refine rf_s (AV.int .i64 (a1.length : Int)) (lenS_sl _ _ _) ?_
 refine rf_s (AV.bool (decide (¬ ((a0.length : Int) = (a1.length : Int))))) (aNe _ _ _) ?_
 refine rf_c (p := ¬ ((a0.length : Int) = (a1.length : Int))) (fun c11 => ?_) (fun c11 => ?_)
 ·exact rf_fin _ (fin_same _ _) ⟨rfl, rfl⟩
 refine rf_s (AV.int .i64 (a0.length : Int)) (lenS_sl _ _ _) ?_
 refine rf_for (B := Unit) (R := Unit) (fun (i8 : Nat) (s1 : Unit) v w3 => v = [(AV.bool false), (AV.int .i64 (i8 : Int))] ∧ σ = w3) (fun (b2 : Unit) (q : LS) => ∃ u4 u13, q = ((AX.exit 0), ([u4, u13] : List AV), σ)) (fun (b2 : Unit) (q : LS) => ∃ u13, q = (AX.ret, ([(AV.bool false), u13] : List AV), σ)) ?_ ?_ ⟨rfl, rfl⟩ ?_ ?_
 ·intro hle7 i8 e7 s1 v w3 he7 hI
  obtain ⟨rfl, rfl⟩ := hI
  refine rf_s (AV.bool true) (ix_lt he7) ?_
  refine rf_ct ?_
  refine rf_s (AV.rp (cPoint e7)) (ix_for he7) ?_
  refine rf_s (AV.agg (cPoint e7)) rfl ?_
  refine rf_o (fun x9 : PointD => (AV.rp (cPoint x9))) (fun x9 hx9 => ix_at hx9) (fun x9 hx9 => ?_)
  refine rf_s (AV.agg (cPoint x9)) rfl ?_
  refine rf_s (AV.bool (decide (¬ (e7 = x9)))) (ne_Point _ _) ?_
  refine rf_c (p := ¬ (e7 = x9)) (fun c10 => ?_) (fun c10 => ?_)
  ·exact rf_ret (rnd_ret (by simp) ⟨_, rfl⟩)
  refine rf_s (AV.int .i64 ((i8 + 1 : Nat) : Int)) (ix_inc he7 hle7) ?_
  exact rf_ret (rnd_go ⟨rfl, rfl⟩)
 ·intro hl s1 v w3 hI
  obtain ⟨rfl, rfl⟩ := hI
  refine rf_s (AV.bool false) (ix_end _) ?_
  refine rf_cf ?_
  exact rf_ret ⟨by simp, ⟨_, _, rfl⟩⟩
 ·intro hl b2 q hq
  obtain ⟨u4, u13, rfl⟩ := hq
  refine rf_bt rfl ?_
  exact rf_fin _ (fin_same _ _) ⟨rfl, rfl⟩
 ·intro hl b2 q hq
  obtain ⟨u13, rfl⟩ := hq
  refine rf_bf rfl ?_
  refine rf_bt rfl ?_
  exact rf_fin _ (fin_same _ _) ⟨rfl, rfl⟩

noncomputable def t_slices_Equal_api_Move (a0 : (List MoveD)) (a1 : (List MoveD)) : Option Bool :=
 if ¬ ((a0.length : Int) = (a1.length : Int)) then
  some false
 else
 forE a0 (fun (i8 : Nat) e7 (s1 : Unit) => (show Option (Lr Unit Unit Unit) from
   (tIx a1 (i8 : Int)).bind fun x9 =>
   if ¬ (e7 = x9) then
    some (.ret ())
   else
   some (.go ()))) (fun s1 => some ()) () (fun b2 =>
  some true) (fun b2 =>
  some false)
theorem h_slices_Equal_api_Move {a0 : (List MoveD)} { a1 : (List MoveD)} {σ : Heap} {r : Bool} (h : t_slices_Equal_api_Move a0 a1 = some r) : m_slices_Equal_api_Move [(sl 8 cMove a0), (sl 8 cMove a1)] σ = some ((AV.bool r), σ) := by
 refine rf_wrap2 (f := r_slices_Equal_api_Move) (y0 := (sl 8 cMove a0)) (y1 := (sl 8 cMove a1)) (enc := fun r : Bool => (AV.bool r)) (T := t_slices_Equal_api_Move a0 a1) rfl rfl ?_ r h
 unfold r_slices_Equal_api_Move t_slices_Equal_api_Move
 refine rf_s (AV.int .i64 (a0.length : Int)) (lenS_sl _ _ _) ?_
 refine rf_s (AV.int .i64 (a1.length : Int)) (lenS_sl _ _ _) ?_
 refine rf_s (AV.bool (decide (¬ ((a0.length : Int) = (a1.length : Int))))) (aNe _ _ _) ?_
 refine rf_c (p := ¬ ((a0.length : Int) = (a1.length : Int))) (fun c11 => ?_) (fun c11 => ?_)
 ·exact rf_fin _ (fin_same _ _) ⟨rfl, rfl⟩
 refine rf_s (AV.int .i64 (a0.length : Int)) (lenS_sl _ _ _) ?_
 refine rf_for (B := Unit) (R := Unit) (fun (i8 : Nat) (s1 : Unit) v w3 => v = [(AV.bool false), (AV.int .i64 (i8 : Int))] ∧ σ = w3) (fun (b2 : Unit) (q : LS) => ∃ u4 u13, q = ((AX.exit 0), ([u4, u13] : List AV), σ)) (fun (b2 : Unit) (q : LS) => ∃ u13, q = (AX.ret, ([(AV.bool false), u13] : List AV), σ)) ?_ ?_ ⟨rfl, rfl⟩ ?_ ?_
 ·intro hle7 i8 e7 s1 v w3 he7 hI
  obtain ⟨rfl, rfl⟩ := hI
  refine rf_s (AV.bool true) (ix_lt he7) ?_
  refine rf_ct ?_
  refine rf_s (AV.rp (cMove e7)) (ix_for he7) ?_
  refine rf_s (AV.agg (cMove e7)) rfl ?_
  refine rf_o (fun x9 : MoveD => (AV.rp (cMove x9))) (fun x9 hx9 => ix_at hx9) (fun x9 hx9 => ?_)
  refine rf_s (AV.agg (cMove x9)) rfl ?_
  refine rf_s (AV.bool (decide (¬ (e7 = x9)))) (ne_Move _ _) ?_
  refine rf_c (p := ¬ (e7 = x9)) (fun c10 => ?_) (fun c10 => ?_)
  ·exact rf_ret (rnd_ret (by simp) ⟨_, rfl⟩)
  refine rf_s (AV.int .i64 ((i8 + 1 : Nat) : Int)) (ix_inc he7 hle7) ?_
  exact rf_ret (rnd_go ⟨rfl, rfl⟩)
 ·intro hl s1 v w3 hI
  obtain ⟨rfl, rfl⟩ := hI
  refine rf_s (AV.bool false) (ix_end _) ?_
  refine rf_cf ?_
  exact rf_ret ⟨by simp, ⟨_, _, rfl⟩⟩
 ·intro hl b2 q hq
  obtain ⟨u4, u13, rfl⟩ := hq
  refine rf_bt rfl ?_
  exact rf_fin _ (fin_same _ _) ⟨rfl, rfl⟩
 ·intro hl b2 q hq
  obtain ⟨u13, rfl⟩ := hq
  refine rf_bf rfl ?_
  refine rf_bt rfl ?_
  exact rf_fin _ (fin_same _ _) ⟨rfl, rfl⟩

noncomputable def t_W5_sameCue (a0 : CueD) (a1 : CueD) : Option Bool :=
 (if (((((((((decide (a0.number = a1.number)) && (decide (a0.title = a1.title))) && (decide (a0.delay = a1.delay))) && (decide (a0.up = a1.up))) && (decide (a0.down = a1.down))) && (decide (a0.other = a1.other))) && (decide (a0.block = a1.block))) && (decide (a0.follow = a1.follow))) && (decide (a0.curve.kind = a1.curve.kind))) = true then t_slices_Equal_api_Point a0.curve.points a1.curve.points else some default).bind fun r1 =>
 (if ((((((((((decide (a0.number = a1.number)) && (decide (a0.title = a1.title))) && (decide (a0.delay = a1.delay))) && (decide (a0.up = a1.up))) && (decide (a0.down = a1.down))) && (decide (a0.other = a1.other))) && (decide (a0.block = a1.block))) && (decide (a0.follow = a1.follow))) && (decide (a0.curve.kind = a1.curve.kind))) && r1) = true then t_slices_Equal_api_Move a0.moves a1.moves else some default).bind fun r2 =>
 some (((((((((((decide (a0.number = a1.number)) && (decide (a0.title = a1.title))) && (decide (a0.delay = a1.delay))) && (decide (a0.up = a1.up))) && (decide (a0.down = a1.down))) && (decide (a0.other = a1.other))) && (decide (a0.block = a1.block))) && (decide (a0.follow = a1.follow))) && (decide (a0.curve.kind = a1.curve.kind))) && r1) && r2)
theorem h_W5_sameCue {a0 : CueD} { a1 : CueD} {σ : Heap} {r : Bool} (h : t_W5_sameCue a0 a1 = some r) : m_W5_sameCue [(AV.agg (cCue a0)), (AV.agg (cCue a1))] σ = some ((AV.bool r), σ) := by
 refine rf_wrap2 (f := r_W5_sameCue) (y0 := (AV.agg (cCue a0))) (y1 := (AV.agg (cCue a1))) (enc := fun r : Bool => (AV.bool r)) (T := t_W5_sameCue a0 a1) (nn_t1 (nn_a rfl) (nn_t1 (nn_a rfl) rfl)) rfl ?_ r h
 unfold r_W5_sameCue t_W5_sameCue
 refine rf_s (cCue a0) rfl ?_
 refine rf_s (cCue a1) rfl ?_
 refine rf_s (AV.int .i64 a0.number) rfl ?_
 refine rf_s (AV.int .i64 a1.number) rfl ?_
 refine rf_s (AV.bool (decide (a0.number = a1.number))) (aEq _ _ _) ?_
 refine rf_gt (AV.str a0.title) (fun hg => rfl) ?_
 refine rf_gt (AV.str a1.title) (fun hg => rfl) ?_
 refine rf_gt (AV.bool (decide (a0.title = a1.title))) (fun hg => by
   simp only [hg, Bool.true_and, cond_true]; first | done | exact (aEqZ _ _)) ?_
 refine rf_s (AV.bool ((decide (a0.number = a1.number)) && (decide (a0.title = a1.title)))) (pk_and _ _) ?_
 refine rf_gt (AV.int .i64 a0.delay) (fun hg => rfl) ?_
 refine rf_gt (AV.int .i64 a1.delay) (fun hg => rfl) ?_
 refine rf_gt (AV.bool (decide (a0.delay = a1.delay))) (fun hg => by
   simp only [hg, Bool.true_and, cond_true]; first | done | exact (aEq _ _ _)) ?_
 refine rf_s (AV.bool (((decide (a0.number = a1.number)) && (decide (a0.title = a1.title))) && (decide (a0.delay = a1.delay)))) (pk_and _ _) ?_
 refine rf_gt (AV.int .i64 a0.up) (fun hg => rfl) ?_
 refine rf_gt (AV.int .i64 a1.up) (fun hg => rfl) ?_
 refine rf_gt (AV.bool (decide (a0.up = a1.up))) (fun hg => by
   simp only [hg, Bool.true_and, cond_true]; first | done | exact (aEq _ _ _)) ?_
 refine rf_s (AV.bool ((((decide (a0.number = a1.number)) && (decide (a0.title = a1.title))) && (decide (a0.delay = a1.delay))) && (decide (a0.up = a1.up)))) (pk_and _ _) ?_
 refine rf_gt (AV.int .i64 a0.down) (fun hg => rfl) ?_
 refine rf_gt (AV.int .i64 a1.down) (fun hg => rfl) ?_
 refine rf_gt (AV.bool (decide (a0.down = a1.down))) (fun hg => by
   simp only [hg, Bool.true_and, cond_true]; first | done | exact (aEq _ _ _)) ?_
 refine rf_s (AV.bool (((((decide (a0.number = a1.number)) && (decide (a0.title = a1.title))) && (decide (a0.delay = a1.delay))) && (decide (a0.up = a1.up))) && (decide (a0.down = a1.down)))) (pk_and _ _) ?_
 refine rf_gt (AV.int .i64 a0.other) (fun hg => rfl) ?_
 refine rf_gt (AV.int .i64 a1.other) (fun hg => rfl) ?_
 refine rf_gt (AV.bool (decide (a0.other = a1.other))) (fun hg => by
   simp only [hg, Bool.true_and, cond_true]; first | done | exact (aEq _ _ _)) ?_
 refine rf_s (AV.bool ((((((decide (a0.number = a1.number)) && (decide (a0.title = a1.title))) && (decide (a0.delay = a1.delay))) && (decide (a0.up = a1.up))) && (decide (a0.down = a1.down))) && (decide (a0.other = a1.other)))) (pk_and _ _) ?_
 refine rf_gt (AV.bool a0.block) (fun hg => rfl) ?_
 refine rf_gt (AV.bool a1.block) (fun hg => rfl) ?_
 refine rf_gt (AV.bool (decide (a0.block = a1.block))) (fun hg => by
   simp only [hg, Bool.true_and, cond_true]; first | done | exact (aEqB _ _)) ?_
 refine rf_s (AV.bool (((((((decide (a0.number = a1.number)) && (decide (a0.title = a1.title))) && (decide (a0.delay = a1.delay))) && (decide (a0.up = a1.up))) && (decide (a0.down = a1.down))) && (decide (a0.other = a1.other))) && (decide (a0.block = a1.block)))) (pk_and _ _) ?_
 refine rf_gt (AV.int .i64 a0.follow) (fun hg => rfl) ?_
 refine rf_gt (AV.int .i64 a1.follow) (fun hg => rfl) ?_
 refine rf_gt (AV.bool (decide (a0.follow = a1.follow))) (fun hg => by
   simp only [hg, Bool.true_and, cond_true]; first | done | exact (aEq _ _ _)) ?_
 refine rf_s (AV.bool ((((((((decide (a0.number = a1.number)) && (decide (a0.title = a1.title))) && (decide (a0.delay = a1.delay))) && (decide (a0.up = a1.up))) && (decide (a0.down = a1.down))) && (decide (a0.other = a1.other))) && (decide (a0.block = a1.block))) && (decide (a0.follow = a1.follow)))) (pk_and _ _) ?_
 refine rf_gt (AV.int .i64 a0.curve.kind) (fun hg => rfl) ?_
 refine rf_gt (AV.int .i64 a1.curve.kind) (fun hg => rfl) ?_
 refine rf_gt (AV.bool (decide (a0.curve.kind = a1.curve.kind))) (fun hg => by
   simp only [hg, Bool.true_and, cond_true]; first | done | exact (aEq _ _ _)) ?_
 refine rf_s (AV.bool (((((((((decide (a0.number = a1.number)) && (decide (a0.title = a1.title))) && (decide (a0.delay = a1.delay))) && (decide (a0.up = a1.up))) && (decide (a0.down = a1.down))) && (decide (a0.other = a1.other))) && (decide (a0.block = a1.block))) && (decide (a0.follow = a1.follow))) && (decide (a0.curve.kind = a1.curve.kind)))) (pk_and _ _) ?_
 refine rf_gt (sl 2 cPoint a0.curve.points) (fun hg => rfl) ?_
 refine rf_gt (sl 2 cPoint a1.curve.points) (fun hg => rfl) ?_
 refine rf_gto (ω := Bool) (fun r1 => (AV.bool r1)) (fun hg r1 hr1 => by
   simp only [hg, Bool.true_and, cond_true]; first | done | exact (quiet_of (h_slices_Equal_api_Point hr1))) (fun r1 hr1 => ?_)
 refine rf_s (AV.bool ((((((((((decide (a0.number = a1.number)) && (decide (a0.title = a1.title))) && (decide (a0.delay = a1.delay))) && (decide (a0.up = a1.up))) && (decide (a0.down = a1.down))) && (decide (a0.other = a1.other))) && (decide (a0.block = a1.block))) && (decide (a0.follow = a1.follow))) && (decide (a0.curve.kind = a1.curve.kind))) && r1)) (pk_and _ _) ?_
 refine rf_gt (sl 8 cMove a0.moves) (fun hg => rfl) ?_
 refine rf_gt (sl 8 cMove a1.moves) (fun hg => rfl) ?_
 refine rf_gto (ω := Bool) (fun r2 => (AV.bool r2)) (fun hg r2 hr2 => by
   simp only [hg, Bool.true_and, cond_true]; first | done | exact (quiet_of (h_slices_Equal_api_Move hr2))) (fun r2 hr2 => ?_)
 refine rf_s (AV.bool (((((((((((decide (a0.number = a1.number)) && (decide (a0.title = a1.title))) && (decide (a0.delay = a1.delay))) && (decide (a0.up = a1.up))) && (decide (a0.down = a1.down))) && (decide (a0.other = a1.other))) && (decide (a0.block = a1.block))) && (decide (a0.follow = a1.follow))) && (decide (a0.curve.kind = a1.curve.kind))) && r1) && r2)) (pk_and _ _) ?_
 exact rf_fin _ (fin_same _ _) ⟨rfl, rfl⟩

end Go.Proofs.Ytphgchakmkankaa

namespace Go.Proofs.Ytphgchakmkankaa
set_option linter.unusedSectionVars false
set_option linter.unusedVariables false
set_option linter.unusedSimpArgs false
theorem half_nn {i j : Nat} (h : i + j < 9223372036854775808) : A.shr (.int .u64 ((i + j : Nat) : Int)) (.int .u64 1) = some (.int .u64 (((i + j) / 2 : Nat) : Int)) := by
 simp only [A.shr]
 rw [if_neg (by decide)]
 congr 2
 rw [show (2 : Int) ^ (min (Int.toNat 1) IntKind.u64.bits) = 2 from rfl, Int.fdiv_eq_ediv_of_nonneg _ (by decide)]
 omega
theorem conv_u {n : Nat} (h : n < 9223372036854775808) : A.conv .u64 (.int .i64 (n : Int)) = some (.int .u64 (n : Int)) := by
 simp only [A.conv]
 congr 2
 unfold IntKind.wrap
 simp [IntKind.bits, IntKind.signed]
 omega
theorem conv_i {n : Nat} (h : n < 9223372036854775808) : A.conv .i64 (.int .u64 (n : Int)) = some (.int .i64 (n : Int)) := by
 simp only [A.conv]
 rw [wrap64 (by unfold inI; omega)]
theorem tadd {a b : Nat} (h : a + b < 9223372036854775808) : A.add (.int .i64 (a : Int)) (.int .i64 (b : Int)) = some (.int .i64 ((a + b : Nat) : Int)) := by
 rw [aAdd, wrap64 (by unfold inI; omega)]; simp
theorem tadd1 {a : Nat} (h : a + 1 < 9223372036854775808) : A.add (.int .i64 (a : Int)) (.int .i64 1) = some (.int .i64 ((a + 1 : Nat) : Int)) := tadd (b := 1) h
theorem tlss (a b : Nat) : A.lss (.int .i64 (a : Int)) (.int .i64 (b : Int)) = some (.bool (decide (a < b))) := by
 rw [aLss]
 have : ((a : Int) < (b : Int)) = (a < b) := propext ⟨fun h => by omega, fun h => by omega⟩
 simp only [this]
theorem tlss0 (a : Int) : A.lss (.int .i64 a) (.int .i64 0) = some (.bool (decide (a < 0))) := by rw [aLss]
theorem exb {α : Type} {X Y : α} : (bif (AX.exit 0 == AX.exit 0) then X else Y) = X := rfl
theorem bs_loop {f : List AV → Heap → Option (AX × List AV × Heap)} {σ : Heap} (pv : Nat → Nat → List AV) {v0 : List AV} {n p : Nat} (hp : p ≤ n) (h0 : v0 = pv 0 n)
  (hs : ∀ i j, i < j → j ≤ n → f (pv i j) σ = some (.normal, if (i + j) / 2 < p then pv ((i + j) / 2 + 1) j else pv i ((i + j) / 2), σ))
  (he : ∀ i, i ≤ n → f (pv i i) σ = some (.exit 0, pv i i, σ)) : A.loop f v0 σ = some (.exit 0, pv p p, σ) := by
 subst h0
 have key : ∀ k i j, j - i ≤ k → i ≤ p → p ≤ j → j ≤ n → ∃ m, A.iter f m (pv i j) σ = some (.exit 0, pv p p, σ) := by
  intro k
  induction k with
  | zero =>
   intro i j hk h1 h2 h3
   have : i = p := by omega
   have : j = p := by omega
   subst i; subst j
   exact loop_done (he p h3) (by simp)
  | succ k ih =>
   intro i j hk h1 h2 h3
   by_cases hij : i < j
   ·have hstep := hs i j hij h3
    by_cases hh : (i + j) / 2 < p
    ·rw [if_pos hh] at hstep
     exact loop_step hstep (ih _ _ (by omega) (by omega) h2 h3)
    ·rw [if_neg hh] at hstep
     exact loop_step hstep (ih _ _ (by omega) h1 (by omega) (by omega))
   ·have : i = p := by omega
    have : j = p := by omega
    subst i; subst j
    exact loop_done (he p h3) (by simp)
 obtain ⟨m, hm⟩ := key n 0 n (by omega) (by omega) hp (Nat.le_refl _)
 exact loop_of_iter hm
theorem bsM {dyn : Nat → List AV → Heap → Option (AV × Heap)} {l : List MoveD} {fn : Nat} {k : KeyD} {cv : MoveD → Int} {p : Nat} {σ : Heap} (hl : l.length < 4611686018427387904) (hp : p ≤ l.length)
  (hd : ∀ x ∈ l, dyn fn [.agg (cMove x), .agg (cKey k)] σ = some (.int .i64 (cv x), σ)) (hc : ∀ h x, l[h]? = some x → (cv x < 0 ↔ h < p)) :
  m_slices_BinarySearchFunc_api_Move_api_Key dyn [sl 8 cMove l, .agg (cKey k), .fn fn []] σ = some (.tup [.int .i64 (p : Int), .bool ((l[p]?).any fun x => decide (cv x = 0))], σ) := by
 refine wrap_eq rfl ?_ rfl
 show r_slices_BinarySearchFunc_api_Move_api_Key dyn (sl 8 cMove l) (.agg (cKey k)) (.fn fn []) σ = _
 unfold r_slices_BinarySearchFunc_api_Move_api_Key
 rw [show A.cells 2 (.agg (cKey k)) = some (cKey k) from rfl, Option.bind_some, lenS_sl, Option.bind_some]
 rw [bs_loop (v0 := [.lbx (cKey k), .int .i64 0, .int .i64 (l.length : Int)]) (fun i j => [.lbx (cKey k), .int .i64 (i : Int), .int .i64 (j : Int)]) hp rfl ?_ ?_, Option.bind_some]
 ·simp only [exb, List.getD_cons_succ, List.getD_cons_zero]
  rw [tlss, Option.bind_some]
  by_cases hpl : p < l.length
  ·have hx : l[p]? = some l[p] := List.getElem?_eq_getElem hpl
   have hdx := hd _ (List.mem_of_getElem? hx)
   have hia := iaddr_sl 8 cMove l hx
   have hq := quiet_of (by show A.callv dyn (.fn fn []) [.agg (cMove l[p]), .agg (cKey k)] σ = _; simp only [A.callv, List.append_nil]; exact hdx)
   simp only [decide_eq_true hpl, A.guard, beq_self_eq_true, cond_true, Option.bind_some, List.getD_cons_succ, List.getD_cons_zero, hia, A.deref, pA_cMove, A.lb, A.part1, A.partA, A.pick, hx, Option.any_some]
   show ((A.quiet (A.callv dyn (.fn fn []) [.agg (cMove l[p]), .agg (cKey k)] σ) σ).bind _) = _
   rw [hq, Option.bind_some, aEq]
   exact fin_same _ _
  ·have hx : l[p]? = none := List.getElem?_eq_none (by omega)
   simp only [decide_eq_false hpl, A.guard, Option.bind_some, A.pick, hx, Option.any_none]
   exact fin_same _ _
 ·intro i j hij hj
  have hlt : (i + j) / 2 < l.length := by omega
  have hx : l[(i + j) / 2]? = some l[(i + j) / 2] := List.getElem?_eq_getElem hlt
  have hdx := hd _ (List.mem_of_getElem? hx)
  have hia := iaddr_sl 8 cMove l hx
  have hq := quiet_of (by show A.callv dyn (.fn fn []) [.agg (cMove l[(i + j) / 2]), .agg (cKey k)] σ = _; simp only [A.callv, List.append_nil]; exact hdx)
  simp only [List.getD_cons_succ, List.getD_cons_zero]
  rw [tlss, Option.bind_some, decide_eq_true hij]
  simp only [A.cond, cond_true]
  rw [tadd (by omega), Option.bind_some, conv_u (by omega), Option.bind_some, half_nn (by omega), Option.bind_some, conv_i (by omega), Option.bind_some, hia, Option.bind_some]
  simp only [A.deref, Option.bind_some, pA_cMove, A.lb]
  show ((A.quiet (A.callv dyn (.fn fn []) [.agg (cMove l[(i + j) / 2]), .agg (cKey k)] σ) σ).bind _) = _
  rw [hq, Option.bind_some, tlss0, Option.bind_some]
  by_cases hh : (i + j) / 2 < p
  ·have := (hc _ _ hx).2 hh
   rw [decide_eq_true this, if_pos hh]
   simp only [cond_true, tadd1 (show (i + j) / 2 + 1 < 9223372036854775808 by omega), Option.bind_some]
   rfl
  ·have : ¬ (cv l[(i + j) / 2] < 0) := fun e => hh ((hc _ _ hx).1 e)
   rw [decide_eq_false this, if_neg hh]
   rfl
 ·intro i hi
  simp only [List.getD_cons_succ, List.getD_cons_zero]
  rw [tlss, Option.bind_some, decide_eq_false (Nat.lt_irrefl i)]
  rfl
theorem bsC {dyn : Nat → List AV → Heap → Option (AV × Heap)} {l : List CueD} {fn : Nat} {k : Int} {cv : CueD → Int} {p : Nat} {σ : Heap} (hl : l.length < 4611686018427387904) (hp : p ≤ l.length)
  (hd : ∀ x ∈ l, dyn fn [.agg (cCue x), .int .i64 k] σ = some (.int .i64 (cv x), σ)) (hc : ∀ h x, l[h]? = some x → (cv x < 0 ↔ h < p)) :
  m_slices_BinarySearchFunc_api_Cue_int dyn [sl 11 cCue l, .int .i64 k, .fn fn []] σ = some (.tup [.int .i64 (p : Int), .bool ((l[p]?).any fun x => decide (cv x = 0))], σ) := by
 refine wrap_eq rfl ?_ rfl
 show r_slices_BinarySearchFunc_api_Cue_int dyn (sl 11 cCue l) (.int .i64 k) (.fn fn []) σ = _
 unfold r_slices_BinarySearchFunc_api_Cue_int
 rw [lenS_sl, Option.bind_some]
 rw [bs_loop (v0 := [.int .i64 0, .int .i64 (l.length : Int)]) (fun i j => [.int .i64 (i : Int), .int .i64 (j : Int)]) hp rfl ?_ ?_, Option.bind_some]
 ·simp only [exb, List.getD_cons_succ, List.getD_cons_zero]
  rw [tlss, Option.bind_some]
  by_cases hpl : p < l.length
  ·have hx : l[p]? = some l[p] := List.getElem?_eq_getElem hpl
   have hdx := hd _ (List.mem_of_getElem? hx)
   have hia := iaddr_sl 11 cCue l hx
   have hq := quiet_of (by show A.callv dyn (.fn fn []) [.agg (cCue l[p]), .int .i64 k] σ = _; simp only [A.callv, List.append_nil]; exact hdx)
   simp only [decide_eq_true hpl, A.guard, beq_self_eq_true, cond_true, Option.bind_some, List.getD_cons_succ, List.getD_cons_zero, hia, A.deref, pA_cCue, A.lb, A.part1, A.partA, A.pick, hx, Option.any_some]
   show ((A.quiet (A.callv dyn (.fn fn []) [.agg (cCue l[p]), .int .i64 k] σ) σ).bind _) = _
   rw [hq, Option.bind_some, aEq]
   exact fin_same _ _
  ·have hx : l[p]? = none := List.getElem?_eq_none (by omega)
   simp only [decide_eq_false hpl, A.guard, Option.bind_some, A.pick, hx, Option.any_none]
   exact fin_same _ _
 ·intro i j hij hj
  have hlt : (i + j) / 2 < l.length := by omega
  have hx : l[(i + j) / 2]? = some l[(i + j) / 2] := List.getElem?_eq_getElem hlt
  have hdx := hd _ (List.mem_of_getElem? hx)
  have hia := iaddr_sl 11 cCue l hx
  have hq : A.callv dyn (.fn fn []) [.agg (cCue l[(i + j) / 2]), .int .i64 k] σ = some (.int .i64 (cv l[(i + j) / 2]), σ) := by simp only [A.callv, List.append_nil]; exact hdx
  simp only [List.getD_cons_succ, List.getD_cons_zero]
  rw [tlss, Option.bind_some, decide_eq_true hij]
  simp only [A.cond, cond_true]
  rw [tadd (by omega), Option.bind_some, conv_u (by omega), Option.bind_some, half_nn (by omega), Option.bind_some, conv_i (by omega), Option.bind_some, hia, Option.bind_some]
  simp only [A.deref, Option.bind_some, pA_cCue, A.lb]
  rw [hq, Option.bind_some, tlss0, Option.bind_some]
  by_cases hh : (i + j) / 2 < p
  ·have := (hc _ _ hx).2 hh
   rw [decide_eq_true this, if_pos hh]
   simp only [cond_true, tadd1 (show (i + j) / 2 + 1 < 9223372036854775808 by omega), Option.bind_some]
   rfl
  ·have : ¬ (cv l[(i + j) / 2] < 0) := fun e => hh ((hc _ _ hx).1 e)
   rw [decide_eq_false this, if_neg hh]
   rfl
 ·intro i hi
  simp only [List.getD_cons_succ, List.getD_cons_zero]
  rw [tlss, Option.bind_some, decide_eq_false (Nat.lt_irrefl i)]
  rfl
end Go.Proofs.Ytphgchakmkankaa

namespace Go.Proofs.Ytphgchakmkankaa
set_option linter.unusedSectionVars false
set_option linter.unusedVariables false
set_option linter.unusedSimpArgs false
section
variable {α γ R S B : Type}
theorem forE_idx {p : α → Bool} {l : List α} {body : Nat → α → Unit → Option (Lr Unit Unit Int)} {fin : Unit → Option Unit} {s : Unit} {K1 : Unit → Option γ} {K2 : Int → Option γ} (hl : l.length ≤ mxl) (hb : ∀ i x, l[i]? = some x → body i x () = some (if p x = true then .ret (i : Int) else .go ())) (hf : fin () = some () := by rfl) : forE l body fin s K1 K2 = if idxI p l = -1 then K1 () else K2 (idxI p l) := by
 rw [forE_le hl]
 have key : ∀ (rest pre : List α), l = pre ++ rest → (∀ x ∈ pre, p x = false) → forL body fin rest pre.length () = some (if idxI p l = -1 then .inl () else .inr (idxI p l)) := by
  intro rest
  induction rest with
  | nil =>
   intro pre hp hn
   rw [List.append_nil] at hp
   rcases idxI_cases p l with ⟨h1, _⟩ | ⟨k, x, h1, h2, _⟩
   ·simp [forL, hf, h1]
   ·have := hn x (by rw [← hp]; exact List.mem_of_getElem? h1); rw [h2] at this; cases this
  | cons x rest ih =>
   intro pre hp hn
   have hx : l[pre.length]? = some x := by rw [hp]; simp
   rw [forL, hb pre.length x hx, Option.bind_some]
   cases h : p x
   ·simp only [Bool.false_eq_true, if_false]
    have := ih (pre ++ [x]) (by simpa using hp) (fun y hy => by
     rcases List.mem_append.1 hy with hy | hy
     ·exact hn y hy
     ·simp at hy; subst hy; exact h)
    simpa using this
   ·simp only [if_true]
    have e : idxI p l = pre.length := by
     rcases idxI_cases p l with ⟨h1, h2, _⟩ | ⟨k, y, h1, h2, h3, _, h5⟩
     ·have := h2 x (List.mem_of_getElem? hx); rw [h] at this; cases this
     ·rw [h3]
      rcases Nat.lt_trichotomy k pre.length with hk | hk | hk
      ·rw [hp, List.getElem?_append_left hk] at h1
       have := hn y (List.mem_of_getElem? h1); rw [h2] at this; cases this
      ·omega
      ·have := h5 pre.length x hk hx; rw [h] at this; cases this
    rw [if_neg (by omega), e]
 have k := key l [] rfl (by simp)
 rw [List.length_nil] at k
 rw [show s = () from rfl, k, Option.bind_some]
 split <;> rfl
end
theorem At_t (l : List CueD) (hl : l.length ≤ mxl) (n : Int) : t_R5_At l n = some (idxI (fun c => decide (c.number = n)) l) := by
 unfold t_R5_At
 rw [forE_idx (p := fun c => decide (c.number = n)) hl (by intro i x _; simp only [decide_eq_true_eq, ite_pure])]
 split
 ·rename_i h; rw [h]
 ·rfl
end Go.Proofs.Ytphgchakmkankaa

namespace Go.Proofs.Ytphgchakmkankaa
set_option linter.unusedSectionVars false
set_option linter.unusedVariables false
set_option linter.unusedSimpArgs false
theorem bl_irr : ∀ a : List UInt8, Op.bytesLess a a = false
 | [] => rfl
 | x :: l => by simp [Op.bytesLess, UInt8.lt_irrefl, bl_irr l]
theorem bl_trans : ∀ a b c : List UInt8, Op.bytesLess a b = true → Op.bytesLess b c = true → Op.bytesLess a c = true
 | [], [], c, h, _ => by simp [Op.bytesLess] at h
 | [], _ :: _, [], _, k => by simp [Op.bytesLess] at k
 | [], _ :: _, _ :: _, _, _ => rfl
 | _ :: _, [], c, h, _ => by simp [Op.bytesLess] at h
 | _ :: _, _ :: _, [], _, k => by simp [Op.bytesLess] at k
 | x :: a, y :: b, z :: c, h, k => by
  rw [Op.bytesLess] at h k ⊢
  simp only [Bool.or_eq_true, Bool.and_eq_true, decide_eq_true_eq, beq_iff_eq] at h k ⊢
  rcases h with h | ⟨rfl, h⟩ <;> rcases k with k | ⟨rfl, k⟩
  ·exact .inl (UInt8.lt_trans h k)
  ·exact .inl h
  ·exact .inl k
  ·exact .inr ⟨rfl, bl_trans a b c h k⟩
theorem ltK_irr (a : KeyD) : ltK a a = false := by simp [ltK, bl_irr]
theorem ltK_trans {a b c : KeyD} (h : ltK a b = true) (k : ltK b c = true) : ltK a c = true := by
 simp only [ltK, Bool.or_eq_true, Bool.and_eq_true, decide_eq_true_eq] at h k ⊢
 rcases h with h | ⟨h1, h2⟩ <;> rcases k with k | ⟨k1, k2⟩
 ·left; omega
 ·left; omega
 ·left; omega
 ·right; exact ⟨by omega, bl_trans _ _ _ h2 k2⟩
theorem ltK_tri {a b : KeyD} (h : ltK a b = false) (k : ltK b a = false) : a = b := by
 rw [← cmpK_eq]
 have h1 : ¬ cmpK a b < 0 := fun e => by rw [(cmpK_lt a b).1 e] at h; cases h
 have hba : cmpK b a = - cmpK a b ∨ True := .inr trivial
 -- what is neither smaller nor greater is the same
 unfold cmpK at h1 ⊢
 simp only [ltK, Bool.or_eq_false_iff, Bool.and_eq_false_iff, decide_eq_false_iff_not] at h k
 have hu : a.unit = b.unit := by omega
 simp only [hu, not_true_eq_false, if_false] at h1 ⊢
 have e1 : Op.bytesLess a.param.data.toList b.param.data.toList = false := by
  rcases h.2 with q | q
  ·exact absurd hu q
  ·simpa [toList_d] using q
 have e2 : Op.bytesLess b.param.data.toList a.param.data.toList = false := by
  rcases k.2 with q | q
  ·exact absurd hu.symm q
  ·simpa [toList_d] using q
 rw [cmpB_eq]
 have tri : ∀ x y : List UInt8, Op.bytesLess x y = false → Op.bytesLess y x = false → x = y := by
  intro x
  induction x with
  | nil => intro y p q; cases y with | nil => rfl | cons y l => simp [Op.bytesLess] at p
  | cons x xs ih =>
   intro y p q
   cases y with
   | nil => simp [Op.bytesLess] at q
   | cons y ys =>
    rw [Op.bytesLess] at p q
    by_cases h1 : x < y
    ·simp [h1] at p
    ·by_cases h2 : y < x
     ·simp [h2] at q
     ·have : x = y := UInt8.le_antisymm (UInt8.not_lt.1 h2) (UInt8.not_lt.1 h1)
      subst this
      simp [h1] at p q
      rw [ih ys p q]
 exact tri _ _ e1 e2
def srtM (l : List MoveD) : Prop := l.Pairwise fun a b => ltK a.key b.key = true
def posM (l : List MoveD) (k : KeyD) : Nat := (l.takeWhile fun m => ltK m.key k).length
def hasM (l : List MoveD) (k : KeyD) : Bool := l.any fun m => decide (m.key = k)
theorem posM_le (l : List MoveD) (k : KeyD) : posM l k ≤ l.length := (List.takeWhile_prefix _).length_le
theorem posM_lt {l : List MoveD} {k : KeyD} (h : srtM l) : ∀ {i : Nat} {x : MoveD}, l[i]? = some x → (ltK x.key k = true ↔ i < posM l k) := by
 induction l with
 | nil => intro i x hx; simp at hx
 | cons a l ih =>
  intro i x hx
  have hs := List.pairwise_cons.1 h
  unfold posM
  rw [List.takeWhile_cons]
  cases ha : ltK a.key k
  ·simp only [Bool.false_eq_true, if_false, List.length_nil, Nat.not_lt_zero, iff_false, Bool.not_eq_true]
   cases i with
   | zero => simp at hx; subst hx; exact ha
   | succ i =>
    simp only [List.getElem?_cons_succ] at hx
    have := hs.1 x (List.mem_of_getElem? hx)
    cases hq : ltK x.key k
    ·rfl
    ·rw [ltK_trans this hq] at ha; cases ha
  ·simp only [if_true, List.length_cons]
   cases i with
   | zero => simp at hx; subst hx; simp [ha]
   | succ i =>
    simp only [List.getElem?_cons_succ] at hx
    rw [ih hs.2 hx]
    unfold posM
    omega
theorem posM_has {l : List MoveD} {k : KeyD} (h : srtM l) : ((l[posM l k]?).any fun x => decide (x.key = k)) = hasM l k := by
 rw [Bool.eq_iff_iff]
 constructor
 ·intro e
  cases hx : l[posM l k]? with
  | none => rw [hx] at e; cases e
  | some x =>
   rw [hx] at e
   exact List.any_eq_true.2 ⟨x, List.mem_of_getElem? hx, e⟩
 ·intro e
  obtain ⟨x, hm, hk⟩ := List.any_eq_true.1 e
  have hk := of_decide_eq_true hk
  obtain ⟨i, hi⟩ := List.mem_iff_getElem?.1 hm
  have h1 : ¬ i < posM l k := fun q => by
   have := (posM_lt h hi).2 q
   rw [hk, ltK_irr] at this; cases this
  have h2 : ¬ posM l k < i := fun q => by
   have hp : posM l k < l.length := Nat.lt_trans q (List.getElem?_eq_some_iff.1 hi).1
   have hy : l[posM l k]? = some l[posM l k] := List.getElem?_eq_getElem hp
   have h3 : ¬ ltK l[posM l k].key k = true := fun q' => Nat.lt_irrefl _ ((posM_lt h hy).1 q')
   have h4 := List.pairwise_iff_getElem.1 h (posM l k) i hp (List.getElem?_eq_some_iff.1 hi).1 q
   rw [(List.getElem?_eq_some_iff.1 hi).2, hk] at h4
   exact h3 h4
  have : posM l k = i := by omega
  rw [this, hi]; simp [hk]
theorem moveAt_t {c : CueD} (hs : srtM c.moves) (hl : c.moves.length < 4611686018427387904) (k : KeyD) (σ : Heap) : m_cue_moveAt [.agg (cCue c), .agg (cKey k)] σ = some (.tup [.int .i64 (posM c.moves k : Int), .bool (hasM c.moves k)], σ) := by
 refine wrap_eq rfl ?_ rfl
 show r_cue_moveAt (.agg (cCue c)) (.agg (cKey k)) σ = _
 unfold r_cue_moveAt
 rw [ce_cCue, Option.bind_some, show A.cells 2 (.agg (cKey k)) = some (cKey k) from rfl, Option.bind_some, show A.part1 10 (cCue c) = some (sl 8 cMove c.moves) from rfl, Option.bind_some, show A.partA 0 2 (cKey k) = some (.agg (cKey k)) from rfl, Option.bind_some]
 rw [bsM (cv := fun x => cmpK x.key k) (p := posM c.moves k) hl (posM_le _ _) ?_ ?_, Option.bind_some]
 ·have e : ((c.moves[posM c.moves k]?).any fun x => decide (cmpK x.key k = 0)) = hasM c.moves k := by
   rw [← posM_has hs]
   congr 1
   funext x
   rw [decide_eq_decide, cmpK_eq]
  rw [e]
  exact fin_same _ _
 ·intro x hx
  exact h_cue_moveAt_fn1 (r := cmpK x.key k) (by unfold t_cue_moveAt_fn1; rw [compare_eq]; rfl)
 ·intro i x hx
  rw [cmpK_lt, posM_lt hs hx]
structure Good (l : List CueD) : Prop where
 len : l.length ≤ 300
 num : ∀ c ∈ l, 1 ≤ c.number ∧ c.number ≤ 9999999
 srt : l.Pairwise fun a b => a.number < b.number
 mv : ∀ c ∈ l, c.moves.length ≤ 2000 ∧ srtM c.moves
 pts : ∀ c ∈ l, c.curve.points.length ≤ 20
theorem srt_of_step {α : Type} [Inhabited α] {r : α → α → Prop} (tr : ∀ a b c, r a b → r b c → r a c) : ∀ (l : List α), (∀ i x, l[i + 1]? = some x → r (l[i]?.getD default) x) → l.Pairwise r
 | [], _ => List.Pairwise.nil
 | [a], _ => by simp
 | a :: b :: l, h => by
  have ih := srt_of_step tr (b :: l) (fun i x hx => h (i + 1) x hx)
  have hab : r a b := h 0 b rfl
  refine List.pairwise_cons.2 ⟨fun x hx => ?_, ih⟩
  rcases List.mem_cons.1 hx with rfl | hx
  ·exact hab
  ·exact tr _ _ _ hab ((List.pairwise_cons.1 ih).1 x hx)
end Go.Proofs.Ytphgchakmkankaa

namespace Go.Proofs.Ytphgchakmkankaa
set_option linter.unusedSectionVars false
set_option linter.unusedVariables false
set_option linter.unusedSimpArgs false
theorem pv_succ {α : Type} [Inhabited α] (l : List α) (i : Nat) : pv l (i + 1) = l[i]?.getD default := by
 simp [pv, List.getD_eq_getElem?_getD]
theorem good_moves {l : List MoveD} (h : movesF l = 0) : srtM l := by
 unfold movesF at h
 refine srt_of_step (r := fun a b : MoveD => ltK a.key b.key = true) (fun a b c => ltK_trans) l fun i x hx => ?_
 have := (chkE_zero l 0).1 h (i + 1) x hx
 rw [Nat.zero_add] at this
 unfold moveF at this
 rw [← pv_succ]
 by_cases hq : ltK (pv l (i + 1)).key x.key = true
 ·exact hq
 ·exfalso
  have e : (decide (0 < ((i + 1 : Nat) : Int)) && !ltK (pv l (i + 1)).key x.key) = true := by
   rw [Bool.and_eq_true]; exact ⟨decide_eq_true (by omega), by simpa using hq⟩
  rw [e] at this
  repeat (first | (split at this; · cases this) | (simp at this; done) | (rename_i q; exact q rfl))
theorem good_of {l : List CueD} (h : formF l = 0) : Good l := by
 unfold formF at h
 by_cases h1 : 300 < (l.length : Int)
 ·simp [h1] at h
 rw [if_neg h1] at h
 by_cases h2 : chkE (cueF l) l 0 = 0
 case neg => rw [if_pos h2] at h; exact absurd h h2
 have hc : ∀ i x, l[i]? = some x → (1 ≤ x.number ∧ x.number ≤ 9999999) ∧ (0 < i → (pv l i).number < x.number) ∧ x.moves.length ≤ 2000 ∧ movesF x.moves = 0 ∧ x.curve.points.length ≤ 20 := by
  intro i x hx
  have := (chkE_zero l 0).1 h2 i x hx
  rw [Nat.zero_add] at this
  unfold cueF at this
  split at this
  ·cases this
  rename_i a1
  split at this
  ·cases this
  rename_i a2
  split at this
  ·cases this
  split at this
  ·cases this
  split at this
  ·rename_i a5; exact absurd this a5
  rename_i a5
  split at this
  ·cases this
  rename_i a6
  have hpt : x.curve.points.length ≤ 20 := by
   have a5 : curveF x.curve = 0 := by simpa using a5
   unfold curveF at a5
   split at a5
   ·cases a5
   split at a5
   ·split at a5
    ·cases a5
    split at a5
    ·cases a5
    omega
   ·split at a5
    ·cases a5
    omega
  refine ⟨by simpa [withinB] using a1, fun hi => ?_, by omega, this, hpt⟩
  have hi' : decide (0 < (i : Int)) = true := decide_eq_true (by omega)
  rw [hi', Bool.true_and, decide_eq_true_eq] at a2
  omega
 refine ⟨by omega, fun c hc' => ?_, ?_, fun c hc' => ?_, fun c hc' => ?_⟩
 ·obtain ⟨i, hi⟩ := List.mem_iff_getElem?.1 hc'
  exact (hc i c hi).1
 ·refine srt_of_step (r := fun a b : CueD => a.number < b.number) (fun a b c => Int.lt_trans) l fun i x hx => ?_
  rw [← pv_succ]
  exact (hc (i + 1) x hx).2.1 (by omega)
 ·obtain ⟨i, hi⟩ := List.mem_iff_getElem?.1 hc'
  exact ⟨(hc i c hi).2.2.1, good_moves (hc i c hi).2.2.2.1⟩
 ·obtain ⟨i, hi⟩ := List.mem_iff_getElem?.1 hc'
  exact (hc i c hi).2.2.2.2
def posC (l : List CueD) (n : Int) : Nat := (l.takeWhile fun c => decide (c.number < n)).length
def hasC (l : List CueD) (n : Int) : Bool := l.any fun c => decide (c.number = n)
theorem posC_le (l : List CueD) (n : Int) : posC l n ≤ l.length := (List.takeWhile_prefix _).length_le
theorem posC_lt {l : List CueD} {n : Int} (h : l.Pairwise fun a b => a.number < b.number) : ∀ {i : Nat} {x : CueD}, l[i]? = some x → (x.number < n ↔ i < posC l n) := by
 induction l with
 | nil => intro i x hx; simp at hx
 | cons a l ih =>
  intro i x hx
  have hs := List.pairwise_cons.1 h
  unfold posC
  rw [List.takeWhile_cons]
  by_cases ha : a.number < n
  ·rw [decide_eq_true ha]
   simp only [if_true, List.length_cons]
   cases i with
   | zero => simp at hx; subst hx; simp [ha]
   | succ i =>
    simp only [List.getElem?_cons_succ] at hx
    rw [ih hs.2 hx]
    unfold posC
    omega
  ·rw [decide_eq_false ha]
   simp only [Bool.false_eq_true, if_false, List.length_nil, Nat.not_lt_zero, iff_false]
   cases i with
   | zero => simp at hx; subst hx; exact ha
   | succ i =>
    simp only [List.getElem?_cons_succ] at hx
    have := hs.1 x (List.mem_of_getElem? hx)
    omega
theorem posC_at {l : List CueD} {n : Int} (h : l.Pairwise fun a b => a.number < b.number) {i : Nat} {x : CueD} (hx : l[i]? = some x) (hn : x.number = n) : posC l n = i := by
 have h1 : ¬ i < posC l n := fun q => by have := (posC_lt h hx).2 q; omega
 have h2 : ¬ posC l n < i := fun q => by
  have hp : posC l n < l.length := Nat.lt_trans q (List.getElem?_eq_some_iff.1 hx).1
  have hy : l[posC l n]? = some l[posC l n] := List.getElem?_eq_getElem hp
  have h3 : ¬ l[posC l n].number < n := fun q' => Nat.lt_irrefl _ ((posC_lt h hy).1 q')
  have h4 := List.pairwise_iff_getElem.1 h (posC l n) i hp (List.getElem?_eq_some_iff.1 hx).1 q
  rw [(List.getElem?_eq_some_iff.1 hx).2, hn] at h4
  exact h3 h4
 omega
theorem posC_has {l : List CueD} {n : Int} (h : l.Pairwise fun a b => a.number < b.number) : ((l[posC l n]?).any fun x => decide (x.number = n)) = hasC l n := by
 rw [Bool.eq_iff_iff]
 constructor
 ·intro e
  cases hx : l[posC l n]? with
  | none => rw [hx] at e; cases e
  | some x => rw [hx] at e; exact List.any_eq_true.2 ⟨x, List.mem_of_getElem? hx, e⟩
 ·intro e
  obtain ⟨x, hm, hk⟩ := List.any_eq_true.1 e
  have hk := of_decide_eq_true hk
  obtain ⟨i, hi⟩ := List.mem_iff_getElem?.1 hm
  rw [posC_at h hi hk, hi]; simp [hk]
theorem bs_some {f : List AV → Heap → Option (AX × List AV × Heap)} {σ : Heap} (pv : Nat → Nat → List AV) {v0 : List AV} {n : Nat} (h0 : v0 = pv 0 n) (q : Nat → Bool)
  (hs : ∀ i j, i < j → j ≤ n → f (pv i j) σ = some (.normal, if q ((i + j) / 2) = true then pv ((i + j) / 2 + 1) j else pv i ((i + j) / 2), σ))
  (he : ∀ i, i ≤ n → f (pv i i) σ = some (.exit 0, pv i i, σ)) : ∃ p, p ≤ n ∧ A.loop f v0 σ = some (.exit 0, pv p p, σ) := by
 subst h0
 have key : ∀ k i j, j - i ≤ k → i ≤ j → j ≤ n → ∃ p, p ≤ n ∧ ∃ m, A.iter f m (pv i j) σ = some (.exit 0, pv p p, σ) := by
  intro k
  induction k with
  | zero =>
   intro i j hk h1 h3
   have : i = j := by omega
   subst i
   exact ⟨j, h3, loop_done (he j h3) (by simp)⟩
  | succ k ih =>
   intro i j hk h1 h3
   by_cases hij : i < j
   ·have hstep := hs i j hij h3
    by_cases hh : q ((i + j) / 2) = true
    ·rw [if_pos hh] at hstep
     obtain ⟨p, hp, hm⟩ := ih _ _ (by omega) (show (i + j) / 2 + 1 ≤ j by omega) h3
     exact ⟨p, hp, loop_step hstep hm⟩
    ·rw [if_neg hh] at hstep
     obtain ⟨p, hp, hm⟩ := ih i ((i + j) / 2) (by omega) (by omega) (by omega)
     exact ⟨p, hp, loop_step hstep hm⟩
   ·have : i = j := by omega
    subst i
    exact ⟨j, h3, loop_done (he j h3) (by simp)⟩
 obtain ⟨p, hp, m, hm⟩ := key n 0 n (by omega) (by omega) (Nat.le_refl _)
 exact ⟨p, hp, loop_of_iter hm⟩
theorem bs_bind {β : Type} {f : List AV → Heap → Option (AX × List AV × Heap)} {σ : Heap} {K : AX × List AV × Heap → Option β} {r : Nat → β} (pv : Nat → Nat → List AV) {v0 : List AV} {n : Nat} (h0 : v0 = pv 0 n) (q : Nat → Bool)
  (hs : ∀ i j, i < j → j ≤ n → f (pv i j) σ = some (.normal, if q ((i + j) / 2) = true then pv ((i + j) / 2 + 1) j else pv i ((i + j) / 2), σ))
  (he : ∀ i, i ≤ n → f (pv i i) σ = some (.exit 0, pv i i, σ)) (hK : ∀ p, p ≤ n → K (.exit 0, pv p p, σ) = some (r p)) : ∃ p, p ≤ n ∧ (A.loop f v0 σ).bind K = some (r p) := by
 obtain ⟨p, hp, h⟩ := bs_some pv h0 q hs he
 exact ⟨p, hp, by rw [h, Option.bind_some, hK p hp]⟩
theorem bsC_no {dyn : Nat → List AV → Heap → Option (AV × Heap)} {l : List CueD} {fn : Nat} {k : Int} {cv : CueD → Int} {σ : Heap} (hl : l.length < 4611686018427387904)
  (hd : ∀ x ∈ l, dyn fn [.agg (cCue x), .int .i64 k] σ = some (.int .i64 (cv x), σ)) (hc : ∀ x ∈ l, cv x ≠ 0) :
  ∃ p : Nat, p ≤ l.length ∧ m_slices_BinarySearchFunc_api_Cue_int dyn [sl 11 cCue l, .int .i64 k, .fn fn []] σ = some (.tup [.int .i64 (p : Int), .bool false], σ) := by
 suffices h : ∃ p : Nat, p ≤ l.length ∧ r_slices_BinarySearchFunc_api_Cue_int dyn (sl 11 cCue l) (.int .i64 k) (.fn fn []) σ = some (.tup [.int .i64 (p : Int), .bool false], σ) by
  obtain ⟨p, hp, h⟩ := h
  exact ⟨p, hp, wrap_eq rfl h rfl⟩
 unfold r_slices_BinarySearchFunc_api_Cue_int
 rw [lenS_sl, Option.bind_some]
 refine bs_bind (v0 := [.int .i64 0, .int .i64 (l.length : Int)]) (r := fun p => ((AV.tup [.int .i64 (p : Int), .bool false], σ) : AV × Heap)) (fun i j => [.int .i64 (i : Int), .int .i64 (j : Int)]) rfl (fun h => ((l[h]?).any fun x => decide (cv x < 0))) (fun i j hij hj => ?_) (fun i hi => ?_) (fun p hp => ?_)
 ·have hlt : (i + j) / 2 < l.length := by omega
  have hx : l[(i + j) / 2]? = some l[(i + j) / 2] := List.getElem?_eq_getElem hlt
  have hdx := hd _ (List.mem_of_getElem? hx)
  have hia := iaddr_sl 11 cCue l hx
  have hq : A.callv dyn (.fn fn []) [.agg (cCue l[(i + j) / 2]), .int .i64 k] σ = some (.int .i64 (cv l[(i + j) / 2]), σ) := by simp only [A.callv, List.append_nil]; exact hdx
  simp only [List.getD_cons_succ, List.getD_cons_zero]
  rw [tlss, Option.bind_some, decide_eq_true hij]
  simp only [A.cond, cond_true]
  rw [tadd (by omega), Option.bind_some, conv_u (by omega), Option.bind_some, half_nn (by omega), Option.bind_some, conv_i (by omega), Option.bind_some, hia, Option.bind_some]
  simp only [A.deref, Option.bind_some, pA_cCue, A.lb]
  rw [hq, Option.bind_some, tlss0, Option.bind_some]
  simp only [hx, Option.any_some]
  by_cases hh : cv l[(i + j) / 2] < 0
  ·rw [decide_eq_true hh]
   simp only [cond_true, if_true, tadd1 (show (i + j) / 2 + 1 < 9223372036854775808 by omega), Option.bind_some]
   rfl
  ·rw [decide_eq_false hh]
   rfl
 ·simp only [List.getD_cons_succ, List.getD_cons_zero]
  rw [tlss, Option.bind_some, decide_eq_false (Nat.lt_irrefl i)]
  rfl
 ·simp only [exb, List.getD_cons_succ, List.getD_cons_zero]
  rw [tlss, Option.bind_some]
  by_cases hpl : p < l.length
  ·have hx : l[p]? = some l[p] := List.getElem?_eq_getElem hpl
   have hdx := hd _ (List.mem_of_getElem? hx)
   have hne := hc _ (List.mem_of_getElem? hx)
   have hia := iaddr_sl 11 cCue l hx
   have hq := quiet_of (by show A.callv dyn (.fn fn []) [.agg (cCue l[p]), .int .i64 k] σ = _; simp only [A.callv, List.append_nil]; exact hdx)
   simp only [decide_eq_true hpl, A.guard, beq_self_eq_true, cond_true, Option.bind_some, List.getD_cons_succ, List.getD_cons_zero, hia, A.deref, pA_cCue, A.lb, A.part1, A.partA, A.pick]
   show ((A.quiet (A.callv dyn (.fn fn []) [.agg (cCue l[p]), .int .i64 k] σ) σ).bind _) = _
   rw [hq, Option.bind_some, aEq, decide_eq_false hne]
   exact fin_same _ _
  ·simp only [decide_eq_false hpl, A.guard, Option.bind_some, A.pick]
   exact fin_same _ _
theorem place_t {l : List CueD} (hg : Good l) {n : Int} (hn : inI n) (σ : Heap) : ∃ p : Nat, m_cue_place [sl 11 cCue l, .int .i64 n] σ = some (.tup [.int .i64 (p : Int), .bool (hasC l n)], σ) ∧ p ≤ l.length ∧ ((1 ≤ n ∨ hasC l n = true) → p = posC l n) := by
 have hlen : l.length < 4611686018427387904 := by have := hg.len; omega
 have hd : ∀ x ∈ l, A.tab (fun _ _ => none) [(177, m_cue_place_fn1)] 177 [.agg (cCue x), .int .i64 n] σ = some (.int .i64 (IntKind.i64.wrap (x.number - n)), σ) := fun x _ => h_cue_place_fn1 (r := IntKind.i64.wrap (x.number - n)) rfl
 have wr : ∀ {p : Nat} {b : Bool}, m_slices_BinarySearchFunc_api_Cue_int (A.tab (fun _ _ => none) [(177, m_cue_place_fn1)]) [sl 11 cCue l, .int .i64 n, .fn 177 []] σ = some (.tup [.int .i64 (p : Int), .bool b], σ) →
   m_cue_place [sl 11 cCue l, .int .i64 n] σ = some (.tup [.int .i64 (p : Int), .bool b], σ) := by
  intro p b h
  refine wrap_eq rfl ?_ rfl
  rw [show A.nnL [Sh.e 11 [.k, .k, .k, .k, .k, .k, .k, .s 2, .k, .k, .s 8]] [sl 11 cCue l, .int .i64 n] = [sl 11 cCue l, .int .i64 n] from nn_t1 (nn_e (fun _ => rfl) _) rfl]
  show r_cue_place (sl 11 cCue l) (.int .i64 n) σ = _
  unfold r_cue_place
  rw [h, Option.bind_some]
  exact fin_same _ _
 by_cases hlow : -4611686018427387904 ≤ n
 ·refine ⟨posC l n, wr ?_, posC_le _ _, fun _ => rfl⟩
  have hw : ∀ x ∈ l, IntKind.i64.wrap (x.number - n) = x.number - n := fun x hx => by
   have := hg.num x hx
   unfold inI at hn
   exact wrap64 (by unfold inI; omega)
  rw [bsC (cv := fun x => IntKind.i64.wrap (x.number - n)) (p := posC l n) hlen (posC_le _ _) hd ?_]
  ·rw [← posC_has hg.srt]
   congr 4
   cases hx : l[posC l n]? with
   | none => rfl
   | some x =>
    simp only [Option.any_some]
    rw [hw x (List.mem_of_getElem? hx), show decide (x.number - n = 0) = decide (x.number = n) from decide_eq_decide.2 (by omega)]
  ·intro h x hx
   rw [hw x (List.mem_of_getElem? hx), ← posC_lt hg.srt hx]
   omega
 ·have hno : hasC l n = false := by
   rw [Bool.eq_false_iff]
   intro e
   obtain ⟨x, hx, hk⟩ := List.any_eq_true.1 e
   have := hg.num x hx
   have := of_decide_eq_true hk
   omega
  obtain ⟨p, hp, h⟩ := bsC_no hlen hd (fun x hx e => by
   have hnum := hg.num x hx
   unfold inI at hn
   have h2 : IntKind.i64.wrap (x.number - n) = x.number - n ∨ IntKind.i64.wrap (x.number - n) = x.number - n - 18446744073709551616 := by
    by_cases hh : x.number - n < 9223372036854775808
    ·exact .inl (wrap64 (by unfold inI; omega))
    ·right
     unfold IntKind.wrap
     simp [IntKind.bits, IntKind.signed]
     omega
   rcases h2 with h2 | h2 <;> rw [h2] at e <;> omega)
  exact ⟨p, by rw [hno]; exact wr h, hp, fun q => by
   rcases q with q | q
   ·omega
   ·rw [hno] at q; cases q⟩
section
variable {α R γ S B : Type}
theorem whE_while {l : List α} {pr : α → Bool} {body : Int → Option (Lr Int Int R)} {K1 : Int → Option γ} {K2 : R → Option γ} (hb : ∀ (i : Nat) x, l[i]? = some x → body (i : Int) = some (if pr x = true then .go ((i + 1 : Nat) : Int) else .brk (i : Int)))
  (he : body (l.length : Int) = some (.brk (l.length : Int))) {s : Int} (h0 : s = 0) : whE body s K1 K2 = K1 ((l.takeWhile pr).length : Int) := by
 subst h0
 have key : ∀ (k i : Nat), l.length - i ≤ k → i ≤ l.length → whL body (i : Int) = some (.inl ((i + ((l.drop i).takeWhile pr).length : Nat) : Int)) := by
  intro k
  induction k with
  | zero =>
   intro i hk hle
   have : i = l.length := by omega
   subst this
   rw [whL_step, he, Option.bind_some, List.drop_of_length_le (Nat.le_refl _)]
   rfl
  | succ k ih =>
   intro i hk hle
   by_cases hi : i < l.length
   ·have hx : l[i]? = some l[i] := List.getElem?_eq_getElem hi
    rw [whL_step, hb i _ hx, Option.bind_some, List.drop_eq_getElem_cons hi, List.takeWhile_cons]
    cases h : pr l[i]
    ·simp
    ·simp only [if_true, List.length_cons]
     rw [ih (i + 1) (by omega) (by omega)]
     congr 3; omega
   ·have : i = l.length := by omega
    subst this
    rw [whL_step, he, Option.bind_some, List.drop_of_length_le (Nat.le_refl _)]
    rfl
 have k := key l.length 0 (by omega) (by omega)
 simp only [Nat.zero_add, List.drop_zero] at k
 show whE body ((0 : Nat) : Int) K1 K2 = _
 rw [whE, k]; rfl
theorem tIx_nat {l : List α} {i : Nat} {x : α} (h : l[i]? = some x) : tIx l (i : Int) = some x := tIx_get (by omega) (by simpa using h)
end
theorem moveOf_t {l : List MoveD} (hs : srtM l) (hl : l.length < 4611686018427387904) (k : KeyD) : t_R5_moveOf l k = some ((posM l k : Int), hasM l k) := by
 unfold t_R5_moveOf
 refine (whE_while (l := l) (pr := fun m => ltK m.key k) (fun i x hx => ?_) ?_ rfl).trans ?_
 ·have hi := (List.getElem?_eq_some_iff.1 hx).1
  have hi' : ((i : Int) < (l.length : Int)) := by omega
  have e : (decide (x.key.unit < k.unit) || decide (x.key.unit = k.unit) && Op.bytesLess x.key.param.toList k.param.toList) = ltK x.key k := rfl
  simp only [decide_eq_true hi', if_true, tIx_nat hx, Option.bind_some, wrap64 (show inI ((i : Int) + 1) by unfold inI; omega), Bool.true_and, e]
  cases ltK x.key k <;> simp
 ·simp only [decide_eq_false (by omega : ¬ ((l.length : Int) < (l.length : Int))), Bool.false_eq_true, if_false, Option.bind_some, Bool.false_and]
 ·show ((if decide ((posM l k : Int) < (l.length : Int)) = true then tIx l (posM l k : Int) else some default).bind fun x9 => some ((posM l k : Int), ((decide ((posM l k : Int) < (l.length : Int))) && (decide (x9.key = k))))) = _
  rw [← posM_has hs]
  by_cases hp : posM l k < l.length
  ·have hx : l[posM l k]? = some l[posM l k] := List.getElem?_eq_getElem hp
   have hp' : ((posM l k : Int) < (l.length : Int)) := by omega
   rw [decide_eq_true hp', if_pos rfl, tIx_nat hx, Option.bind_some, hx]
   simp
  ·have hx : l[posM l k]? = none := List.getElem?_eq_none (by omega)
   have hp' : ¬ ((posM l k : Int) < (l.length : Int)) := by omega
   rw [decide_eq_false hp', if_neg (by decide), Option.bind_some, hx]
   simp
end Go.Proofs.Ytphgchakmkankaa

namespace Go.Proofs.Ytphgchakmkankaa
set_option linter.unusedSectionVars false
set_option linter.unusedVariables false
set_option linter.unusedSimpArgs false
open HP
def Lt (σ : Heap) (sh : Sh) (v t : AV) : Prop := (∃ v', A.frz σ 0 8 v = some v' ∧ A.own v' = false ∧ A.nn sh v' = A.nn sh t) ∧ A.own t = false ∧ (A.own v = false → A.nn sh v = A.nn sh t)
def LtL (σ : Heap) : List Sh → List AV → List AV → Prop
 | _, [], [] => True
 | [], a :: aas, t :: ts => Lt σ .k a t ∧ LtL σ [] aas ts
 | s :: ss, a :: aas, t :: ts => Lt σ s a t ∧ LtL σ ss aas ts
 | _, _, _ => False
theorem nn_k (v : AV) : A.nn .k v = v := by simp [A.nn]
theorem ltL {σ : Heap} : ∀ {ss : List Sh} {aas ts : List AV}, LtL σ ss aas ts → (∃ aas', A.frzL σ 0 8 aas = some aas' ∧ aas'.any A.own = false ∧ A.nnL ss aas' = A.nnL ss ts) ∧ ts.any A.own = false ∧ (aas.any A.own = false → A.nnL ss aas = A.nnL ss ts)
 | ss, [], [], _ => ⟨⟨[], by simp [A.frzL], rfl, rfl⟩, rfl, fun _ => rfl⟩
 | [], a :: aas, t :: ts, h => by
  obtain ⟨⟨⟨v', h1, h2, h3⟩, h4, h5⟩, h6⟩ := h
  obtain ⟨⟨aas', k1, k2, k3⟩, k4, k5⟩ := ltL h6
  rw [nn_k, nn_k] at h3
  simp only [A.nnL] at k3 k5
  refine ⟨⟨v' :: aas', by simp [A.frzL, h1, k1], by simp [h2, k2], by simp [A.nnL, h3, k3]⟩, by simp [h4, k4], fun h => ?_⟩
  simp only [List.any_cons, Bool.or_eq_false_iff] at h
  have := h5 h.1
  rw [nn_k, nn_k] at this
  simp [A.nnL, this, k5 h.2]
 | s :: ss, a :: aas, t :: ts, h => by
  obtain ⟨⟨⟨v', h1, h2, h3⟩, h4, h5⟩, h6⟩ := h
  obtain ⟨⟨aas', k1, k2, k3⟩, k4, k5⟩ := ltL h6
  refine ⟨⟨v' :: aas', by simp [A.frzL, h1, k1], by simp [h2, k2], by simp [A.nnL, h3, k3]⟩, by simp [h4, k4], fun h => ?_⟩
  simp only [List.any_cons, Bool.or_eq_false_iff] at h
  simp [A.nnL, h5 h.1, k5 h.2]
 | _, [], _ :: _, h => by cases h
 | [], _ :: _, [], h => by cases h
 | _ :: _, _ :: _, [], h => by cases h
theorem lent {ain : List Sh} {rout : Sh} {r : List AV → Heap → Option (AV × Heap)} {aas ts : List AV} {σ : Heap} {v : AV} (h : LtL σ ain aas ts) (e : ∀ σ, A.wrap true ain rout r ts σ = some (v, σ)) (hs : A.scal v = true) : A.wrap true ain rout r aas σ = some (v, σ) := by
 obtain ⟨⟨aas', k1, k2, k3⟩, k4, k5⟩ := ltL h
 cases ho : aas.any A.own
 ·rw [wrap_nn (k5 ho) ho k4]; exact e σ
 ·exact wrap_own ho k1 k2 (by rw [wrap_nn k3 k2 k4]; exact e []) hs
theorem lt_fz {σ : Heap} {sh : Sh} {v : AV} (h : Fz v) (ho : A.own v = false) : Lt σ sh v v := ⟨⟨v, h σ 0 8, ho, rfl⟩, ho, fun _ => rfl⟩
theorem lt_int {σ : Heap} (n : Int) : Lt σ .k (.int .i64 n) (.int .i64 n) := lt_fz (fz_int _ _) rfl
section
variable {α : Type} {c : α → List AV} {sz : Nat} {B : Blk → Prop} {σ0 σ : Heap} {R : HP} {v : AV} {l : List α}
def Sf (c : α → List AV) (sz : Nat) (v : AV) (l : List α) : HP := fun h => (v = sl sz c l ∧ emp h) ∨ Sl (fl c) sz v l h
theorem sf_cases (H : Hs B σ0 σ (Sf c sz v l * R)) : (v = sl sz c l ∧ Hs B σ0 σ R) ∨ Hs B σ0 σ (Sl (fl c) sz v l * R) := by
 have H2 := hs_drop H
 obtain ⟨h1, h, ⟨f, g, hf, hg, hd, hh⟩, h2⟩ := H
 rcases hf with ⟨k1, k2⟩ | k
 ·exact .inl ⟨k1, H2⟩
 ·exact .inr ⟨h1, h, ⟨f, g, k, hg, hd, hh⟩, h2⟩
theorem sf_own (H : Hs B σ0 σ (Sl (fl c) sz v l * R)) : Hs B σ0 σ (Sf c sz v l * R) := hs_mono (fun h k => .inr k) H
theorem slf_cases (H : Hs B σ0 σ (Sl (fl c) sz v l * R)) : (l = [] ∧ (v = .nsl ∨ v = .ez) ∧ Hs B σ0 σ R) ∨ ∃ id g, v = .os id g sz 0 l.length ∧ Hs B σ0 σ (blk id (.arr g sz (l.map c)) * R) := by
 rcases sl_cases H with h | ⟨id, g, seg, rfl, hl, H⟩
 ·exact .inl h
 ·have K := els_fl.1 (hs_eq (show _ = els (fl c) seg l * (blk id (.arr g sz seg) * R) by ac_rfl) H)
  obtain ⟨rfl, K⟩ := K
  exact .inr ⟨id, g, rfl, K⟩
theorem slf_os {id g : Nat} {n : Nat} (H : Hs B σ0 σ (blk id (.arr g sz (l.map c)) * R)) (hn : n = l.length := by rfl) : Hs B σ0 σ (Sl (fl c) sz (.os id g sz 0 n) l * R) :=
 sl_os (id := id) (g := g) (seg := l.map c) (hs_eq (show els (fl c) (l.map c) l * (blk id (.arr g sz (l.map c)) * R) = _ by ac_rfl) (els_fl.2 ⟨rfl, H⟩)) hn
theorem frz_os (hc : ∀ x, FzL (c x)) {id g : Nat} (h : σ[id]? = some (.arr g sz (l.map c))) {n : Nat} (hn : ¬ id < n) (d : Nat) : A.frz σ n (d + 1) (.os id g sz 0 l.length) = some (sl sz c l) := by
 simp only [A.frz, if_neg hn, h]
 rw [if_pos (by simp), List.drop_zero, List.take_of_length_le (by simp), frzLL_eq, fzLL hc]
 rfl
theorem slf_fz (H : Hs B σ0 σ (Sl (fl c) sz v l * R)) (hc : ∀ x, FzL (c x)) {n : Nat} (hn : n ≤ σ0.length) (d : Nat) : ∃ v', A.frz σ n (d + 1) v = some v' ∧ A.own1 v' = false ∧ A.nn (.s sz) v' = sl sz c l := by
 rcases slf_cases H with ⟨rfl, rfl | rfl, _⟩ | ⟨id, g, rfl, K⟩
 ·exact ⟨.nsl, by simp [A.frz], rfl, rfl⟩
 ·exact ⟨.ez, by simp [A.frz], rfl, rfl⟩
 ·obtain ⟨h1, h2⟩ := hs_get K
  exact ⟨_, frz_os hc h2 (by omega) d, rfl, rfl⟩
theorem sf_fz (H : Hs B σ0 σ (Sf c sz v l * R)) (hc : ∀ x, FzL (c x)) {n : Nat} (hn : n ≤ σ0.length) (d : Nat) : ∃ v', A.frz σ n (d + 1) v = some v' ∧ A.own1 v' = false ∧ A.nn (.s sz) v' = sl sz c l := by
 rcases sf_cases H with ⟨rfl, _⟩ | H
 ·exact ⟨_, fz_sl hc l σ n (d + 1), rfl, rfl⟩
 ·exact slf_fz H hc hn d
structure Cl (p : AV) (F : List AV → HP) : Prop where
 nc : A.nilck p = some p
 ow : A.own p = true
 ld : ∀ {σ0 σ : Heap} {e : List AV} {R : HP}, Hs anyB σ0 σ (F e * R) → A.deref p σ = some e
 fa : ∀ (o : Nat), ∃ q, A.faddr o p = some q ∧ (∀ {σ0 σ : Heap} {e : List AV} {R : HP}, Hs anyB σ0 σ (F e * R) → A.deref q σ = some (e.drop o)) ∧
  ∀ {σ0 σ : Heap} {e : List AV} {R : HP} {new e' : List AV}, Hs anyB σ0 σ (F e * R) → A.splice o new e = some e' → ∃ σ', A.storeAt q new σ = some σ' ∧ Hs anyB σ0 σ' (F e' * R)
 st : ∀ {σ0 σ : Heap} {e : List AV} {R : HP} {new e' : List AV}, Hs anyB σ0 σ (F e * R) → A.splice 0 new e = some e' → ∃ σ', A.storeAt p new σ = some σ' ∧ Hs anyB σ0 σ' (F e' * R)
 fc : ∀ (o o' : Nat) (q : AV), A.faddr o p = some q → A.faddr o' q = A.faddr (o + o') p
theorem hs_any {P : HP} (H : Hs B σ0 σ P) : Hs anyB σ0 σ P := ⟨by obtain ⟨bs, h, _⟩ := H.pre; exact ⟨bs, h, fun _ _ => trivial⟩, H.own⟩
end
section
variable {α : Type} {E : List AV → α → HP} {sz : Nat} {σ0 σ : Heap} {R : HP} {v : AV} {l : List α}
theorem sl_cell (H : Hs anyB σ0 σ (Sl E sz v l * R)) {i : Nat} {x : α} (hx : l[i]? = some x) : ∃ p F e, A.iaddr sz v (.int .i64 (i : Int)) = some p ∧ Cl p F ∧ Hs anyB σ0 σ (F e * (E e x * R)) ∧
  ∀ {σ : Heap} {e : List AV} {y : α} {R : HP}, Hs anyB σ0 σ (F e * (E e y * R)) → Hs anyB σ0 σ (Sl E sz v (l.set i y) * R) := by
 have hi := (List.getElem?_eq_some_iff.1 hx).1
 rcases sl_cases H with ⟨rfl, _, _⟩ | ⟨id, g, seg, rfl, hl, H⟩
 ·simp at hx
 ·have he : seg[i]? = some seg[i] := List.getElem?_eq_getElem (by omega)
  have rd : ∀ {σ0 σ : Heap} {e : List AV} {R : HP} (o : Nat), Hs anyB σ0 σ (blk id (.arr g sz (seg.set i e)) * els E (seg.eraseIdx i) (l.eraseIdx i) * R) → A.deref (.oe id g i o) σ = some (e.drop o) := by
   intro σ0 σ e R o K
   obtain ⟨_, k2⟩ := hs_get (hs_eq (star_assoc _ _ _) K)
   simp only [A.deref, k2, if_true]
   rw [List.getElem?_set_self (by omega)]
   rfl
  have wr : ∀ {σ0 σ : Heap} {e : List AV} {R : HP} {new e' : List AV} (o : Nat), Hs anyB σ0 σ (blk id (.arr g sz (seg.set i e)) * els E (seg.eraseIdx i) (l.eraseIdx i) * R) → A.splice o new e = some e' →
    ∃ σ', A.storeAt (.oe id g i o) new σ = some σ' ∧ Hs anyB σ0 σ' (blk id (.arr g sz (seg.set i e')) * els E (seg.eraseIdx i) (l.eraseIdx i) * R) := by
   intro σ0 σ e R new e' o K hs
   have K' := hs_eq (star_assoc _ _ _) K
   obtain ⟨_, k2⟩ := hs_get K'
   refine ⟨σ.set id (.arr g sz (seg.set i e')), ?_, ?_⟩
   ·simp only [A.storeAt, k2, if_true]
    rw [List.getElem?_set_self (by omega), Option.bind_some, hs, Option.map_some, List.set_set]
   ·exact hs_eq (star_assoc _ _ _).symm (hs_set (b' := .arr g sz (seg.set i e')) K' trivial)
  refine ⟨.oe id g i 0, fun e => blk id (.arr g sz (seg.set i e)) * els E (seg.eraseIdx i) (l.eraseIdx i), seg[i], ?_, ⟨rfl, rfl, fun K => by have := rd 0 K; simpa using this, fun o => ⟨.oe id g i o, by simp [A.faddr], fun K => rd o K, fun K hs => wr o K hs⟩, fun K hs => wr 0 K hs, fun o o' q hq => by simp [A.faddr] at hq; subst hq; simp [A.faddr]⟩, ?_, ?_⟩
  ·have hi' : ((i : Int) < (l.length : Int)) := by omega
   simp [A.iaddr, A.idx, hi']
  ·refine hs_eq ?_ H
   have e1 : seg.set i seg[i] = seg := List.set_getElem_self (by omega)
   simp only [e1]
   rw [els_at hl he hx]
   ac_rfl
  ·intro σ e y R K
   refine sl_os (id := id) (g := g) (seg := seg.set i e) (hs_eq ?_ K) (by simp)
   have e1 : els E (seg.set i e) (l.set i y) = els E (seg.eraseIdx i) (l.eraseIdx i) * E e y := by
    rw [els_at (i := i) (e := e) (x := y) (by simp [hl]) (by rw [List.getElem?_set_self (by omega)]) (by rw [List.getElem?_set_self hi])]
    rw [List.eraseIdx_set_eq, List.eraseIdx_set_eq]
   rw [e1]
   ac_rfl
end
def cCueH (x : CueD) (vp vm : AV) : List AV := [.int .i64 x.number, .str x.title, .int .i64 x.delay, .int .i64 x.up, .int .i64 x.down, .int .i64 x.other, .int .i64 x.curve.kind, vp, .bool x.block, .int .i64 x.follow, vm]
def CueP (M : AV → List MoveD → HP) : List AV → CueD → HP := fun e x => ex fun vp => ex fun vm => pr (e = cCueH x vp vm) * (Sf cPoint 2 vp x.curve.points * M vm x.moves)
def CueE : List AV → CueD → HP := CueP (Sl (fl cMove) 8)
def CueF : List AV → CueD → HP := CueP (Sf cMove 8)
def shCue : List Sh := [.k, .k, .k, .k, .k, .k, .k, .s 2, .k, .k, .s 8]
section
variable {B : Blk → Prop} {σ0 σ : Heap} {R : HP} {M : AV → List MoveD → HP} {e : List AV} {x : CueD}
theorem cueP (H : Hs B σ0 σ (CueP M e x * R)) : ∃ vp vm, e = cCueH x vp vm ∧ Hs B σ0 σ (Sf cPoint 2 vp x.curve.points * (M vm x.moves * R)) := by
 unfold CueP at H
 rw [hs_ex] at H
 obtain ⟨vp, H⟩ := H
 rw [hs_ex] at H
 obtain ⟨vm, H⟩ := H
 rw [star_assoc, hs_pr] at H
 exact ⟨vp, vm, H.1, hs_eq (by ac_rfl) H.2⟩
theorem cueP_of {vp vm : AV} (he : e = cCueH x vp vm) (H : Hs B σ0 σ (Sf cPoint 2 vp x.curve.points * (M vm x.moves * R))) : Hs B σ0 σ (CueP M e x * R) := by
 unfold CueP
 rw [hs_ex]
 refine ⟨vp, ?_⟩
 rw [hs_ex]
 refine ⟨vm, ?_⟩
 rw [star_assoc, hs_pr]
 exact ⟨he, hs_eq (by ac_rfl) H⟩
theorem cue_weak (H : Hs B σ0 σ (CueE e x * R)) : Hs B σ0 σ (CueF e x * R) := by
 obtain ⟨vp, vm, he, H⟩ := cueP H
 exact cueP_of he (hs_eq (by ac_rfl) (sf_own (hs_eq (show _ = Sl (fl cMove) 8 vm x.moves * (Sf cPoint 2 vp x.curve.points * R) by ac_rfl) H)))
theorem cueF_fz (H : Hs B σ0 σ (CueF e x * R)) {n : Nat} (hn : n ≤ σ0.length) (d : Nat) : ∃ e', A.frzL σ n (d + 1) e = some e' ∧ e'.any A.own1 = false ∧ A.nnL shCue e' = cCue x := by
 obtain ⟨vp, vm, he, K⟩ := cueP H
 subst he
 obtain ⟨vp', p1, p2, p3⟩ := sf_fz K fz_cPoint hn d
 obtain ⟨vm', m1, m2, m3⟩ := sf_fz (hs_drop K) fz_cMove hn d
 refine ⟨cCueH x vp' vm', ?_, ?_, ?_⟩
 ·simp [cCueH, A.frzL, A.frz, p1, m1]
 ·simp only [cCueH, List.any_cons, List.any_nil, p2, m2]; rfl
 ·simp only [cCueH, shCue, A.nnL, nn_k, p3, m3]; rfl
theorem elsF_fz : ∀ {seg : List (List AV)} {l : List CueD} {R : HP}, Hs B σ0 σ (els CueF seg l * R) → ∀ {n : Nat}, n ≤ σ0.length → ∀ (d : Nat), ∃ seg', A.frzLL σ n (d + 1) seg = some seg' ∧ seg'.map (A.nnL shCue) = l.map cCue
 | [], [], R, H, n, hn, d => ⟨[], by simp [A.frzLL], rfl⟩
 | [], _ :: _, R, H, n, hn, d => (hs_pr.1 H).1.elim
 | _ :: _, [], R, H, n, hn, d => (hs_pr.1 H).1.elim
 | e :: seg, x :: l, R, H, n, hn, d => by
  rw [els, star_assoc] at H
  obtain ⟨e', h1, _, h3⟩ := cueF_fz H hn d
  obtain ⟨seg', k1, k2⟩ := elsF_fz (hs_drop H) hn d
  exact ⟨e' :: seg', by simp [A.frzLL, h1, k1], by simp [h3, k2]⟩
theorem els_weak : ∀ {seg : List (List AV)} {l : List CueD} {R : HP}, Hs B σ0 σ (els CueE seg l * R) → Hs B σ0 σ (els CueF seg l * R)
 | [], [], R, H => H
 | [], _ :: _, R, H => H
 | _ :: _, [], R, H => H
 | e :: seg, x :: l, R, H => by
  rw [els] at H ⊢
  have H2 := els_weak (hs_eq (show _ = els CueE seg l * (CueE e x * R) by ac_rfl) H)
  have H3 := cue_weak (hs_eq (show _ = CueE e x * (els CueF seg l * R) by ac_rfl) H2)
  exact hs_eq (by ac_rfl) H3
variable {v : AV} {l : List CueD}
theorem cues_weak (H : Hs B σ0 σ (Sl CueE 11 v l * R)) : Hs B σ0 σ (Sl CueF 11 v l * R) := by
 rcases sl_cases H with ⟨rfl, hv, H⟩ | ⟨id, g, seg, rfl, hl, H⟩
 ·exact slz H hv
 ·have H2 := els_weak (hs_eq (show _ = els CueE seg l * (blk id (.arr g 11 seg) * R) by ac_rfl) H)
  exact sl_os (id := id) (g := g) (seg := seg) (hs_eq (by ac_rfl) H2)
theorem cuesF_fz (H : Hs B σ0 σ (Sl CueF 11 v l * R)) {n : Nat} (hn : n ≤ σ0.length) (d : Nat) : ∃ v', A.frz σ n (d + 2) v = some v' ∧ A.own1 v' = false ∧ A.nn (.e 11 shCue) v' = sl 11 cCue l := by
 rcases sl_cases H with ⟨rfl, rfl | rfl, _⟩ | ⟨id, g, seg, rfl, hl, H⟩
 ·exact ⟨.nsl, by simp [A.frz], rfl, rfl⟩
 ·exact ⟨.ez, by simp [A.frz], rfl, rfl⟩
 ·obtain ⟨h1, h2⟩ := hs_get H
  obtain ⟨seg', k1, k2⟩ := elsF_fz (hs_eq (show _ = els CueF seg l * (blk id (.arr g 11 seg) * R) by ac_rfl) H) hn d
  refine ⟨.sl 11 seg', ?_, rfl, ?_⟩
  ·simp only [A.frz, if_neg (show ¬ id < n by omega), h2]
   rw [if_pos (by simp; omega), List.drop_zero, List.take_of_length_le (by omega), frzLL_eq, k1]
   rfl
  ·simp only [A.nn, k2]; rfl
theorem nn_idem_cues (l : List CueD) : A.nn (.e 11 shCue) (sl 11 cCue l) = sl 11 cCue l := nn_e (fun _ => rfl) l
theorem lt_cuesF (H : Hs B σ0 σ (Sl CueF 11 v l * R)) : Lt σ (.e 11 shCue) v (sl 11 cCue l) := by
 obtain ⟨v', h1, h2, h3⟩ := cuesF_fz H (Nat.zero_le _) 6
 refine ⟨⟨v', h1, ?_, by rw [h3, nn_idem_cues]⟩, rfl, fun ho => ?_⟩
 ·rcases sl_cases H with ⟨rfl, rfl | rfl, _⟩ | ⟨id, g, seg, rfl, hl, H⟩
  ·simp [A.frz] at h1; subst h1; rfl
  ·simp [A.frz] at h1; subst h1; rfl
  ·cases v' <;> first | rfl | cases h2 | skip
   rename_i cs
   simp only [A.nn] at h3
   cases h3
 ·rcases sl_cases H with ⟨rfl, rfl | rfl, _⟩ | ⟨id, g, seg, rfl, hl, H⟩
  ·rfl
  ·rfl
  ·cases ho
theorem lt_cues (H : Hs B σ0 σ (Sl CueE 11 v l * R)) : Lt σ (.e 11 shCue) v (sl 11 cCue l) := lt_cuesF (cues_weak H)
theorem lt_cueF (H : Hs B σ0 σ (CueF e x * R)) : Lt σ (.a shCue) (.agg e) (.agg (cCue x)) := by
 obtain ⟨e', h1, h2, h3⟩ := cueF_fz H (Nat.zero_le _) 7
 obtain ⟨vp, vm, he, K0⟩ := cueP H
 refine ⟨⟨.agg e', by simp [A.frz, h1], by simpa [A.own] using h2, ?_⟩, rfl, fun ho => ?_⟩
 ·simp only [A.nn, h3]
  rw [show A.nnL shCue (cCue x) = cCue x from rfl]
 ·subst he
  have hp : A.own1 vp = false ∧ A.own1 vm = false := by
   simp only [A.own, cCueH, List.any_cons, List.any_nil, Bool.or_eq_false_iff] at ho
   exact ⟨ho.2.2.2.2.2.2.2.1, ho.2.2.2.2.2.2.2.2.2.2.1⟩
  have q1 : A.nn (.s 2) vp = sl 2 cPoint x.curve.points := by
   rcases sf_cases K0 with ⟨rfl, _⟩ | K
   ·rfl
   ·rcases slf_cases K with ⟨e0, rfl | rfl, _⟩ | ⟨id, g, rfl, _⟩
    ·rw [e0]; rfl
    ·rw [e0]; rfl
    ·cases hp.1
  have q2 : A.nn (.s 8) vm = sl 8 cMove x.moves := by
   rcases sf_cases (hs_drop K0) with ⟨rfl, _⟩ | K
   ·rfl
   ·rcases slf_cases K with ⟨e0, rfl | rfl, _⟩ | ⟨id, g, rfl, _⟩
    ·rw [e0]; rfl
    ·rw [e0]; rfl
    ·cases hp.2
  have q3 : A.nnL shCue (cCueH x vp vm) = cCue x := by simp only [cCueH, shCue, A.nnL, nn_k, q1, q2]; rfl
  show AV.agg (A.nnL shCue (cCueH x vp vm)) = AV.agg (A.nnL shCue (cCue x))
  rw [q3]; rfl
end
end Go.Proofs.Ytphgchakmkankaa

namespace Go.Proofs.Ytphgchakmkankaa
set_option linter.unusedSectionVars false
set_option linter.unusedVariables false
set_option linter.unusedSimpArgs false
open HP
theorem loop_hs {α : Type} {f : List AV → Heap → Option LS} {Q : LS → Prop} (l : List α) (I : Nat → List AV → Heap → Prop) {v0 : List AV} {σ : Heap}
  (hstep : ∀ i x v σ, l[i]? = some x → I i v σ → ∃ v' σ', f v σ = some (.normal, v', σ') ∧ I (i + 1) v' σ')
  (hend : ∀ v σ, I l.length v σ → ∃ q, f v σ = some q ∧ q.1 ≠ .normal ∧ Q q) (h0 : I 0 v0 σ) : ∃ q, A.loop f v0 σ = some q ∧ Q q := by
 have key : ∀ (k i : Nat) v σ, l.length - i ≤ k → i ≤ l.length → I i v σ → ∃ q, (∃ n, A.iter f n v σ = some q) ∧ Q q := by
  intro k
  induction k with
  | zero =>
   intro i v σ hk hle hI
   have : i = l.length := by omega
   subst this
   obtain ⟨q, h1, h2, h3⟩ := hend v σ hI
   exact ⟨q, loop_done h1 h2, h3⟩
  | succ k ih =>
   intro i v σ hk hle hI
   by_cases hi : i < l.length
   ·obtain ⟨v', σ', h1, h2⟩ := hstep i _ v σ (List.getElem?_eq_getElem hi) hI
    obtain ⟨q, hq, hQ⟩ := ih (i + 1) v' σ' (by omega) (by omega) h2
    exact ⟨q, loop_step h1 hq, hQ⟩
   ·have : i = l.length := by omega
    subst this
    obtain ⟨q, h1, h2, h3⟩ := hend v σ hI
    exact ⟨q, loop_done h1 h2, h3⟩
 obtain ⟨q, ⟨n, hn⟩, hQ⟩ := key _ 0 v0 σ (Nat.le_refl _) (Nat.zero_le _) h0
 exact ⟨q, loop_of_iter hn, hQ⟩
theorem loop_k {β : Type} {f : List AV → Heap → Option LS} {K : LS → Option β} {v0 : List AV} {σ : Heap} {P : β → Prop} {Q : LS → Prop} (h : ∃ q, A.loop f v0 σ = some q ∧ Q q) (k : ∀ q, Q q → ∃ b, K q = some b ∧ P b) : ∃ b, (A.loop f v0 σ).bind K = some b ∧ P b := by
 obtain ⟨q, h1, h2⟩ := h
 obtain ⟨b, h3, h4⟩ := k q h2
 exact ⟨b, by rw [h1]; exact h3, h4⟩
section
variable {α : Type} {c : α → List AV} {sz : Nat} {B : Blk → Prop} {σ0 σ : Heap} {R : HP} {v : AV} {l : List α}
theorem slf_at (H : Hs B σ0 σ (Sl (fl c) sz v l * R)) {i : Nat} {x : α} (hx : l[i]? = some x) : ∃ p, A.iaddr sz v (.int .i64 (i : Int)) = some p ∧ A.deref p σ = some (c x) := by
 have hi := (List.getElem?_eq_some_iff.1 hx).1
 rcases slf_cases H with ⟨rfl, _, _⟩ | ⟨id, g, rfl, K⟩
 ·simp at hx
 ·obtain ⟨h1, h2⟩ := hs_get K
  have hi' : ((i : Int) < (l.length : Int)) := by omega
  exact ⟨.oe id g i 0, by simp [A.iaddr, A.idx, hi'], by simp [A.deref, h2, hx]⟩
theorem clo_gen {most : Nat} {m r : List AV → Heap → Option (AV × Heap)} {r0 : AV → Heap → Option (AV × Heap)} (hm : m = A.cloneZ (A.wrap true [(.s sz)] .k (A.ar1 r0))) (hr : ∀ a σ, r0 a σ = (A.eqN a .nsl).bind fun x1 => A.cond x1 (some (.nsl, σ)) ((A.append sz most .ez a σ).bind fun r2 => some (r2.1, r2.2)))
  (hl : l.length ≤ most) (hB : ∀ g g' seg, (seg = [] ∨ B (.arr g sz seg)) → B (.arr g' sz (seg ++ l.map c))) (H : Hs B σ0 σ R) : ∃ v σ', m [sl sz c l] σ = some (v, σ') ∧ A.cell v = some v ∧ Hs B σ0 σ' (Sl (fl c) sz v l * R) := by
 subst hm
 cases l with
 | nil => exact ⟨.ez, σ, rfl, rfl, slz H (.inr rfl)⟩
 | cons x l =>
  obtain ⟨v', σ', e1, H2⟩ := sl_app (B := B) (E := fl c) (sz := sz) (v := .ez) (l := []) (ys := (x :: l).map c) (xs := x :: l) (most := most) (slz (els_fl.2 ⟨rfl, H⟩) (.inr rfl)) (by simpa using hl) hB
  have hv : A.cell v' = some v' := by
   rcases slf_cases H2 with ⟨h, _, _⟩ | ⟨id, g, rfl, _⟩
   ·cases h
   ·rfl
  refine ⟨v', σ', ?_, hv, H2⟩
  show A.wrap true [(.s sz)] .k (A.ar1 r0) [sl sz c (x :: l)] σ = _
  refine wrap_eq rfl ?_ rfl
  show r0 (sl sz c (x :: l)) σ = _
  rw [hr, show A.eqN (sl sz c (x :: l)) .nsl = some (.bool false) from rfl, Option.bind_some, cnd_f, show sl sz c (x :: l) = .sl sz ((x :: l).map c) from rfl, e1]
  rfl
end
section
variable {σ0 σ : Heap} {R : HP}
theorem cloM {l : List MoveD} (hl : l.length ≤ 2199023255552) (H : Hs anyB σ0 σ R) : ∃ v σ', m_slices_Clone_api_Move [sl 8 cMove l] σ = some (v, σ') ∧ A.cell v = some v ∧ Hs anyB σ0 σ' (Sl (fl cMove) 8 v l * R) :=
 clo_gen (most := 140737488355328 / 64) (r := fun _ _ => none) rfl (fun _ _ => rfl) (by simpa using hl) (fun _ _ _ _ => trivial) H
theorem cloP {l : List PointD} (hl : l.length ≤ 8796093022208) (H : Hs anyB σ0 σ R) : ∃ v σ', m_slices_Clone_api_Point [sl 2 cPoint l] σ = some (v, σ') ∧ A.cell v = some v ∧ Hs anyB σ0 σ' (Sl (fl cPoint) 2 v l * R) :=
 clo_gen (most := 140737488355328 / 16) (r := fun _ _ => none) rfl (fun _ _ => rfl) (by simpa using hl) (fun _ _ _ _ => trivial) H
theorem cloC {l : List CueD} (hl : l.length ≤ 1099511627776) (H : Hs anyB σ0 σ R) : ∃ v σ', m_slices_Clone_api_Cue [sl 11 cCue l] σ = some (v, σ') ∧ A.cell v = some v ∧ Hs anyB σ0 σ' (Sl (fl cCue) 11 v l * R) :=
 clo_gen (most := 140737488355328 / 128) (r := fun _ _ => none) rfl (fun _ _ => rfl) (by simpa using hl) (fun _ _ _ _ => trivial) H
def putM (l : List MoveD) (m : MoveD) : List MoveD := if hasM l m.key = true then l.set (posM l m.key) m else l.take (posM l m.key) ++ [m] ++ l.drop (posM l m.key)
theorem hasM_lt {l : List MoveD} (hs : srtM l) {k : KeyD} (h : hasM l k = true) : ∃ x, l[posM l k]? = some x := by
 rw [← posM_has hs] at h
 cases hx : l[posM l k]? with
 | none => rw [hx] at h; cases h
 | some x => exact ⟨x, rfl⟩
theorem insM {v : AV} {l : List MoveD} {m : MoveD} {i : Nat} (hi : i ≤ l.length) (hl : l.length < 2199023255552) (H : Hs anyB σ0 σ (Sl (fl cMove) 8 v l * R)) :
  ∃ v' σ', m_slices_Insert_api_Move [v, .int .i64 (i : Int), .sl 8 [cMove m]] σ = some (v', σ') ∧ A.cell v' = some v' ∧ Hs anyB σ0 σ' (Sl (fl cMove) 8 v' (l.take i ++ [m] ++ l.drop i) * R) := by
 obtain ⟨v', σ', e, H2⟩ := sl_ins (most := 140737488355328 / 64) (zs := [(AV.int .i64 0), (AV.str ⟨#[]⟩), (AV.int .i64 0), (AV.int .i64 0), (AV.bool false), (AV.bool false), (AV.int .i64 0), (AV.int .i64 0)]) (rot := m_slices_rotateRight_api_Move) (B := anyB) (E := fl cMove) (y := m) (ye := cMove m)
  (hs_eq (show pr (cMove m = cMove m) * (Sl (fl cMove) 8 v l * R) = _ by rw [show fl cMove (cMove m) m = pr (cMove m = cMove m) from rfl]; ac_rfl) (hs_pr.2 ⟨rfl, H⟩)) hi (by omega) (by omega) (fun _ _ _ _ _ => trivial)
 have hv : A.cell v' = some v' := by
  rcases slf_cases H2 with ⟨h, _, _⟩ | ⟨id, g, rfl, _⟩
  ·simp at h
  ·rfl
 refine ⟨v', σ', ?_, hv, H2⟩
 unfold m_slices_Insert_api_Move A.wrap
 rw [Bool.false_and, cond_false, show A.nnL [] [v, .int .i64 (i : Int), .sl 8 [cMove m]] = [v, .int .i64 (i : Int), .sl 8 [cMove m]] by simp [A.nnL]]
 show (r_slices_Insert_api_Move v (.int .i64 (i : Int)) (.sl 8 [cMove m]) σ).map _ = _
 rw [show r_slices_Insert_api_Move v (.int .i64 (i : Int)) (.sl 8 [cMove m]) σ = some (v', σ') from e]
 simp [nn_k]
theorem cell_sl {α : Type} {E : List AV → α → HP} {sz : Nat} {B : Blk → Prop} {v : AV} {l : List α} (H : Hs B σ0 σ (Sl E sz v l * R)) : A.cell v = some v := by
 rcases sl_cases H with ⟨_, rfl | rfl, _⟩ | ⟨id, g, seg, rfl, _⟩ <;> rfl
theorem row_move (m : MoveD) : (((A.cells 8 (.agg (cMove m))).bind fun c22 => (A.splice 0 c22 [(AV.int .i64 0), (AV.str ⟨#[]⟩), (AV.int .i64 0), (AV.int .i64 0), (AV.bool false), (AV.bool false), (AV.int .i64 0), (AV.int .i64 0)]).bind fun c23 => some c23).bind fun cs => some (AV.sl 8 (chunks 8 1 cs))) = some (.sl 8 [cMove m]) := rfl
theorem setM {v : AV} {l : List MoveD} {m : MoveD} {i : Nat} {x : MoveD} (hx : l[i]? = some x) (H : Hs anyB σ0 σ (Sl (fl cMove) 8 v l * R)) :
  ∃ p σ', A.iaddr 8 v (.int .i64 (i : Int)) = some p ∧ A.storeAt p (cMove m) σ = some σ' ∧ Hs anyB σ0 σ' (Sl (fl cMove) 8 v (l.set i m) * R) := by
 obtain ⟨p, F, e, h1, hC, K, back⟩ := sl_cell H hx
 have he : e = cMove x := (hs_pr.1 (hs_drop K)).1
 subst he
 have K2 := hs_drop (hs_eq (show _ = pr (cMove x = cMove x) * (F (cMove x) * R) by rw [show fl cMove (cMove x) x = pr (cMove x = cMove x) from rfl]; ac_rfl) K)
 obtain ⟨σ', h2, K3⟩ := hC.st K2 (sp_cMove m (cMove x) rfl)
 refine ⟨p, σ', h1, h2, back (e := cMove m) (hs_eq (show pr (cMove m = cMove m) * (F (cMove m) * R) = _ by rw [show fl cMove (cMove m) m = pr (cMove m = cMove m) from rfl]; ac_rfl) (hs_pr.2 ⟨rfl, K3⟩))⟩
theorem faddr_at {p : AV} {F : List AV → HP} (hC : Cl p F) {e : List AV} (o : Nat) (H : Hs anyB σ0 σ (F e * R)) {vm : AV} (h1 : A.part1 0 (e.drop o) = some vm) : ∃ q, A.faddr o p = some q ∧ ((A.deref q σ).bind fun c => A.part1 0 c) = some vm := by
 obtain ⟨q, a1, a2, _⟩ := hC.fa o
 exact ⟨q, a1, by rw [a2 H, Option.bind_some, h1]⟩
theorem moveAt_own {e : List AV} {x : CueD} (H : Hs anyB σ0 σ (CueF e x * R)) (hs : srtM x.moves) (hl : x.moves.length < 4611686018427387904) (k : KeyD) : m_cue_moveAt [.agg e, .agg (cKey k)] σ = some (.tup [.int .i64 (posM x.moves k : Int), .bool (hasM x.moves k)], σ) :=
 lent (ain := [.a shCue]) (ts := [.agg (cCue x), .agg (cKey k)]) ⟨lt_cueF H, lt_fz (fz_agg (fz_cKey k)) rfl, trivial⟩ (fun σ => moveAt_t hs hl k σ) rfl
theorem put_s {p : AV} {F : List AV → HP} {e : List AV} {x : CueD} {m : MoveD} (hC : Cl p F) (H : Hs anyB σ0 σ (F e * (CueE e x * R))) (hs : srtM x.moves) (hl : x.moves.length < 2199023255552) :
  ∃ σ' e', m_cue_put [p, .agg (cMove m)] σ = some (.tup [], σ') ∧ Hs anyB σ0 σ' (F e' * (CueE e' { x with moves := putM x.moves m } * R)) := by
 obtain ⟨vp, vm, he, K⟩ := cueP (hs_eq (show _ = CueP (Sl (fl cMove) 8) e x * (F e * R) from by rw [show CueE e x = CueP (Sl (fl cMove) 8) e x from rfl]; ac_rfl) H)
 have hat := moveAt_own (cue_weak (hs_eq (show _ = CueE e x * (F e * R) by ac_rfl) H)) hs (by omega) m.key
 have hld := hC.ld H
 have hmv : Hs anyB σ0 σ (Sl (fl cMove) 8 vm x.moves * (F e * (Sf cPoint 2 vp x.curve.points * R))) := hs_eq (by ac_rfl) K
 have mk : ∀ {σ : Heap} {vm' : AV} {l : List MoveD}, Hs anyB σ0 σ (F (cCueH x vp vm') * (Sl (fl cMove) 8 vm' l * (Sf cPoint 2 vp x.curve.points * R))) → Hs anyB σ0 σ (F (cCueH x vp vm') * (CueE (cCueH x vp vm') { x with moves := l } * R)) := by
  intro σ vm' l K
  have := cueP_of (M := Sl (fl cMove) 8) (x := { x with moves := l }) (e := cCueH x vp vm') (vp := vp) (vm := vm') (R := F (cCueH x vp vm') * R) (B := anyB) (σ0 := σ0) (σ := σ) rfl (hs_eq (by ac_rfl) K)
  exact hs_eq (by rw [show CueE (cCueH x vp vm') { x with moves := l } = CueP (Sl (fl cMove) 8) (cCueH x vp vm') { x with moves := l } from rfl]; ac_rfl) this
 have run : ∃ σ' e', r_cue_put p (.agg (cMove m)) σ = some (.tup [], σ') ∧ Hs anyB σ0 σ' (F e' * (CueE e' { x with moves := putM x.moves m } * R)) := by
  subst he
  unfold r_cue_put
  rw [ce_cMove, Option.bind_some, hC.nc, Option.bind_some, hld, Option.bind_some]
  rw [show A.partA 0 11 (cCueH x vp vm) = some (.agg (cCueH x vp vm)) from rfl, Option.bind_some, pA_cMove_key, Option.bind_some, quiet_of hat, Option.bind_some]
  show ∃ σ' e', A.cond (.bool (hasM x.moves m.key)) _ _ = _ ∧ _
  obtain ⟨q, f1, f2⟩ := faddr_at hC 10 H (vm := vm) (by
   have := cell_sl hmv
   simp only [cCueH, List.drop_succ_cons, List.drop_zero, A.part1, List.getElem?_cons_zero, Option.bind_some]
   exact this)
  cases hh : hasM x.moves m.key
  ·rw [cnd_f]
   rw [Option.bind_some, f1, Option.bind_some, f2, Option.bind_some, pA_cMove, Option.bind_some, row_move, Option.bind_some]
   obtain ⟨v', σ1, e1, e2, H1⟩ := insM (m := m) (posM_le x.moves m.key) hl hmv
   rw [e1, Option.bind_some, Option.bind_some]
   simp only
   rw [f1, Option.bind_some, e2, Option.bind_some, Option.bind_some]
   obtain ⟨q', g1, _, g3⟩ := hC.fa 10
   rw [f1] at g1; injection g1 with g1; subst g1
   obtain ⟨σ2, e3, H2⟩ := g3 (hs_eq (show _ = F (cCueH x vp vm) * (Sl (fl cMove) 8 v' (x.moves.take (posM x.moves m.key) ++ [m] ++ x.moves.drop (posM x.moves m.key)) * (Sf cPoint 2 vp x.curve.points * R)) by ac_rfl) H1) (new := [v']) (e' := cCueH x vp v') rfl
   rw [e3, Option.bind_some]
   refine ⟨σ2, cCueH x vp v', rfl, ?_⟩
   rw [putM, if_neg (by rw [hh]; decide)]
   exact mk H2
  ·rw [cnd_t]
   obtain ⟨y, hy⟩ := hasM_lt hs hh
   obtain ⟨pp, σ1, e1, e2, H1⟩ := setM (m := m) hy hmv
   rw [Option.bind_some, f1, Option.bind_some, f2, Option.bind_some, pA_cMove, Option.bind_some, e1, Option.bind_some, ce_cMove, Option.bind_some, e2, Option.bind_some]
   refine ⟨σ1, cCueH x vp vm, rfl, ?_⟩
   rw [putM, if_pos hh]
   exact mk (hs_eq (by ac_rfl) H1)
 obtain ⟨σ', e', h1, h2⟩ := run
 refine ⟨σ', e', ?_, h2⟩
 unfold m_cue_put A.wrap
 rw [Bool.false_and, cond_false, show A.nnL [] [p, .agg (cMove m)] = [p, .agg (cMove m)] by simp [A.nnL]]
 show (r_cue_put p (.agg (cMove m)) σ).map _ = _
 rw [h1]
 simp [nn_k]
end
end Go.Proofs.Ytphgchakmkankaa

namespace Go.Proofs.Ytphgchakmkankaa
set_option linter.unusedSectionVars false
set_option linter.unusedVariables false
set_option linter.unusedSimpArgs false
open HP
section
variable {σ0 σ : Heap} {R : HP}
def Small (l : List CueD) : Prop := l.length ≤ 1099511627776 ∧ ∀ c ∈ l, c.moves.length ≤ 2199023255552 ∧ c.curve.points.length ≤ 8796093022208
theorem row_cueH (x : CueD) (vp vm : AV) : (((A.cells 11 (.agg (cCueH x vp vm))).bind fun c20 => (A.splice 0 c20 [(AV.int .i64 0), (AV.str ⟨#[]⟩), (AV.int .i64 0), (AV.int .i64 0), (AV.int .i64 0), (AV.int .i64 0), (AV.int .i64 0), AV.nsl, (AV.bool false), (AV.int .i64 0), AV.nsl]).bind fun c21 => some c21).bind fun cs => some (AV.sl 11 (chunks 11 1 cs))) = some (.sl 11 [cCueH x vp vm]) := rfl
theorem copied_s {l : List CueD} (hl : Small l) (hx : l.length ≤ mxl) (H : Hs anyB σ0 σ R) : ∃ v σ', m_cue_copied [sl 11 cCue l] σ = some (v, σ') ∧ Hs anyB σ0 σ' (Sl CueE 11 v l * R) := by
 have run : ∃ b : AV × Heap, r_cue_copied (sl 11 cCue l) σ = some b ∧ Hs anyB σ0 b.2 (Sl CueE 11 b.1 l * R) := by
  unfold r_cue_copied
  rw [lenS_sl, Option.bind_some]
  refine loop_k (Q := fun q => ∃ v w, q.1 = .exit 0 ∧ q.2.1 = [v, w] ∧ Hs anyB σ0 q.2.2 (Sl CueE 11 v l * R)) (loop_hs l (fun i v s => ∃ h, v = [h, .int .i64 (i : Int)] ∧ Hs anyB σ0 s (Sl CueE 11 h (l.take i) * R)) ?_ ?_ ⟨.nsl, rfl, slz H (.inl rfl)⟩) ?_
  ·rintro i x v s hx1 ⟨h, rfl, K⟩
   obtain ⟨hm, hp⟩ := hl.2 x (List.mem_of_getElem? hx1)
   have hi := (List.getElem?_eq_some_iff.1 hx1).1
   simp only [List.getD_cons_succ, List.getD_cons_zero]
   rw [ix_lt hx1, Option.bind_some, cnd_t, ix_for hx1, Option.bind_some]
   simp only [A.deref, Option.bind_some]
   rw [pA_cCue, Option.bind_some, ce_cCue, Option.bind_some, sp_cCue _ _ rfl, Option.bind_some, show A.part1 7 (cCue x) = some (sl 2 cPoint x.curve.points) from rfl, Option.bind_some]
   obtain ⟨vp, s1, e1, e2, K1⟩ := cloP hp K
   rw [e1, Option.bind_some, e2, Option.bind_some, Option.bind_some, show A.splice 7 [vp] (cCue x) = some (cCueH x vp (sl 8 cMove x.moves)) from rfl, Option.bind_some, show A.part1 10 (cCueH x vp (sl 8 cMove x.moves)) = some (sl 8 cMove x.moves) from rfl, Option.bind_some]
   obtain ⟨vm, s2, e3, e4, K2⟩ := cloM hm K1
   rw [e3, Option.bind_some, e4, Option.bind_some, Option.bind_some, show A.splice 10 [vm] (cCueH x vp (sl 8 cMove x.moves)) = some (cCueH x vp vm) from rfl, Option.bind_some, show A.partA 0 11 (cCueH x vp vm) = some (.agg (cCueH x vp vm)) from rfl, Option.bind_some, row_cueH, Option.bind_some]
   have K3 := cueP_of (M := Sl (fl cMove) 8) (x := x) (e := cCueH x vp vm) rfl (hs_eq (show _ = Sf cPoint 2 vp x.curve.points * (Sl (fl cMove) 8 vm x.moves * (Sl CueE 11 h (l.take i) * R)) by ac_rfl) (sf_own (hs_eq (show _ = Sl (fl cPoint) 2 vp x.curve.points * (Sl (fl cMove) 8 vm x.moves * (Sl CueE 11 h (l.take i) * R)) by ac_rfl) K2)))
   have K4 := hs_eq (show _ = Sl CueE 11 h (l.take i) * (els CueE [cCueH x vp vm] [x] * R) by rw [els_one, show CueE (cCueH x vp vm) x = CueP (Sl (fl cMove) 8) (cCueH x vp vm) x from rfl]; ac_rfl) K3
   have hm2 := hl.1
   obtain ⟨h', s3, e5, K5⟩ := sl_app (most := 140737488355328 / 128) K4 (by simp; omega) (fun _ _ _ _ => trivial)
   rw [e5, Option.bind_some, ix_inc hx1 hx, Option.bind_some]
   refine ⟨_, _, rfl, h', rfl, ?_⟩
   rw [List.take_add_one, hx1]
   exact K5
  ·rintro v s ⟨h, rfl, K⟩
   simp only [List.getD_cons_succ, List.getD_cons_zero]
   rw [ix_end, Option.bind_some, cnd_f]
   refine ⟨_, rfl, by simp, h, _, rfl, rfl, ?_⟩
   rw [List.take_length] at K; exact K
  ·rintro ⟨e, v, s⟩ ⟨h, w, h1, h2, K⟩
   simp only at h1 h2 K
   subst h1; subst h2
   exact ⟨_, rfl, K⟩
 obtain ⟨⟨v, σ'⟩, h1, h2⟩ := run
 refine ⟨v, σ', wrap_eq rfl ?_ rfl, h2⟩
 rw [show A.nnL [Sh.e 11 [.k, .k, .k, .k, .k, .k, .k, .s 2, .k, .k, .s 8]] [sl 11 cCue l] = [sl 11 cCue l] from nn_t1 (nn_e (fun _ => rfl) _) rfl]
 exact h1
theorem fin_hs {v v' : AV} (H : Hs anyB σ0 σ R) (h : A.frz σ σ0.length 8 v = some v') (hv : σ = σ0 → v' = v) : A.fin σ0 v σ = some (v', σ0) := by
 obtain ⟨⟨bs, rfl, _⟩, _⟩ := H
 by_cases hbs : bs = []
 ·subst hbs
  rw [List.append_nil] at h ⊢
  rw [fin_same, hv (by simp)]
 ·unfold A.fin
  rw [if_neg (by simpa using hbs), if_pos (by simp), h]; rfl
end
end Go.Proofs.Ytphgchakmkankaa

namespace Go.Proofs.Ytphgchakmkankaa
set_option linter.unusedSectionVars false
set_option linter.unusedVariables false
set_option linter.unusedSimpArgs false
open HP
theorem small_of {l : List CueD} (h : Good l) : Small l := ⟨by have := h.len; omega, fun c hc => ⟨by have := (h.mv c hc).1; omega, by have := h.pts c hc; omega⟩⟩
theorem srt_put {l : List MoveD} (h : srtM l) (m : MoveD) : srtM (putM l m) := by
 unfold putM
 have hlt : ∀ x ∈ l.take (posM l m.key), ltK x.key m.key = true := fun x hx => by
  obtain ⟨i, hi⟩ := List.mem_iff_getElem?.1 hx
  rw [List.getElem?_take] at hi
  split at hi
  ·rename_i hlt; exact (posM_lt h hi).2 hlt
  ·cases hi
 have hge : ∀ x ∈ l.drop (posM l m.key), ltK x.key m.key = false := fun x hx => by
  obtain ⟨i, hi⟩ := List.mem_iff_getElem?.1 hx
  rw [List.getElem?_drop] at hi
  cases hq : ltK x.key m.key
  ·rfl
  ·have := (posM_lt h hi).1 hq; omega
 split
 ·rename_i hh
  obtain ⟨y, hy⟩ := hasM_lt h hh
  have hk : y.key = m.key := by
   have := posM_has (k := m.key) h
   rw [hh, hy] at this
   simpa using this
  unfold srtM at h ⊢
  rw [List.pairwise_iff_getElem] at h ⊢
  intro i j hi hj hij
  simp only [List.length_set] at hi hj
  have hp := (List.getElem?_eq_some_iff.1 hy).1
  have key : ∀ k (hk' : k < l.length), ((l.set (posM l m.key) m)[k]'(by simpa using hk')).key = l[k].key := by
   intro k hk'
   rw [List.getElem_set]
   split
   ·rename_i e; subst e; exact hk.symm.trans (congrArg MoveD.key (List.getElem?_eq_some_iff.1 hy).2.symm)
   ·rfl
  rw [key i hi, key j hj]
  exact h i j hi hj hij
 ·rename_i hh
  unfold srtM at h ⊢
  rw [List.append_assoc, List.pairwise_append]
  refine ⟨h.sublist (List.take_sublist _ _), ?_, fun x hx y hy => ?_⟩
  ·rw [List.singleton_append, List.pairwise_cons]
   refine ⟨fun y hy => ?_, h.sublist (List.drop_sublist _ _)⟩
   cases hq : ltK m.key y.key
   ·exfalso
    have e := ltK_tri hq (hge y hy)
    exact hh (List.any_eq_true.2 ⟨y, List.mem_of_mem_drop hy, by simp [e]⟩)
   ·rfl
  ·rcases List.mem_append.1 hy with hy | hy
   ·simp at hy; subst hy; exact hlt x hx
   ·have e : l.take (posM l m.key) ++ l.drop (posM l m.key) = l := List.take_append_drop _ _
    rw [← e, List.pairwise_append] at h
    exact h.2.2 x hx y hy
theorem put_len (l : List MoveD) (m : MoveD) : (putM l m).length ≤ l.length + 1 := by
 unfold putM
 split
 ·simp
 ·simp; omega
theorem has_put {l : List MoveD} (hs : srtM l) (m : MoveD) (k : KeyD) : hasM (putM l m) k = (hasM l k || decide (m.key = k)) := by
 rw [Bool.eq_iff_iff]
 simp only [Bool.or_eq_true, decide_eq_true_eq]
 unfold hasM putM
 split
 ·rename_i hh
  obtain ⟨y, hy⟩ := hasM_lt hs hh
  have hp := (List.getElem?_eq_some_iff.1 hy).1
  have hk : y.key = m.key := by
   have := posM_has (k := m.key) hs
   rw [hh, hy] at this
   simpa using this
  simp only [List.any_eq_true, decide_eq_true_eq]
  constructor
  ·rintro ⟨x, hx, e⟩
   rcases List.mem_or_eq_of_mem_set hx with hx | hx
   ·exact .inl ⟨x, hx, e⟩
   ·subst hx; exact .inr e
  ·rintro (⟨x, hx, e⟩ | e)
   ·by_cases hm : m.key = k
    ·exact ⟨m, List.mem_of_getElem? (i := posM l m.key) (by rw [List.getElem?_set_self hp]), hm⟩
    ·obtain ⟨i, hi⟩ := List.mem_iff_getElem?.1 hx
     have hne : posM l m.key ≠ i := fun e' => hm (by rw [← e', hy] at hi; injection hi with hi; rw [← hk, hi, e])
     exact ⟨x, List.mem_of_getElem? (i := i) (by rw [List.getElem?_set_ne hne, hi]), e⟩
   ·exact ⟨m, List.mem_of_getElem? (i := posM l m.key) (by rw [List.getElem?_set_self hp]), e⟩
 ·have e : l = l.take (posM l m.key) ++ l.drop (posM l m.key) := (List.take_append_drop _ _).symm
  simp only [List.any_append, List.any_cons, List.any_nil, Bool.or_eq_true, decide_eq_true_eq, Bool.or_false]
  conv => rhs; lhs; rw [e, List.any_append, Bool.or_eq_true]
  constructor
  ·rintro ((h | h) | h)
   ·exact .inl (.inl h)
   ·exact .inr h
   ·exact .inl (.inr h)
  ·rintro ((h | h) | h)
   ·exact .inl (.inl h)
   ·exact .inr h
   ·exact .inl (.inr h)
def setMv (l : List CueD) (i : Nat) (g : List MoveD → List MoveD) : List CueD := match l[i]? with
 | some c => l.set i { c with moves := g c.moves }
 | none => l
theorem setMv_len (l : List CueD) (i : Nat) (g : List MoveD → List MoveD) : (setMv l i g).length = l.length := by unfold setMv; split <;> simp
def Inv (k : Nat) (l : List CueD) : Prop := l.length ≤ 1000 ∧ ∀ c ∈ l, srtM c.moves ∧ c.moves.length ≤ 2000 + k
theorem Inv.mono {k k' : Nat} {l : List CueD} (h : Inv k l) (hk : k ≤ k') : Inv k' l := ⟨h.1, fun c hc => ⟨(h.2 c hc).1, by have := (h.2 c hc).2; omega⟩⟩
theorem Inv.setMv {k : Nat} {l : List CueD} (h : Inv k l) (i : Nat) (m : MoveD) : Inv (k + 1) (setMv l i (putM · m)) := by
 refine ⟨by rw [setMv_len]; exact h.1, fun c hc => ?_⟩
 unfold Go.Proofs.Ytphgchakmkankaa.setMv at hc
 split at hc
 ·rename_i x hx
  rcases List.mem_or_eq_of_mem_set hc with hc | hc
  ·exact ⟨(h.2 c hc).1, by have := (h.2 c hc).2; omega⟩
  ·subst hc
   have hx' := h.2 x (List.mem_of_getElem? hx)
   exact ⟨srt_put hx'.1 m, by have := put_len x.moves m; show (putM x.moves m).length ≤ _; omega⟩
 ·exact ⟨(h.2 c hc).1, by have := (h.2 c hc).2; omega⟩
theorem Inv.erase {k : Nat} {l : List CueD} (h : Inv k l) (i : Nat) : Inv k (l.eraseIdx i) :=
 ⟨by have := List.length_eraseIdx_le l i; have := h.1; omega, fun c hc => h.2 c (List.mem_of_mem_eraseIdx hc)⟩
section
variable {σ0 σ : Heap} {R : HP}
theorem foldl_take {α β : Type} (f : β → α → β) (b : β) (l : List α) {i : Nat} {x : α} (h : l[i]? = some x) : (l.take (i + 1)).foldl f b = f ((l.take i).foldl f b) x := by
 rw [List.take_add_one, h, Option.toList_some, List.foldl_append]; rfl
end
end Go.Proofs.Ytphgchakmkankaa

namespace Go.Proofs.Ytphgchakmkankaa
set_option linter.unusedSectionVars false
set_option linter.unusedVariables false
set_option linter.unusedSimpArgs false
open HP
section
variable {α β : Type} {E : List AV → β → HP} {f : α → β} {B : Blk → Prop} {σ0 σ : Heap} {R : HP} {sz : Nat} {v : AV}
theorem els_map : ∀ (seg : List (List AV)) (l : List α), els E seg (l.map f) = els (fun e x => E e (f x)) seg l
 | [], [] => rfl
 | [], _ :: _ => rfl
 | _ :: _, [] => rfl
 | e :: seg, x :: l => by rw [List.map_cons, els, els, els_map seg l]
theorem sl_map (l : List α) : Sl E sz v (l.map f) = Sl (fun e x => E e (f x)) sz v l := by
 funext h
 unfold Sl
 simp only [List.map_eq_nil_iff, List.length_map, els_map]
end
section
variable {σ0 σ : Heap} {R : HP} {v : AV}
theorem lt_slf {α : Type} {c : α → List AV} {sz : Nat} {l : List α} {vm : AV} (hc : ∀ x, FzL (c x)) (H : Hs anyB σ0 σ (Sl (fl c) sz vm l * R)) : Lt σ (.s sz) vm (sl sz c l) := by
 obtain ⟨v', h1, h2, h3⟩ := slf_fz H hc (Nat.zero_le _) 7
 refine ⟨⟨v', h1, ?_, by rw [h3]; rfl⟩, rfl, fun ho => ?_⟩
 ·rcases slf_cases H with ⟨rfl, rfl | rfl, _⟩ | ⟨id, g, rfl, K⟩
  ·simp [A.frz] at h1; subst h1; rfl
  ·simp [A.frz] at h1; subst h1; rfl
  ·cases v' <;> first | rfl | (cases h2; done) | (simp only [A.nn] at h3; cases h3)
 ·rcases slf_cases H with ⟨rfl, rfl | rfl, _⟩ | ⟨id, g, rfl, K⟩
  ·rfl
  ·rfl
  ·cases ho
theorem moveOf_own {l : List MoveD} {vm : AV} (H : Hs anyB σ0 σ (Sl (fl cMove) 8 vm l * R)) (hs : srtM l) (hl : l.length < 4611686018427387904) (k : KeyD) : m_R5_moveOf [vm, .agg (cKey k)] σ = some (.tup [.int .i64 (posM l k : Int), .bool (hasM l k)], σ) :=
 lent (ain := [.s 8]) (ts := [sl 8 cMove l, .agg (cKey k)]) ⟨lt_slf fz_cMove H, lt_fz (fz_agg (fz_cKey k)) rfl, trivial⟩ (fun σ => h_R5_moveOf (moveOf_t hs hl k)) rfl
theorem put5 {l : List MoveD} {vm : AV} {m : MoveD} (H : Hs anyB σ0 σ (Sl (fl cMove) 8 vm l * R)) (hs : srtM l) (hl : l.length < 2199023255552) : ∃ v' σ', m_R5_put [vm, .agg (cMove m)] σ = some (v', σ') ∧ A.cell v' = some v' ∧ Hs anyB σ0 σ' (Sl (fl cMove) 8 v' (putM l m) * R) := by
 have run : ∃ v' σ', r_R5_put vm (.agg (cMove m)) σ = some (v', σ') ∧ A.cell v' = some v' ∧ Hs anyB σ0 σ' (Sl (fl cMove) 8 v' (putM l m) * R) := by
  unfold r_R5_put
  rw [ce_cMove, Option.bind_some, pA_cMove_key, Option.bind_some, moveOf_own H hs (by omega), Option.bind_some]
  show ∃ v' σ', A.cond (.bool (hasM l m.key)) _ _ = _ ∧ _
  cases hh : hasM l m.key
  ·obtain ⟨v', σ1, e1, e2, H1⟩ := insM (m := m) (posM_le l m.key) hl H
   rw [cnd_f, pA_cMove, Option.bind_some, row_move, Option.bind_some, e1, Option.bind_some]
   refine ⟨v', σ1, rfl, e2, ?_⟩
   rw [putM, if_neg (by rw [hh]; decide)]; exact H1
  ·obtain ⟨y, hy⟩ := hasM_lt hs hh
   obtain ⟨pp, σ1, e1, e2, H1⟩ := setM (m := m) hy H
   rw [cnd_t, pA_cMove, Option.bind_some, e1, Option.bind_some, ce_cMove, Option.bind_some, e2, Option.bind_some]
   refine ⟨vm, σ1, rfl, cell_sl H, ?_⟩
   rw [putM, if_pos hh]; exact H1
 obtain ⟨v', σ', h1, h2⟩ := run
 refine ⟨v', σ', ?_, h2⟩
 unfold m_R5_put A.wrap
 rw [Bool.false_and, cond_false, show A.nnL [] [vm, .agg (cMove m)] = [vm, .agg (cMove m)] by simp [A.nnL]]
 show (r_R5_put vm (.agg (cMove m)) σ).map _ = _
 rw [h1]
 simp [nn_k]
theorem put5_cell {p : AV} {F : List AV → HP} {e : List AV} {x : CueD} (hC : Cl p F) (H : Hs anyB σ0 σ (F e * (CueE e x * R))) (hs : srtM x.moves) (hl : x.moves.length < 2199023255552) : ∃ q vm, A.faddr 10 p = some q ∧ ((A.deref q σ).bind fun c => A.part1 0 c) = some vm ∧ (∀ k, m_R5_moveOf [vm, .agg (cKey k)] σ = some (.tup [.int .i64 (posM x.moves k : Int), .bool (hasM x.moves k)], σ)) ∧
  ∀ m, ∃ v' σ1 σ2, m_R5_put [vm, .agg (cMove m)] σ = some (v', σ1) ∧ A.cell v' = some v' ∧ A.storeAt q [v'] σ1 = some σ2 ∧ ∃ e', Hs anyB σ0 σ2 (F e' * (CueE e' { x with moves := putM x.moves m } * R)) := by
 obtain ⟨vp, vm, he, K⟩ := cueP (hs_eq (show _ = CueP (Sl (fl cMove) 8) e x * (F e * R) from by rw [show CueE e x = CueP (Sl (fl cMove) 8) e x from rfl]; ac_rfl) H)
 subst he
 have hmv : Hs anyB σ0 σ (Sl (fl cMove) 8 vm x.moves * (F (cCueH x vp vm) * (Sf cPoint 2 vp x.curve.points * R))) := hs_eq (by ac_rfl) K
 obtain ⟨q, f1, f2⟩ := faddr_at hC 10 H (vm := vm) (by
  have := cell_sl hmv
  simp only [cCueH, List.drop_succ_cons, List.drop_zero, A.part1, List.getElem?_cons_zero, Option.bind_some]
  exact this)
 refine ⟨q, vm, f1, f2, fun k => moveOf_own hmv hs (by omega) k, fun m => ?_⟩
 obtain ⟨v', σ1, e1, e2, H1⟩ := put5 (m := m) hmv hs hl
 obtain ⟨q', g1, _, g3⟩ := hC.fa 10
 rw [f1] at g1; injection g1 with g1; subst g1
 obtain ⟨σ2, e3, H2⟩ := g3 (hs_eq (show _ = F (cCueH x vp vm) * (Sl (fl cMove) 8 v' (putM x.moves m) * (Sf cPoint 2 vp x.curve.points * R)) by ac_rfl) H1) (new := [v']) (e' := cCueH x vp v') rfl
 refine ⟨v', σ1, σ2, e1, e2, e3, cCueH x vp v', ?_⟩
 have := cueP_of (M := Sl (fl cMove) 8) (x := { x with moves := putM x.moves m }) (e := cCueH x vp v') (vp := vp) (vm := v') (R := F (cCueH x vp v') * R) (B := anyB) (σ0 := σ0) (σ := σ2) rfl (hs_eq (by ac_rfl) H2)
 exact hs_eq (by rw [show CueE (cCueH x vp v') { x with moves := putM x.moves m } = CueP (Sl (fl cMove) 8) (cCueH x vp v') { x with moves := putM x.moves m } from rfl]; ac_rfl) this
theorem set_mix {l : List CueD} {i : Nat} {x : CueD} (hx1 : l[i]? = some x) : ((l.take i).map (fun x => (x, true)) ++ (l.drop i).map (fun x => (x, false))).set i (x, true) = (l.take (i + 1)).map (fun x => (x, true)) ++ (l.drop (i + 1)).map (fun x => (x, false)) := by
 have hi := (List.getElem?_eq_some_iff.1 hx1).1
 have e : l.drop i = x :: l.drop (i + 1) := by rw [List.drop_eq_getElem_cons hi, (List.getElem?_eq_some_iff.1 hx1).2]
 rw [e, List.take_add_one, hx1, List.set_append_right _ _ (by simp; omega)]
 rw [show i - ((l.take i).map fun x => (x, true)).length = 0 by simp; omega]
 simp
def CueX (e : List AV) (y : CueD × Bool) : HP := match y.2 with | true => CueE e y.1 | false => fl cCue e y.1
theorem cloned_s {l : List CueD} (hl : Small l) (hx : l.length ≤ mxl) (H : Hs anyB σ0 σ R) : ∃ v σ', m_R5_cloned [sl 11 cCue l] σ = some (v, σ') ∧ Hs anyB σ0 σ' (Sl CueE 11 v l * R) := by
 have run : ∃ b : AV × Heap, r_R5_cloned (sl 11 cCue l) σ = some b ∧ Hs anyB σ0 b.2 (Sl CueE 11 b.1 l * R) := by
  unfold r_R5_cloned
  obtain ⟨v, s0, e1, _, K0⟩ := cloC hl.1 H
  rw [e1, Option.bind_some, sl_len K0, Option.bind_some]
  refine loop_k (Q := fun q => q.1 = .exit 0 ∧ Hs anyB σ0 q.2.2 (Sl CueE 11 v l * R)) (loop_hs l (fun i w s => w = [.int .i64 (i : Int)] ∧ Hs anyB σ0 s (Sl CueX 11 v ((l.take i).map (fun x => (x, true)) ++ (l.drop i).map (fun x => (x, false))) * R)) ?_ ?_ ⟨rfl, ?_⟩) ?_
  ·rintro i x w s hx1 ⟨rfl, K⟩
   obtain ⟨hm, hp⟩ := hl.2 x (List.mem_of_getElem? hx1)
   have hi := (List.getElem?_eq_some_iff.1 hx1).1
   have hxx : ((l.take i).map (fun x => (x, true)) ++ (l.drop i).map (fun x => (x, false)))[i]? = some (x, false) := by
    rw [List.getElem?_append_right (by simp; omega)]
    simp only [List.length_map, List.length_take, Nat.min_eq_left (Nat.le_of_lt hi), Nat.sub_self, List.getElem?_map, List.getElem?_drop, Nat.add_zero, hx1]
    rfl
   obtain ⟨p, F, e, h1, hC, K1, back⟩ := sl_cell K hxx
   have he : e = cCue x := (hs_pr.1 (hs_drop K1)).1
   subst he
   have K2 := hs_drop (hs_eq (show _ = pr (cCue x = cCue x) * (F (cCue x) * R) by rw [show CueX (cCue x) (x, false) = pr (cCue x = cCue x) from rfl]; ac_rfl) K1)
   obtain ⟨q, f1, f2, f3⟩ := hC.fa 10
   obtain ⟨q6, g1, _, _⟩ := hC.fa 6
   obtain ⟨q7, k1, k2, k3⟩ := hC.fa 7
   have g2 : A.faddr 1 q6 = some q7 := by rw [hC.fc 6 1 q6 g1]; exact k1
   simp only [List.getD_cons_zero]
   rw [ix_lt hx1, Option.bind_some, cnd_t, h1, Option.bind_some, f1, Option.bind_some, f2 K2, Option.bind_some, show A.part1 0 ((cCue x).drop 10) = some (sl 8 cMove x.moves) from rfl, Option.bind_some]
   obtain ⟨vm, s1, e3, e4, K3⟩ := cloM hm K2
   obtain ⟨s2, e5, K4⟩ := f3 (hs_eq (show _ = F (cCue x) * (Sl (fl cMove) 8 vm x.moves * R) by ac_rfl) K3) (new := [vm]) (e' := cCueH x (sl 2 cPoint x.curve.points) vm) rfl
   rw [e3, Option.bind_some, Option.bind_some, f1, Option.bind_some, e4, Option.bind_some, Option.bind_some, e5, Option.bind_some, Option.bind_some, g1, Option.bind_some, g2, Option.bind_some, k2 K4, Option.bind_some, show A.part1 0 ((cCueH x (sl 2 cPoint x.curve.points) vm).drop 7) = some (sl 2 cPoint x.curve.points) from rfl, Option.bind_some]
   obtain ⟨vp, s3, e6, e7, K5⟩ := cloP hp K4
   obtain ⟨s4, e8, K6⟩ := k3 (hs_eq (show _ = F (cCueH x (sl 2 cPoint x.curve.points) vm) * (Sl (fl cPoint) 2 vp x.curve.points * (Sl (fl cMove) 8 vm x.moves * R)) by ac_rfl) K5) (new := [vp]) (e' := cCueH x vp vm) rfl
   rw [e6, Option.bind_some, Option.bind_some, g1, Option.bind_some, g2, Option.bind_some, e7, Option.bind_some, Option.bind_some, e8, Option.bind_some, ix_inc hx1 hx, Option.bind_some]
   refine ⟨_, _, rfl, rfl, ?_⟩
   have K7 := cueP_of (M := Sl (fl cMove) 8) (x := x) (e := cCueH x vp vm) rfl (hs_eq (show _ = Sf cPoint 2 vp x.curve.points * (Sl (fl cMove) 8 vm x.moves * (F (cCueH x vp vm) * R)) by ac_rfl) (sf_own (hs_eq (show _ = Sl (fl cPoint) 2 vp x.curve.points * (F (cCueH x vp vm) * (Sl (fl cMove) 8 vm x.moves * R)) by ac_rfl) K6)))
   have K8 := back (y := (x, true)) (hs_eq (show _ = F (cCueH x vp vm) * (CueX (cCueH x vp vm) (x, true) * R) by rw [show CueX (cCueH x vp vm) (x, true) = CueP (Sl (fl cMove) 8) (cCueH x vp vm) x from rfl]; ac_rfl) K7)
   refine hs_eq ?_ K8
   rw [set_mix hx1]
  ·rintro w s ⟨rfl, K⟩
   simp only [List.getD_cons_zero]
   rw [ix_end, Option.bind_some, cnd_f]
   refine ⟨_, rfl, by simp, rfl, ?_⟩
   rw [List.take_length, List.drop_length, List.map_nil, List.append_nil, sl_map] at K
   exact K
  ·rw [List.take_zero, List.map_nil, List.nil_append, List.drop_zero, sl_map]
   exact K0
  ·rintro ⟨e, w, s⟩ ⟨h1, K⟩
   simp only at h1 K
   subst h1
   exact ⟨_, rfl, K⟩
 obtain ⟨⟨v, σ'⟩, h1, h2⟩ := run
 refine ⟨v, σ', wrap_eq rfl ?_ rfl, h2⟩
 rw [show A.nnL [Sh.e 11 [.k, .k, .k, .k, .k, .k, .k, .s 2, .k, .k, .s 8]] [sl 11 cCue l] = [sl 11 cCue l] from nn_t1 (nn_e (fun _ => rfl) _) rfl]
 exact h1
end
end Go.Proofs.Ytphgchakmkankaa

namespace Go.Proofs.Ytphgchakmkankaa
set_option linter.unusedSectionVars false
set_option linter.unusedVariables false
set_option linter.unusedSimpArgs false
open HP
def OkC (l : List CueD) : Prop := ∀ c ∈ l, okCue c
theorem okC_set {l : List CueD} (h : OkC l) (i : Nat) {g : List MoveD → List MoveD} (hg : ∀ c ∈ l, okL okMove (g c.moves)) : OkC (setMv l i g) := by
 intro c hc
 unfold setMv at hc
 split at hc
 ·rename_i x hx
  rcases List.mem_or_eq_of_mem_set hc with hc | hc
  ·exact h c hc
  ·subst hc
   have hx' := h x (List.mem_of_getElem? hx)
   obtain ⟨a1, a2, a3, a4, a5, a6, a7, a8, _⟩ := hx'
   exact ⟨a1, a2, a3, a4, a5, a6, a7, a8, hg x (List.mem_of_getElem? hx)⟩
 ·exact h c hc
theorem mem_put {l : List MoveD} {m x : MoveD} (h : x ∈ putM l m) : x ∈ l ∨ x = m := by
 unfold putM at h
 split at h
 ·exact List.mem_or_eq_of_mem_set h
 ·simp only [List.mem_append, List.mem_singleton] at h
  rcases h with (h | h) | h
  ·exact .inl (List.mem_of_mem_take h)
  ·exact .inr h
  ·exact .inl (List.mem_of_mem_drop h)
def doneF (o : List CueD) : List CueD × Int := if formF o = 0 then (o, 0) else ([], formF o)
theorem hasC_at {l : List CueD} {n : Int} (hg : Good l) (h : hasC l n = true) : ∃ x, l[posC l n]? = some x ∧ x.number = n := by
 rw [← posC_has hg.srt] at h
 cases hx : l[posC l n]? with
 | none => rw [hx] at h; cases h
 | some x => rw [hx] at h; exact ⟨x, rfl, by simpa using h⟩
theorem ext0 (a b : AV) : A.ext 0 (.tup [a, b]) = some a := rfl
theorem ext1 (a b : AV) : A.ext 1 (.tup [a, b]) = some b := rfl
theorem nn_ret {v : AV} {o : List CueD} {e : Int} (h : A.nn (.e 11 shCue) v = sl 11 cCue o) : A.nn (.t [(.e 11 shCue), .k]) (.tup [v, .int .i64 e]) = .tup [sl 11 cCue o, .int .i64 e] := by
 show AV.tup (A.nnL [.e 11 shCue, .k] [v, .int .i64 e]) = _
 rw [nn_t1 h (nn_t1 (nn_k _) nn_t0)]
theorem nn_nil {e : Int} : A.nn (.t [(.e 11 shCue), .k]) (.tup [.nsl, .int .i64 e]) = .tup [sl 11 cCue [], .int .i64 e] := nn_ret rfl
theorem nn_arg1 (l : List CueD) (aas : List AV) : A.nnL [Sh.e 11 shCue] (sl 11 cCue l :: aas) = sl 11 cCue l :: aas := nn_t1 (nn_idem_cues l) rfl
theorem aNeI (a : Int) : A.neq .i (.int .i64 a) (.int .i64 0) = some (.bool (decide (¬ (a = 0)))) := by rw [aNe]
end Go.Proofs.Ytphgchakmkankaa

namespace Go.Proofs.Ytphgchakmkankaa
set_option linter.unusedSectionVars false
set_option linter.unusedVariables false
set_option linter.unusedSimpArgs false
open HP
theorem setMv_ne {l : List CueD} {i j : Nat} (h : i ≠ j) (g : List MoveD → List MoveD) : (setMv l i g)[j]? = l[j]? := by
 unfold setMv
 split
 ·rw [List.getElem?_set_ne h]
 ·rfl
section
variable {σ0 σ : Heap} {R : HP}
theorem shaped_own {v : AV} {o : List CueD} (H : Hs anyB σ0 σ (Sl CueE 11 v o * R)) (ho : okL okCue o) : m_R5_shaped [v] σ = some (.tup [if formF o = 0 then v else .nsl, .int .i64 (formF o)], σ) := by
 have hf : m_R5_CheckForm [v] σ = some (.int .i64 (formF o), σ) := lent (ain := [.e 11 shCue]) (ts := [sl 11 cCue o]) ⟨lt_cues H, trivial⟩ (fun σ => h_R5_CheckForm (CheckForm5_t o ho)) rfl
 unfold m_R5_shaped A.wrap
 rw [Bool.false_and, cond_false, show A.nnL [] [v] = [v] by simp [A.nnL]]
 show (r_R5_shaped v σ).map _ = _
 unfold r_R5_shaped
 rw [hf, Option.bind_some, aNeI, Option.bind_some]
 by_cases hq : formF o = 0
 ·rw [decide_eq_false (by simp [hq]), cnd_f, if_pos hq, hq]; simp [nn_k]
 ·rw [decide_eq_true hq, cnd_t, if_neg hq]; simp [nn_k]
theorem fin_ret {v : AV} {l : List CueD} {e : Int} (H : Hs anyB σ0 σ (Sl CueF 11 v l * R)) : ∃ v', A.fin σ0 (.tup [v, .int .i64 e]) σ = some (.tup [v', .int .i64 e], σ0) ∧ A.nn (.e 11 shCue) v' = sl 11 cCue l := by
 obtain ⟨v', h1, h2, h3⟩ := cuesF_fz H (Nat.le_refl _) 6
 refine ⟨v', fin_hs H (by simp [A.frz, A.frzL, h1]) (fun e => ?_), h3⟩
 rcases sl_cases H with ⟨rfl, rfl | rfl, _⟩ | ⟨id, g, seg, rfl, hl, K⟩
 ·simp [A.frz] at h1; rw [h1]
 ·simp [A.frz] at h1; rw [h1]
 ·obtain ⟨k1, k2⟩ := hs_get K
  have := (List.getElem?_eq_some_iff.1 k2).1
  subst e; omega
theorem fin_nil {e : Int} (H : Hs anyB σ0 σ R) : A.fin σ0 (.tup [.nsl, .int .i64 e]) σ = some (.tup [.nsl, .int .i64 e], σ0) := fin_hs H (by simp [A.frz, A.frzL]) (fun _ => rfl)
end
end Go.Proofs.Ytphgchakmkankaa

