/- Parts of the proof of CueMarksMatchSpec, in order. -/
import Derived.Orders
import Derived.Below
import Derived.WalkKit
import Derived.Laws.StructEq
import Derived.Laws.Append
import Derived.Laws.AppendOwn
import Derived.Test.YtphgchakmkankaaGreatRows
import Derived.KernelRfl
import Derived.Lib.Bytealg
import Derived.Sort.Defs
import Derived.Lib.BitFns
import Derived.Test.YtphgchakmkankaaGreatShelf
import Derived.Lib.Overlaps
import Derived.IntWalk
import Derived.Lib.Strings
import Derived.Sort.Statements
import Derived.Sort.AssemblyPlain
import Derived.WalkSpells
import Derived.ProofKit
import Derived.OpenShut
import Derived.Lib.Hide
import Derived.Lib.SmallJoins
import Derived.Deep.QuietTactic
import Derived.BigQuiet
import Derived.Deep.RegionHeld3
import Derived.Deep.Slices
import Derived.Test.YtphgchakmkankaaGreatKCueMarksMatchSpec5
namespace Go.Proofs.YtphgchakmkankaaGreat
set_option linter.unusedVariables false
set_option linter.unusedSimpArgs false
set_option linter.unusedSectionVars false
section
open HP
theorem akn {B:aV→Prop} {ay σ:Heap} {R:HP} {id:Nat} {cs:List U} (H:Hs B ay σ (blk id (.box cs)*R)) (hz:jD cs) {cB:List Sh} {eo:Sh} {r:List U→Heap→Option (U×Heap)} {x y v:U} (hx:Fz x) (HN:A.own x=false) (hy:Fz y) (hyo:A.own y=false) (hs:A.xP v=true) (e:A.wrap true cB eo r [x,y,.rp cs] []=some (v,[])) (Zy:A.own (.rp cs)=false:=by rfl):A.wrap true cB eo r [x,y,.op id 0] σ=some (v,σ):=by
 have h3:=(lB H).2
 refine F1 (args':=[x,y,.rp cs]) (by simp [A.own,A.vK]) ?_ (by rw[List.any_cons,List.any_cons,HN,hyo,List.any_cons,Zy];rfl) e hs
 have q:A.sB σ 0 7 cs=some cs:=by rw[D4];exact hz σ 0 7
 simp [A.fE,hx σ 0 8,hy σ 0 8,A.bT,h3,q]
section
variable {r : bu} {au : List bO} {l : List aO} (hr : fU r) (hz : jT r au l = 0)
include hz
theorem afL {i:Nat} (hi:i+1<l.length) (m:aS) (σ:Heap):uy [.agg (aF m),.rp [dJ r au l],.rp [.int .i64 ((i+1:Nat):Int)]] σ=some (.bool (gn r au l (i+1) m.key),σ):=by
 have dP:=(jP hz).1
 have hlen:=(pX (jP hz).2).len
 refine wrap_eq (v:=.bool (gn r au l (i+1) m.key)) rfl ?_ (jK _)
 rw[show A.bY [] [.agg (aF m),.rp [dJ r au l],.rp [.int .i64 ((i+1:Nat):Int)]]=[.agg (aF m),.rp [dJ r au l],.rp [.int .i64 ((i+1:Nat):Int)]]from by simp [A.bY]]
 show Mc _ _ _ σ=_
 unfold Mc
 rw[show A.cells 8 (.agg (aF m))=some (aF m)from rfl,bS,iw,bS,show A.an 0 [dJ r au l]=some (dJ r au l)from rfl,bS,Gh,bS,Qd,bS,iw,bS,Qt,bS,iw,bS,show A.an 0 [.int .i64 ((i+1:Nat):Int)]=some (.int .i64 ((i+1:Nat):Int))from rfl,bS,P3 dP hi,bS,iw,bS,show A.an 0 (qX (lZ (eE r au l (i+1))))=some (.fm (iL (lZ (eE r au l (i+1)))))from rfl,bS,show A.az 0 2 (aF m)=some (.agg (aK m.key))from rfl,bS,OU dP,bS]
 simp only[bS]
 rw[Gh,bS,Qd,bS,iw,bS,Qt,bS,uQ,bS,wrap64 (by unfold aZ;omega),show(((i+1:Nat):Int) -1)=(i:Int) by omega,P3 dP (show i<l.length by omega),bS,iw,bS,show A.an 0 (qX (lZ (eE r au l i)))=some (.fm (iL (lZ (eE r au l i))))from rfl,bS,OU dP,bS,gB,bS,bK]
 unfold gn
 rw[show i+1-1=i by omega]
 congr 3
 exact decide_eq_decide.2 ⟨fun h q=>h q.symm,fun h q=>h q.symm⟩
omit hz
theorem ajC {β:Type} (u:bX) (n:U) (fF:Heap) (K:U→Option β):
 ((A.guard aD true ((A.deref (U.rp [dJ r au l]) fF).bind fun mz=>A.an 0 mz) aj).bind fun iQ=>
           (A.guard aD true (some (U.int .i64 u.number)) aj).bind fun gH=>
           (A.guard aD true (some n) aj).bind fun gW=>
           (A.guard aD true (A.sub gW aI) aj).bind fun dW=>
           (A.guard aD true (A.quiet (sY [iQ,gH,dW] fF) fF) aj).bind fun kT=>
           (A.pick aD kT aD).bind K)=K (.bool false):=by
 simp only[Lz,sQ,bS]
theorem Yc {β:Type} (u:bX) (n:U) (fF:Heap) (K:U→Option β):
 ((A.guard aD true ((A.deref (U.rp [dJ r au l]) fF).bind fun oK=>A.an 0 oK) aj).bind fun gX=>
           (A.guard aD true (some (sl 11 aM l)) aj).bind fun kj=>
           (A.guard aD true (some n) aj).bind fun jg=>
           (A.guard aD true (A.aN 11 kj jg) aj).bind fun kU=>
           (A.guard aD true ((A.deref kU fF).bind fun kQ=>A.az 0 11 kQ) aj).bind fun kV=>
           (A.guard aD true (some (U.int .i64 u.number)) aj).bind fun kn=>
           (A.guard aD true (A.quiet ((A.ij (.s 8) rA) [gX,kV,kn] fF) fF) aj).bind fun gY=>
           (A.guard aD true (A.aT gY) aj).bind fun gP=>
           (A.guard aD true (A.eql .i gP ah) aj).bind fun gI=>
           (A.pick aD gI aD).bind K)=K (.bool false):=by
 simp only[Lz,sQ,bS]
include hz
theorem ajD {β:Type} {u:bX} (hu:u∈r.units) {j:Nat} (hj:j<l.length) (fF:Heap) (K:U→Option β):
 ((A.guard br true ((A.deref (U.rp [dJ r au l]) fF).bind fun mz=>A.an 0 mz) aj).bind fun iQ=>
           (A.guard br true (some (U.int .i64 u.number)) aj).bind fun gH=>
           (A.guard br true (some (U.int .i64 ((j+1:Nat):Int))) aj).bind fun gW=>
           (A.guard br true (A.sub gW aI) aj).bind fun dW=>
           (A.guard br true (A.quiet (sY [iQ,gH,dW] fF) fF) aj).bind fun kT=>
           (A.pick br kT aD).bind K)=K (.bool (cG r au l j u.number)):=by
 have hlen:=(pX (jP hz).2).len
 simp only[gT,bS]
 rw[iw,bS,show A.an 0 [dJ r au l]=some (dJ r au l)from rfl,bS,uQ,bS,wrap64 (by unfold aZ;omega),show(((j+1:Nat):Int) -1)=(j:Int) by omega,quiet_of (PS hz hj hu fF),bS]
 simp only[sR,bS]
include hr
theorem ZV {i:Nat} {c:aO} (hc:l[i]? =some c) (u:Int) (σ:Heap):A.quiet ((A.ij (.s 8) rA) [dJ r au l,.agg (aM c),.int .i64 u] σ) σ=some (sl 8 aF (dA r l i u)):=by
 have hg:=pX (jP hz).2
 have:=(hg.mv c (List.mem_of_getElem? hc)).1
 rw[agc hr hz (by omega) u σ]
 unfold dA
 rw[hc]
theorem ajE {β:Type} (u:bX) {j:Nat} {c:aO} (hc:l[j]? =some c) (fF:Heap) (K:U→Option β):
 ((A.guard br true ((A.deref (U.rp [dJ r au l]) fF).bind fun oK=>A.an 0 oK) aj).bind fun gX=>
           (A.guard br true (some (sl 11 aM l)) aj).bind fun kj=>
           (A.guard br true (some (U.int .i64 (j:Int))) aj).bind fun jg=>
           (A.guard br true (A.aN 11 kj jg) aj).bind fun kU=>
           (A.guard br true ((A.deref kU fF).bind fun kQ=>A.az 0 11 kQ) aj).bind fun kV=>
           (A.guard br true (some (U.int .i64 u.number)) aj).bind fun kn=>
           (A.guard br true (A.quiet ((A.ij (.s 8) rA) [gX,kV,kn] fF) fF) aj).bind fun gY=>
           (A.guard br true (A.aT gY) aj).bind fun gP=>
           (A.guard br true (A.eql .i gP ah) aj).bind fun gI=>
           (A.pick br gI aD).bind K)=K (.bool (dA r l j u.number).isEmpty):=by
 simp only[gT,bS]
 rw[iw,bS,show A.an 0 [dJ r au l]=some (dJ r au l)from rfl,bS,dR hc,bS,iw,bS,uJ,bS,ZV hr hz hc u.number,bS,cu,bS,l5,bS]
 simp only[sR,bS]
 congr 2
 cases dA r l j u.number
 ·simp
 ·simp;omega
theorem afy {u:bX} (hu:u∈r.units) {n:Nat} (hn:n<l.length) (w0:U) (s:Heap):
 ∃q,A.loop (fun v55 fF=>
           (A.gtr (v55.getD 1 U.undef) ah).bind fun gb=>
           (A.guard gb true ((A.deref (U.rp [dJ r au l]) fF).bind fun mz=>A.an 0 mz) aj).bind fun iQ=>
           (A.guard gb true (some (U.int .i64 u.number)) aj).bind fun gH=>
           (A.guard gb true (some (v55.getD 1 U.undef)) aj).bind fun gW=>
           (A.guard gb true (A.sub gW aI) aj).bind fun dW=>
           (A.guard gb true (A.quiet (sY [iQ,gH,dW] fF) fF) aj).bind fun kT=>
           (A.pick gb kT aD).bind fun fH=>
           (A.guard fH true ((A.deref (U.rp [dJ r au l]) fF).bind fun oK=>A.an 0 oK) aj).bind fun gX=>
           (A.guard fH true (some (sl 11 aM l)) aj).bind fun kj=>
           (A.guard fH true (some (v55.getD 1 U.undef)) aj).bind fun jg=>
           (A.guard fH true (A.aN 11 kj jg) aj).bind fun kU=>
           (A.guard fH true ((A.deref kU fF).bind fun kQ=>A.az 0 11 kQ) aj).bind fun kV=>
           (A.guard fH true (some (U.int .i64 u.number)) aj).bind fun kn=>
           (A.guard fH true (A.quiet ((A.ij (.s 8) rA) [gX,kV,kn] fF) fF) aj).bind fun gY=>
           (A.guard fH true (A.aT gY) aj).bind fun gP=>
           (A.guard fH true (A.eql .i gP ah) aj).bind fun gI=>
           (A.pick fH gI aD).bind fun qz=>
           A.cond qz (
            (A.sub (v55.getD 1 U.undef) aI).bind fun qA=>
            some (AX.normal,[(v55.getD 0 U.undef),qA],fF)) (
            some (AX.exit 4,[(v55.getD 0 U.undef),(v55.getD 1 U.undef)],fF))) [w0,.int .i64 (n:Int)] s=some q∧q=(.exit 4,[w0,.int .i64 (pH (fun j=>cG r au l j u.number) (fun j=>dA r l j u.number) n:Nat)],s):=by
 have hlen:=(pX (jP hz).2).len
 refine WM (fun m v w=>v=[w0,.int .i64 (m:Int)]∧w=s∧m<l.length∧pH (fun j=>cG r au l j u.number) (fun j=>dA r l j u.number) m=pH (fun j=>cG r au l j u.number) (fun j=>dA r l j u.number) n) ?_ ⟨rfl,rfl,hn,rfl⟩
 rintro m v w ⟨rfl,rfl,hm,hF⟩
 simp only[List.getD_cons_zero,List.getD_cons_succ]
 rw[B7,bS]
 cases m with
 |zero=>
  refine .inr ?_
  rw[decide_eq_false (by omega),ajC,Yc,eC]
  exact⟨_,rfl,by simp,by rw[←hF];rfl⟩
 |succ j=>
  rw[decide_eq_true (by omega),ajD hz hu (by omega)]
  rw[pH]at hF
  cases hd:cG r au l j u.number
  ·refine .inr ?_
   rw[Yc,eC]
   rw[hd,Bool.false_and,if_neg (by decide)]at hF
   exact⟨_,rfl,by simp,by rw[←hF]⟩
  ·rw[ajE hr hz u (List.getElem?_eq_getElem hm)]
   rw[hd,Bool.true_and]at hF
   cases ht:(dA r l (j+1) u.number).isEmpty
   ·refine .inr ?_
    rw[ht,if_neg (by decide)]at hF
    rw[eC]
    exact⟨_,rfl,by simp,by rw[←hF]⟩
   ·refine .inl ?_
    rw[ht,if_pos rfl]at hF
    rw[fO,uQ,bS,wrap64 (by unfold aZ;omega),show(((j+1:Nat):Int) -1)=(j:Int) by omega]
    exact⟨j,_,_,Nat.lt_succ_self j,rfl,rfl,rfl,by omega,hF⟩
theorem ahE {β:Type} {u:bX} (hu:u∈r.units) {i:Nat} (hi:i+1<l.length) (gE:Heap) {Y2 Y3:Option U} (h1:Y2=some (dJ r au l)) (h2:Y3=some (.int .i64 ((i+1:Nat):Int))) (K:U→Option β):
 ((A.guard (U.bool (!cG r au l i u.number)) false Y2 aj).bind fun x34=>
       (A.guard (U.bool (!cG r au l i u.number)) false (some (U.int .i64 u.number)) aj).bind fun fB=>
       (A.guard (U.bool (!cG r au l i u.number)) false Y3 aj).bind fun cV=>
       (A.guard (U.bool (!cG r au l i u.number)) false (A.quiet (sY [x34,fB,cV] gE) gE) aj).bind fun x38=>
       (A.pick (U.bool (!cG r au l i u.number)) br x38).bind K)=K (.bool (!cG r au l i u.number||cG r au l (i+1) u.number)):=by
 subst h1;subst h2
 cases cG r au l i u.number
 ·simp only[Bool.not_false,RH,sR,bS,Bool.true_or]
 ·simp only[Bool.not_true,gF,bS]
  rw[quiet_of (PS hz hi hu gE),bS]
  simp only[sQ,bS,Bool.false_or]
theorem aiO {σ s:Heap} {o:U} {b i:Nat} (hi:i+1<l.length) {M:List jk} (hM:M.length≤200000) (K:Hs aX σ s (blk b (.box [.int .i64 ((i+1:Nat):Int)])*(Sl (fl cZ) 3 o M*emp))):
 ∃ q, A.loop (fun cC gE =>
      (A.lss (cC.getD 2 U.undef) (U.int .i64 (r.units.length:Int))).bind fun cg=>
      A.cond cg (
       (A.aN 4 (sl 4 bQ r.units) (cC.getD 2 U.undef)).bind fun bI=>
       ((A.deref bI gE).bind fun iu=>A.az 0 4 iu).bind fun bB=>
       (A.cells 4 bB).bind fun iV=>
       (A.splice 0 iV [ah,aW,ah,ah]).bind fun eH=>
       (A.an 0 eH).bind fun x25=>
       ((A.deref (U.rp [dJ r au l]) gE).bind fun jE=>A.an 0 jE).bind fun cR=>
       ((A.deref (U.op b 0) gE).bind fun mu=>A.an 0 mu).bind fun x29=>
       (A.sub x29 aI).bind fun cO=>
       (sY [cR,x25,cO] gE).bind fun dQ=>
       (A.not dQ.1).bind fun x32=>
       (A.guard x32 false ((A.deref (U.rp [dJ r au l]) dQ.2).bind fun qV=>A.an 0 qV) aj).bind fun x34=>
       (A.guard x32 false (some x25) aj).bind fun fB=>
       (A.guard x32 false ((A.deref (U.op b 0) dQ.2).bind fun jF=>A.an 0 jF) aj).bind fun cV=>
       (A.guard x32 false (A.quiet (sY [x34,fB,cV] dQ.2) dQ.2) aj).bind fun x38=>
       (A.pick x32 br x38).bind fun gy=>
       A.cond gy (
        (A.add (cC.getD 2 U.undef) aI).bind fun fG=>
        some (AX.normal,[(cC.getD 0 U.undef),(cC.getD 1 U.undef),fG],dQ.2)) (
        ((A.deref (U.rp [dJ r au l]) dQ.2).bind fun nw=>A.an 0 nw).bind fun fZ=>
        ((A.deref (U.op b 0) dQ.2).bind fun mw=>A.an 0 mw).bind fun dH=>
        (A.aN 11 (sl 11 aM l) dH).bind fun ew=>
        ((A.deref ew dQ.2).bind fun qj=>A.az 0 11 qj).bind fun dK=>
        (A.quiet ((A.ij (.s 8) rA) [fZ,dK,x25] dQ.2) dQ.2).bind fun gG=>
        (A.quiet (E3 (A.tab (fun _ _=>none) [(234,uy),(234,uy)]) [gG,(U.fn 234 [(U.rp [dJ r au l]),(U.op b 0)])] dQ.2) dQ.2).bind fun ig=>
        (A.not ig).bind fun fC=>
        A.cond fC (
         (A.add (cC.getD 2 U.undef) aI).bind fun ef=>
         some (AX.normal,[(cC.getD 0 U.undef),(cC.getD 1 U.undef),ef],dQ.2)) (
         ((A.deref (U.op b 0) dQ.2).bind fun Cy=>A.an 0 Cy).bind fun kg=>
         (A.sub kg aI).bind fun ga=>
         (A.loop (fun v55 fF=>
           (A.gtr (v55.getD 1 U.undef) ah).bind fun gb=>
           (A.guard gb true ((A.deref (U.rp [dJ r au l]) fF).bind fun mz=>A.an 0 mz) aj).bind fun iQ=>
           (A.guard gb true (some x25) aj).bind fun gH=>
           (A.guard gb true (some (v55.getD 1 U.undef)) aj).bind fun gW=>
           (A.guard gb true (A.sub gW aI) aj).bind fun dW=>
           (A.guard gb true (A.quiet (sY [iQ,gH,dW] fF) fF) aj).bind fun kT=>
           (A.pick gb kT aD).bind fun fH=>
           (A.guard fH true ((A.deref (U.rp [dJ r au l]) fF).bind fun oK=>A.an 0 oK) aj).bind fun gX=>
           (A.guard fH true (some (sl 11 aM l)) aj).bind fun kj=>
           (A.guard fH true (some (v55.getD 1 U.undef)) aj).bind fun jg=>
           (A.guard fH true (A.aN 11 kj jg) aj).bind fun kU=>
           (A.guard fH true ((A.deref kU fF).bind fun kQ=>A.az 0 11 kQ) aj).bind fun kV=>
           (A.guard fH true (some x25) aj).bind fun kn=>
           (A.guard fH true (A.quiet ((A.ij (.s 8) rA) [gX,kV,kn] fF) fF) aj).bind fun gY=>
           (A.guard fH true (A.aT gY) aj).bind fun gP=>
           (A.guard fH true (A.eql .i gP ah) aj).bind fun gI=>
           (A.pick fH gI aD).bind fun qz=>
           A.cond qz (
            (A.sub (v55.getD 1 U.undef) aI).bind fun qA=>
            some (AX.normal,[(v55.getD 0 U.undef),qA],fF)) (
            some (AX.exit 4,[(v55.getD 0 U.undef),(v55.getD 1 U.undef)],fF))) [(cC.getD 0 U.undef),ga] dQ.2).bind fun rX=>
         bif rX.1==AX.exit 4 then(
          (A.aN 11 (sl 11 aM l) (rX.2.1.getD 1 U.undef)).bind fun sj=>
          (A.bA 0 sj).bind fun oR=>
          ((A.deref oR rX.2.2).bind fun zx=>A.an 0 zx).bind fun nE=>
          ((A.deref (U.op b 0) rX.2.2).bind fun ue=>A.an 0 ue).bind fun qB=>
          (A.aN 11 (sl 11 aM l) qB).bind fun oS=>
          (A.bA 0 oS).bind fun ko=>
          ((A.deref ko rX.2.2).bind fun CF=>A.an 0 CF).bind fun sk=>
          ((((A.cell x25).bind fun v=>some [v]).bind fun Rz=>(A.splice 0 Rz [ah,ah,ah]).bind fun zy=>((A.cell nE).bind fun v=>some [v]).bind fun RA=>(A.splice 1 RA zy).bind fun RB=>((A.cell sk).bind fun v=>some [v]).bind fun G9=>(A.splice 2 G9 RB).bind fun He=>some He).bind fun cs=>some (U.agg cs)).bind fun x96=>
          (((A.cells 3 x96).bind fun CG=>(A.splice 0 CG [ah,ah,ah]).bind fun vS=>some vS).bind fun cs=>some (U.sl 3 (chunks 3 1 cs))).bind fun x99=>
          (A.append 3 (140737488355328 / 24) (cC.getD 1 U.undef) x99 rX.2.2).bind fun tT=>
          (A.add (cC.getD 2 U.undef) aI).bind fun x101=>
          some (AX.normal,[(rX.2.1.getD 0 U.undef),tT.1,x101],tT.2))else
         none))) (
       some (AX.exit 2,[(cC.getD 0 U.undef),(cC.getD 1 U.undef),(cC.getD 2 U.undef)],gE))) [.lbx (aP r),o,.int .i64 0] s=some q∧
  ∃o' w s',q=(.exit 2,[.lbx (aP r),o',w],s')∧Hs aX σ s' (blk b (.box [.int .i64 ((i+1:Nat):Int)])*(Sl (fl cZ) 3 o' (M++r.units.flatMap (kO (cG r au l) (dA r l) (gn r au l) l (i+1)))*emp)):=by
 have dP:=(jP hz).1
 have hg:=pX (jP hz).2
 have hlen:=hg.len
 have ET:=uC dP
 refine mY r.units (fun j v s=>∃o,v=[.lbx (aP r),o,.int .i64 (j:Int)]∧Hs aX σ s (blk b (.box [.int .i64 ((i+1:Nat):Int)])*(Sl (fl cZ) 3 o (M++(r.units.take j).flatMap (kO (cG r au l) (dA r l) (gn r au l) l (i+1)))*emp))) ?_ ?_ ⟨o,rfl,by simpa using K⟩
 ·rintro j u v s hx ⟨o,rfl,K⟩
  have hj:=(List.getElem?_eq_some_iff.1 hx).1
  have hu:=List.mem_of_getElem? hx
  have db:A.deref (.op b 0) s=some [.int .i64 ((i+1:Nat):Int)]:=xu K 0
  simp only[List.getD_cons_zero,List.getD_cons_succ]
  rw[eR hx,bS,fO,dR hx,bS,iw,bS,jA,bS,jx,bS,jh u _ rfl,bS,show A.an 0 (bQ u)=some (.int .i64 u.number)from rfl,bS,iw,bS,show A.an 0 [dJ r au l]=some (dJ r au l)from rfl,bS,db,bS,show A.an 0 [.int .i64 ((i+1:Nat):Int)]=some (.int .i64 ((i+1:Nat):Int))from rfl,bS,uQ,bS,wrap64 (by unfold aZ;omega),show(((i+1:Nat):Int) -1)=(i:Int) by omega,PS hz (show i<l.length by omega) hu s,bS]
  simp only
  rw[show A.not (.bool (cG r au l i u.number))=some (.bool (!cG r au l i u.number))from rfl,bS,ahE hr hz hu hi s (by first|rfl|(rw[iw];rfl)) (by first|rfl|(rw[db];rfl))]
  have Qj:=UN (f:=kO (cG r au l) (dA r l) (gn r au l) l (i+1)) hx
  have hrl:=JP (l:=l) (cG r au l) (dA r l) (gn r au l) (i+1) (r.units.take j)
  have hone:∀{X:List jk},kO (cG r au l) (dA r l) (gn r au l) l (i+1) u=X→(r.units.take (j+1)).flatMap (kO (cG r au l) (dA r l) (gn r au l) l (i+1))=(r.units.take j).flatMap (kO (cG r au l) (dA r l) (gn r au l) l (i+1))++X:=fun e=>by rw[Qj,e]
  cases hd:(!cG r au l i u.number||cG r au l (i+1) u.number)
  case true=>
   rw[fO,dB hx (by unfold aY;omega),bS]
   have:=hone (X:=[]) (by unfold kO;rw[show i+1-1=i by omega,hd,if_pos rfl])
   rw[List.append_nil]at this
   exact⟨_,_,rfl,o,rfl,by rw[this];exact K⟩
  have hc:l[i+1]? =some l[i+1]:=List.getElem?_eq_getElem hi
  generalize l[i+1]=c at hc
  have hcm:=(hg.mv c (List.mem_of_getElem? hc)).1
  have Be:(dA r l (i+1) u.number).length≤100000:=by
   unfold dA;rw[hc]
   have:=List.length_filter_le (fun m:aS=>decide (m.key.unit=u.number)&&decide (¬(fP r m.key=1))) c.aJ
   unfold pE
   simp only
   omega
  have RQ:=Z6 (A.tab (fun _ _=>none) [(234,uy),(234,uy)]) (dA r l (i+1) u.number) (by unfold aY;omega) 234 [.rp [dJ r au l],.op b 0] (fun m=>gn r au l (i+1) m.key) s
   (fun x _=>akn K (dL (gd _ _) qE) (pY (Ai _)) rfl (Yd (dL (PW r au l) qE)) rfl rfl (afL hz hi x []))
  rw[eC,iw,bS,show A.an 0 [dJ r au l]=some (dJ r au l)from rfl,bS,db,bS,show A.an 0 [.int .i64 ((i+1:Nat):Int)]=some (.int .i64 ((i+1:Nat):Int))from rfl,bS,dR hc,bS,iw,bS,uJ,bS,ZV hr hz hc u.number,bS,quiet_of RQ,bS,show A.not (.bool ((dA r l (i+1) u.number).any fun m=>gn r au l (i+1) m.key))=some (.bool (!((dA r l (i+1) u.number).any fun m=>gn r au l (i+1) m.key)))from rfl,bS]
  cases ha:(!((dA r l (i+1) u.number).any fun m=>gn r au l (i+1) m.key))
  case true=>
   rw[fO,dB hx (by unfold aY;omega),bS]
   have:=hone (X:=[]) (by unfold kO;rw[show i+1-1=i by omega,hd,if_neg (by decide),ha,if_pos rfl])
   rw[List.append_nil]at this
   exact⟨_,_,rfl,o,rfl,by rw[this];exact K⟩
  rw[eC,bS,uQ,bS,wrap64 (by unfold aZ;omega),show(((i+1:Nat):Int) -1)=(i:Int) by omega]
  refine Bf (mj (afy hr hz hu (show i<l.length by omega) _ s) ?_)
  rintro q rfl
  simp only[qZ,List.getD_cons_zero,List.getD_cons_succ]
  have hfl:pH (fun j=>cG r au l j u.number) (fun j=>dA r l j u.number) i≤i:=J6 _ _ i
  have B3:=hone (by unfold kO;rw[show i+1-1=i by omega,hd,if_neg (by decide),ha,if_neg (by decide)])
  generalize pH (fun j=>cG r au l j u.number) (fun j=>dA r l j u.number) i=a at hfl B3
  have hca:l[a]? =some l[a]:=List.getElem?_eq_getElem (by omega)
  generalize l[a]=ca at hca
  rw[hc,hca]at B3
  rw[dR hca,bS,show A.bA 0 (.rp (aM ca))=some (.rp (aM ca))from rfl,bS,iw,bS,show A.an 0 (aM ca)=some (.int .i64 ca.number)from rfl,bS,db,bS,show A.an 0 [.int .i64 ((i+1:Nat):Int)]=some (.int .i64 ((i+1:Nat):Int))from rfl,bS,dR hc,bS,show A.bA 0 (.rp (aM c))=some (.rp (aM c))from rfl,bS,iw,bS,show A.an 0 (aM c)=some (.int .i64 c.number)from rfl,bS,Wb,bS,Va,bS]
  obtain⟨o',s',e3,K2⟩:=X7 ⟨u.number,ca.number,c.number⟩ (by rw[List.length_append];rw[List.length_take]at hrl;omega) (hs_eq (show _=Sl (fl cZ) 3 o (M++(r.units.take j).flatMap (kO (cG r au l) (dA r l) (gn r au l) l (i+1)))*(blk b (.box [.int .i64 ((i+1:Nat):Int)])*emp) by ac_rfl) K)
  rw[e3,bS,dB hx (by unfold aY;omega),bS]
  refine⟨_,rfl,_,_,rfl,o',rfl,?_⟩
  rw[B3,←List.append_assoc]
  exact hs_eq (by ac_rfl) K2
 ·rintro v s ⟨o,rfl,K⟩
  simp only[List.getD_cons_zero,List.getD_cons_succ]
  rw[eO,bS,eC]
  refine⟨_,rfl,by simp,o,_,_,rfl,?_⟩
  rw[List.take_length]at K
  exact K
theorem WQ (lv:U) (hlv:l≠[]→lv=sl 1 qX (lW r au l l.length)) (σ:Heap):Fb [xA r au l lv,.agg (aP r),sl 11 aM l] σ=some (sl 3 cZ (ji r au l),σ):=by
 have dP:=(jP hz).1
 have hg:=pX (jP hz).2
 have hlen:=hg.len
 have ET:=uC dP
 have run:∃b,IP (xA r au l lv) (.agg (aP r)) (sl 11 aM l) σ=some b∧b.2=σ∧A.nn (.s 3) b.1=sl 3 cZ (ji r au l):=by
  unfold IP
  have K0:=yI (b:=aV.box [ah]) (AB (B:=aX) σ) trivial
  obtain⟨s1,e1,K1⟩:=Gd (o:=0) (new:=[U.int .i64 1]) (cs':=[U.int .i64 1]) K0 rfl
  rw[show(((A.cell (xA r au l lv)).bind fun v=>some [v]).bind fun cs=>some (U.rp cs))=some (.rp [xA r au l lv])from rfl,bS,show A.cells 2 (.agg (aP r))=some (aP r)from rfl,bS,show((A.cell aI).bind fun v=>some [v])=some [U.int .i64 1]from rfl,bS,e1,bS]
  refine mj (Q:=fun q=>∃o w,q.1=.exit 0∧q.2.1=[.lbx (aP r),o,w]∧Hs aX σ q.2.2 (Sl (fl cZ) 3 o (ji r au l)*emp)) (mY (l.drop 1) (fun i v s=>∃o b,v=[.lbx (aP r),o,.op b 0]∧Hs aX σ s (blk b (.box [.int .i64 ((i+1:Nat):Int)])*(Sl (fl cZ) 3 o (td (cG r au l) (dA r l) (gn r au l) r.units l i)*emp))) ?_ ?_ ⟨.aH,_,rfl,hs_eq (by unfold td;ac_rfl) (qx (E:=fl cZ) (sz:=3) K1 (.inl rfl))⟩) ?_
  ·rintro i c v s hx ⟨o,b,rfl,K⟩
   rw[List.getElem?_drop,Nat.add_comm]at hx
   have hi:=(List.getElem?_eq_some_iff.1 hx).1
   have hne:l≠[]:=fun e=>by subst e;simp at hi
   rw[hlv hne]
   have db:A.deref (.op b 0) s=some [.int .i64 ((i+1:Nat):Int)]:=xu K 0
   simp only[List.getD_cons_zero,List.getD_cons_succ]
   rw[db,bS,show A.an 0 [.int .i64 ((i+1:Nat):Int)]=some (.int .i64 ((i+1:Nat):Int))from rfl,bS,cu,bS,vC,bS,decide_eq_true (by omega),fO,show((A.lb (.lbx (aP r))).bind fun _=>some 1)=some 1 from rfl,bS,show((A.lb (.lbx (aP r))).bind fun eH=>A.an 1 eH)=some (sl 4 bQ r.units)from rfl,bS,cu,bS]
   have hml:=Dn (l:=l) (cG r au l) (dA r l) (gn r au l) r.units i
   have uj:i*r.units.length≤300*400:=Nat.mul_le_mul (by omega) ET
   refine Bf (mj (aiO hr hz hi (by omega) K) ?_)
   rintro q ⟨o',w,s',rfl,K2⟩
   have db':A.deref (.op b 0) s'=some [.int .i64 ((i+1:Nat):Int)]:=xu K2 0
   have K3:=yI (b:=aV.box [ah]) K2 trivial
   obtain⟨s2,e2,K4⟩:=Gd (o:=0) (new:=[U.int .i64 ((i+1:Nat):Int)]) (cs':=[U.int .i64 ((i+1:Nat):Int)]) K3 rfl
   obtain⟨s3,e3,K5⟩:=Gd (o:=0) (new:=[U.int .i64 ((i+1+1:Nat):Int)]) (cs':=[U.int .i64 ((i+1+1:Nat):Int)]) K4 rfl
   have dn:A.deref (.op s'.length 0) s2=some [.int .i64 ((i+1:Nat):Int)]:=xu K4 0
   simp only[qZ,List.getD_cons_zero,List.getD_cons_succ]
   rw[db',bS,show A.an 0 [.int .i64 ((i+1:Nat):Int)]=some (.int .i64 ((i+1:Nat):Int))from rfl,bS,show((A.cell (U.int .i64 ((i+1:Nat):Int))).bind fun v=>some [v])=some [U.int .i64 ((i+1:Nat):Int)]from rfl,bS,e2,bS,dn,bS,show A.an 0 [.int .i64 ((i+1:Nat):Int)]=some (.int .i64 ((i+1:Nat):Int))from rfl,bS,B5 (by omega),bS,show((A.cell (U.int .i64 ((i+1+1:Nat):Int))).bind fun v=>some [v])=some [U.int .i64 ((i+1+1:Nat):Int)]from rfl,bS,e3,bS]
   refine⟨_,rfl,_,_,rfl,o',_,rfl,?_⟩
   rw[Ta]
   have K6:=jH (hs_eq (show _=blk b (.box [.int .i64 ((i+1:Nat):Int)])*(blk s'.length (.box [.int .i64 ((i+1+1:Nat):Int)])*(Sl (fl cZ) 3 o' (td (cG r au l) (dA r l) (gn r au l) r.units l i++r.units.flatMap (kO (cG r au l) (dA r l) (gn r au l) l (i+1)))*emp)) by ac_rfl) K5)
   exact K6
  ·rintro v s ⟨o,b,rfl,K⟩
   have db:A.deref (.op b 0) s=some [.int .i64 (((l.drop 1).length+1:Nat):Int)]:=xu K 0
   simp only[List.getD_cons_zero,List.getD_cons_succ]
   rw[db,bS,show A.an 0 [.int .i64 (((l.drop 1).length+1:Nat):Int)]=some (.int .i64 (((l.drop 1).length+1:Nat):Int))from rfl,bS,cu,bS,vC,bS,decide_eq_false (by rw[List.length_drop];omega),eC]
   rw[List.length_drop]at K
   exact⟨_,rfl,by simp,o,_,rfl,rfl,jH K⟩
  ·rintro⟨x,v,s⟩ ⟨o,w,h1,h2,K⟩
   simp only at h1 h2 K
   subst h1;subst h2
   simp only[qZ,List.getD_cons_zero,List.getD_cons_succ]
   obtain⟨v',j1,j2⟩:=Pm VU K
   exact⟨_,j1,rfl,j2⟩
 obtain⟨⟨b,s⟩,h1,h2,h3⟩:=run
 simp only at h2 h3
 subst h2
 refine wrap_eq rfl ?_ h3
 rw[show A.bY [.k,lJ,(.e 11 eZ)] [xA r au l lv,.agg (aP r),sl 11 aM l]=[xA r au l lv,.agg (aP r),sl 11 aM l]from bH (jK _) (bH (oH (bH (gR (fun _=>(bH rfl (bH rfl (bH (gR (fun _=>rfl) _) kE)))) _) (bH rfl kE))) (bH (gR (fun _=>rfl) _) rfl))]
 exact h1
end
end
section
def strip (m:aS):aS:=⟨m.key,m.value,m.release,false,0,0⟩
def A2 (ms:List aS) (k:aA):List aS:=ms.eraseIdx (dN ms k)
def mL (ms T:List aS):List aS:=T.foldl (fun a m=>kF a (strip m)) ms
def rI (ms T:List aS):List aS:=T.foldl (fun a m=>A2 a m.key) ms
def jJ (T ms:List aS):List aS:=ms.filter fun m=>!iS T m.key
def xY (f t:Nat) (o:List aO) (m:aS):List aO:=dX (dX o t (A2 · m.key)) f (kF · (strip m))
def sC (r:bu) (o:List aO) (k:jk):List aO:=(dA r o (gA o k.to) k.unit).foldl (xY (gA o k.qn) (gA o k.to)) o
def Qr (r:bu) (o:List aO) (k:jk):List aO:=dX (dX o (gA o k.to) (jJ (dA r o (gA o k.to) k.unit))) (gA o k.qn) (mL · (dA r o (gA o k.to) k.unit))
def BN (r:bu) (au:List bO) (l:List aO):List aO:=(ji r au l).foldl (sC r) l
def uD (r:bu) (au:List bO) (l:List aO):List aO×Int:=if ¬(jT r au l=0)then([],jT r au l)else KW (BN r au l)
theorem OW {f t:Nat} (h:t≠f):∀(T:List aS) (o:List aO),T.foldl (xY f t) o=dX (dX o t (rI · T)) f (mL · T)
 |[],o=>by
  rw[O3 (i:=f) (g:=(mL · [])) fun _ _=>rfl,O3 (i:=t) (g:=(rI · [])) fun _ _=>rfl];rfl
 |m::T,o=>by
  rw[List.foldl_cons,OW h T,xY,aeZ _ h.symm,Ox,Ox];rfl
theorem Wy {k:aA}:∀{ms:List aS},iM ms→iS ms k=true→A2 ms k=ms.filter fun m=>!decide (m.key=k)
 |[],_,h=>by simp [iS]at h
 |x::xs,hs,h=>by
  have hs':=List.pairwise_cons.1 hs
  by_cases hl:dZ x.key k=true
  ·have hne:¬x.key=k:=fun e=>by rw[e,xk]at hl;cases hl
   have hx:iS xs k=true:=by simpa [iS,hne]using h
   have ih:=Wy hs'.2 hx
   unfold A2 dN at ih ⊢
   rw[List.takeWhile_cons_of_pos (p:=fun m:aS=>dZ m.key k) hl,List.length_cons,List.eraseIdx_cons_succ,ih,List.filter_cons_of_pos (by simp [hne])]
  ·have hall:∀y∈xs,¬y.key=k:=fun y hy e=>hl (e▸hs'.1 y hy)
   have he:x.key=k:=by
    unfold iS at h
    rw[List.any_cons,Bool.or_eq_true]at h
    rcases h with h|h
    ·exact of_decide_eq_true h
    ·obtain⟨y,hy,hk⟩:=List.any_eq_true.1 h
     exact absurd (of_decide_eq_true hk) (hall y hy)
   unfold A2 dN
   rw[List.takeWhile_cons_of_neg (p:=fun m:aS=>dZ m.key k) hl,List.length_nil,List.eraseIdx_cons_zero,List.filter_cons_of_neg (by simp [he])]
   symm
   rw[List.filter_eq_self]
   intro y hy
   simp [hall y hy]
theorem Ph:∀{T ms:List aS},iM ms→(T.map (·.key)).Nodup→(∀m∈T,iS ms m.key=true)→rI ms T=jJ T ms
 |[],ms,_,_,_=>by
  unfold rI jJ
  symm
  rw[List.foldl_nil,List.filter_eq_self]
  intro y _
  rfl
 |m::T,ms,hs,hd,h=>by
  have hd':=List.nodup_cons.1 hd
  have e:=Wy hs (h m (by simp))
  have ih:=Ph (T:=T) (ms:=A2 ms m.key) (by rw[e];exact hs.sublist List.filter_sublist) hd'.2 (fun y hy=>by
   rw[e]
   obtain⟨z,hz,hk⟩:=List.any_eq_true.1 (h y (by simp [hy]))
   refine List.any_eq_true.2 ⟨z,List.mem_filter.2 ⟨hz,?_⟩,hk⟩
   have hk:=of_decide_eq_true hk
   have:¬z.key=m.key:=fun q=>hd'.1 (List.mem_map.2 ⟨y,hy,by rw[←hk,q]⟩)
   simp [this])
  show rI (A2 ms m.key) T=_
  rw[ih,e]
  unfold jJ
  rw[List.filter_filter]
  apply List.filter_congr
  intro x _
  unfold iS
  rw[List.any_cons,Bool.not_or,Bool.and_comm]
  congr 2
  exact decide_eq_decide.2 ⟨fun q=>q.symm,fun q=>q.symm⟩
theorem Wm {ms:List aS} (h:iM ms):(ms.map (·.key)).Nodup:=by
 refine List.pairwise_map.2 (h.imp fun{a b} q e=>?_)
 rw[e,xk]at q;cases q
theorem Xc:∀{l:List Nat} {i a y:Nat},l[i]? =some y→(l.set i a).sum+y=l.sum+a
 |[],_,_,_,h=>by simp at h
 |x::l,0,a,y,h=>by
  simp only[List.getElem?_cons_zero,Option.some.injEq]at h
  subst h
  simp only[List.set_cons_zero,List.sum_cons];omega
 |x::l,i+1,a,y,h=>by
  rw[List.getElem?_cons_succ]at h
  have:=Xc (a:=a) h
  simp only[List.set_cons_succ,List.sum_cons];omega
theorem Xu:∀{l:List Nat} {y:Nat},y∈l→y≤l.sum
 |x::l,y,h=>by
  rw[List.sum_cons]
  simp only[List.mem_cons]at h
  rcases h with rfl|h
  ·omega
  ·have:=Xu h;omega
def xQ (o:List aO):Nat:=(o.map (·.aJ.length)).sum
theorem Oy {o:List aO} {i:Nat} {x:aO} (hx:o[i]? =some x) (g:List aS→List aS):xQ (dX o i g)+x.aJ.length=xQ o+(g x.aJ).length:=by
 unfold xQ dX
 rw[hx]
 simp only[List.map_set]
 exact Xc (by rw[List.getElem?_map,hx];rfl)
theorem OS {o:List aO} {c:aO} (h:c∈o):c.aJ.length≤xQ o:=Xu (List.mem_map.2 ⟨c,h,rfl⟩)
theorem afN (o:List aO) (i:Nat) (g:List aS→List aS):(dX o i g).map (·.number)=o.map (·.number):=by
 apply List.ext_getElem?
 intro k
 rw[List.getElem?_map,List.getElem?_map,tg]
 split
 ·cases o[k]? <;>rfl
 ·rfl
theorem Kb (o:List aO) (n:Int):gA o n=((o.map (·.number)).takeWhile fun a=>decide (a<n)).length:=by
 unfold gA
 rw[List.takeWhile_map,List.length_map];rfl
theorem J7 (o:List aO) (n:Int):tM o n=(o.map (·.number)).any fun a=>decide (a=n):=by
 unfold tM
 rw[List.any_map];rfl
structure nU (l o : List aO) : Prop where
 num:o.map (·.number)=l.map (·.number)
 pV:∀c∈o,iM c.aJ
 sum:xQ o≤600000
 ok:Rn o
section
variable {l o : List aO}
theorem nU.len (h:nU l o):o.length=l.length:=by have:=congrArg List.length h.num;simpa using this
theorem nU.small (h:nU l o) {c:aO} (hc:c∈o):c.aJ.length≤600000:=Nat.le_trans (OS hc) h.sum
theorem nU.Ye (h:nU l o) (hg:Good l):Gi o:=by
 refine⟨by rw[h.len];exact hg.len,fun c hc=>?_,?_⟩
 ·have:c.number∈l.map (·.number):=h.num▸List.mem_map.2 ⟨c,hc,rfl⟩
  obtain⟨d,hd,e⟩:=List.mem_map.1 this
  rw[←e];exact hg.num d hd
 ·have:=List.pairwise_map.2 hg.pV
  rw[←h.num]at this
  exact List.pairwise_map.1 this
theorem nU.refl (hg:Good l) (ho:Rn l):nU l l:=by
 refine⟨rfl,fun c hc=>(hg.mv c hc).2,?_,ho⟩
 have key:∀(m:List aO),(∀c∈m,c.aJ.length≤2000)→xQ m≤m.length*2000:=by
  intro m
  induction m with
  |nil=>intro _;exact Nat.le_refl _
  |cons c m ih=>
   intro h
   have h1:=h c (by simp)
   have h2:=ih fun x hx=>h x (by simp [hx])
   unfold xQ at h2 ⊢
   rw[List.map_cons,List.sum_cons,List.length_cons];omega
 have:=key l fun c hc=>(hg.mv c hc).1
 have h3:=hg.len
 omega
theorem nU.dX (h:nU l o) {i:Nat} {x:aO} (hx:o[i]? =some x) {g:List aS→List aS} (hs:iM (g x.aJ)) (hm:∀m∈g x.aJ,tv m) (alL:xQ o+(g x.aJ).length≤600000+x.aJ.length):nU l (dX o i g):=by
 have e:=Oy hx g
 have hl:=OS (List.mem_of_getElem? hx)
 refine⟨by rw[afN];exact h.num,fun c hc=>?_,by omega,?_⟩
 ·unfold Go.Proofs.YtphgchakmkankaaGreat.dX at hc
  rw[hx]at hc
  rcases List.mem_or_eq_of_mem_set hc with hc|rfl
  ·exact h.pV c hc
  ·exact hs
 ·intro c hc
  unfold Go.Proofs.YtphgchakmkankaaGreat.dX at hc
  rw[hx]at hc
  rcases List.mem_or_eq_of_mem_set hc with hc|rfl
  ·exact h.ok c hc
  ·obtain⟨a1,a2,a3,a4,a5,a6,a7,a8,_⟩:=h.ok x (List.mem_of_getElem? hx)
   have:=h.sum
   exact⟨a1,a2,a3,a4,a5,a6,a7,a8,by unfold aY;show(g x.aJ).length≤_;omega,hm⟩
theorem afO {m:aS} (h:tv m):tv (strip m):=⟨h.1,h.2.1,Yl,Yl⟩
theorem Px (h:nU l o) {i:Nat} {x:aO} (hx:o[i]? =some x) {m:aS} (hm:m∈x.aJ):tv m:=(h.ok x (List.mem_of_getElem? hx)).2.2.2.2.2.2.2.2.2 m hm
theorem Xx (h:nU l o) {f t:Nat} (hne:t≠f) {c d:aO} (hc:o[t]? =some c) (hd:o[f]? =some d) {T:List aS} (hT:T.Sublist c.aJ):
  nU l (T.foldl (xY f t) o)∧(T.foldl (xY f t) o)[t]? =some {c with aJ:=jJ T c.aJ}∧(T.foldl (xY f t) o)[f]? =some {d with aJ:=mL d.aJ T}:=by
 have hs:=h.pV c (List.mem_of_getElem? hc)
 have vV:iM T:=hs.sublist hT
 have Hy:rI c.aJ T=jJ T c.aJ:=Ph hs (Wm vV) fun m hm=>List.any_eq_true.2 ⟨m,hT.subset hm,by simp⟩
 have hlen:(jJ T c.aJ).length+T.length=c.aJ.length:=by
  have key:∀{T ms:List aS},T.Sublist ms→iM ms→(jJ T ms).length+T.length=ms.length:=by
   intro T ms hsub
   induction hsub with
   |slnil=>intro _;rfl
   |@cons l₁ l₂ a hsub ih=>
    intro hs
    have hs':=List.pairwise_cons.1 hs
    have ih:=ih hs'.2
    unfold jJ at ih ⊢
    have hno:iS l₁ a.key=false:=by
     rw[Bool.eq_false_iff];intro q
     obtain⟨z,hz,hk⟩:=List.any_eq_true.1 q
     have:=hs'.1 z (hsub.subset hz)
     rw[of_decide_eq_true hk,xk]at this;cases this
    rw[List.filter_cons_of_pos (by simp [hno])]
    simp only[List.length_cons];omega
   |@cons_cons l₁ l₂ a hsub ih=>
    intro hs
    have hs':=List.pairwise_cons.1 hs
    have ih:=ih hs'.2
    unfold jJ at ih ⊢
    rw[List.filter_cons_of_neg (by simp [iS])]
    have e:l₂.filter (fun m=>!iS (a::l₁) m.key)=l₂.filter (fun m=>!iS l₁ m.key):=by
     apply List.filter_congr
     intro x hx
     have:¬a.key=x.key:=fun q=>by
      have:=hs'.1 x hx
      rw[q,xk]at this;cases this
     unfold iS
     rw[List.any_cons,decide_eq_false this,Bool.false_or]
    rw[e]
    simp only[List.length_cons];omega
  exact key hT hs
 have hput:∀(T ms:List aS),iM ms→iM (mL ms T)∧(mL ms T).length≤ms.length+T.length:=by
  intro T
  induction T with
  |nil=>intro ms h;exact⟨h,Nat.le_refl _⟩
  |cons m T ih=>
   intro ms h
   have:=ih _ (PK h (strip m))
   have h2:=PF ms (strip m)
   refine⟨this.1,?_⟩
   have h3:=this.2
   show(mL (kF ms (strip m)) T).length≤_
   simp only[List.length_cons];omega
 have akJ:∀(T ms:List aS),(∀m∈ms,tv m)→(∀m∈T,tv m)→∀m∈mL ms T,tv m:=by
  intro T
  induction T with
  |nil=>intro ms h _;exact h
  |cons m T ih=>
   intro ms h hT
   refine ih _ (fun y hy=>?_) fun y hy=>hT y (by simp [hy])
   rcases ah8 hy with hy|rfl
   ·exact h y hy
   ·exact afO (hT m (by simp))
 rw[OW hne]
 have h1:(dX o t (rI · T))[t]? =some {c with aJ:=jJ T c.aJ}:=by rw[tg,if_pos rfl,hc,←Hy];rfl
 have h2:(dX o t (rI · T))[f]? =some d:=by rw[tg,if_neg hne];exact hd
 have hsm:=Oy hc (rI · T)
 rw[Hy]at hsm
 have M1:nU l (dX o t (rI · T)):=h.dX hc (g:=(rI · T)) (by show iM (rI c.aJ T);rw[Hy];exact hs.sublist List.filter_sublist) (fun m hm=>by
  have hm:m∈rI c.aJ T:=hm
  rw[Hy]at hm
  exact Px h hc (List.mem_filter.1 hm).1) (by show xQ o+(rI c.aJ T).length≤_;rw[Hy];have:=h.sum;omega)
 have hp:=hput T d.aJ (h.pV d (List.mem_of_getElem? hd))
 refine⟨M1.dX h2 (g:=(mL · T)) hp.1 (akJ T d.aJ (fun m hm=>Px h hd hm) fun m hm=>Px h hc (hT.subset hm)) ?_,?_,?_⟩
 ·show xQ (dX o t (rI · T))+(mL d.aJ T).length≤_
  have:=h.sum
  have:=hp.2
  omega
 ·rw[tg,if_neg (Ne.symm hne)];exact h1
 ·rw[tg,if_pos rfl,h2];rfl
theorem OD (r:bu) (c:aO) (u:Int):(pE r c u).Sublist c.aJ:=List.filter_sublist
theorem O7 {r:bu} {t:Nat} {c:aO} (hc:o[t]? =some c) (u:Int):dA r o t u=pE r c u:=by unfold dA;rw[hc]
theorem ag1 {r:bu} {au:List bO} {k:jk} (h:k∈ji r au l):∃(a i:Nat) (c d:aO),a<i∧l[a]? =some d∧l[i]? =some c∧d.number=k.qn∧c.number=k.to:=by
 unfold ji td at h
 obtain⟨i,hi,h⟩:=List.mem_flatMap.1 h
 obtain⟨u,hu,h⟩:=List.mem_flatMap.1 h
 have hi:=List.mem_range.1 hi
 unfold kO at h
 split at h
 ·simp at h
 split at h
 ·simp at h
 rw[List.mem_singleton]at h
 have hle:pH (fun j=>cG r au l j u.number) (fun j=>dA r l j u.number) (i+1-1)≤i:=J6 _ _ i
 generalize pH (fun j=>cG r au l j u.number) (fun j=>dA r l j u.number) (i+1-1)=a at h hle
 have h1:l[a]? =some l[a]:=List.getElem?_eq_getElem (by omega)
 have h2:l[i+1]? =some l[i+1]:=List.getElem?_eq_getElem (by omega)
 refine⟨a,i+1,_,_,by omega,h1,h2,?_,?_⟩
 ·rw[h,h1];rfl
 ·rw[h,h2];rfl
theorem OV {r:bu} {au:List bO} (hg:Good l) (hM:nU l o) {k:jk} (h:k∈ji r au l):∃c d,gA o k.to≠gA o k.qn∧o[gA o k.to]? =some c∧o[gA o k.qn]? =some d∧tM o k.to=true∧tM o k.qn=true∧1≤k.to∧k.to≤9999999∧1≤k.qn∧k.qn≤9999999:=by
 obtain⟨a,i,c,d,hai,hd,hc,e1,e2⟩:=ag1 h
 have p1:=KC hg.pV hc e2
 have p2:=KC hg.pV hd e1
 have q1:gA o k.to=i:=by rw[Kb,hM.num,←Kb,p1]
 have q2:gA o k.qn=a:=by rw[Kb,hM.num,←Kb,p2]
 have hl:=hM.len
 have hi:=(List.getElem?_eq_some_iff.1 hc).1
 have n1:=hg.num c (List.mem_of_getElem? hc)
 have n2:=hg.num d (List.mem_of_getElem? hd)
 refine⟨o[i]'(by omega),o[a]'(by omega),by omega,by rw[q1];exact List.getElem?_eq_getElem _,by rw[q2];exact List.getElem?_eq_getElem _,?_,?_,by omega,by omega,by omega,by omega⟩
 ·rw[J7,hM.num,←J7];exact List.any_eq_true.2 ⟨c,List.mem_of_getElem? hc,by simp [e2]⟩
 ·rw[J7,hM.num,←J7];exact List.any_eq_true.2 ⟨d,List.mem_of_getElem? hd,by simp [e1]⟩
theorem U0 {r:bu} {au:List bO} (hg:Good l) (hM:nU l o) {k:jk} (h:k∈ji r au l):nU l (sC r o k)∧sC r o k=Qr r o k:=by
 obtain⟨c,d,hne,hc,hd,_⟩:=OV hg hM h
 have hT:=OD r c k.unit
 unfold sC Qr
 rw[O7 hc]
 refine⟨(Xx hM hne hc hd hT).1,?_⟩
 rw[OW hne]
 congr 1
 have hs:=hM.pV c (List.mem_of_getElem? hc)
 refine adT fun x hx=>?_
 rw[hc]at hx
 injection hx with hx
 subst hx
 exact Ph hs (Wm (hs.sublist hT)) fun m hm=>List.any_eq_true.2 ⟨m,hT.subset hm,by simp⟩
theorem By {r:bu} {au:List bO} (hg:Good l) (ho:Rn l):∀i,nU l (((ji r au l).take i).foldl (sC r) l)
 |0=>nU.refl hg ho
 |i+1=>by
  cases hx:(ji r au l)[i]? with
  |none=>
   rw[List.take_of_length_le (by have:=List.getElem?_eq_none_iff.1 hx;omega)]
   have:=By hg ho i (r:=r) (au:=au)
   rwa[List.take_of_length_le (by have:=List.getElem?_eq_none_iff.1 hx;omega)]at this
  |some k=>
   rw[Jv _ _ _ hx]
   exact(U0 hg (By hg ho i) (List.mem_of_getElem? hx)).1
end
end
section
open HP
section
variable {ay σ : Heap} {R : HP}
theorem akq {v:U} {l:List aS} {i:Nat} {x:aS} (hx:l[i]? =some x) (hl:l.length≤1000000) (H:Hs aX ay σ (Sl (fl aF) 8 v l*R)):
  ∃v' σ',Da [v,.int .i64 (i:Int),.int .i64 ((i+1:Nat):Int)] σ=some (v',σ')∧Hs aX ay σ' (Sl (fl aF) 8 v' (l.eraseIdx i)*R):=by
 obtain⟨v',σ',xe,_,e,H2⟩:=XI (most:=140737488355328 / 64) (zs:=[ah,aW,ah,ah,aD,aD,ah,ah]) H hx (by omega) (by omega) (fun _ _ _ _ _=>trivial)
 have H3:=jH (hs_eq (show _=pr (xe=aF x)*(Sl (fl aF) 8 v' (l.eraseIdx i)*R) by rw[show fl aF xe x=pr (xe=aF x)from rfl];ac_rfl) H2)
 refine⟨v',σ',?_,H3⟩
 unfold Da A.wrap
 rw[Bool.false_and,cond_false,show A.bY [] [v,.int .i64 (i:Int),.int .i64 ((i+1:Nat):Int)]=[v,.int .i64 (i:Int),.int .i64 ((i+1:Nat):Int)] by simp [A.bY]]
 show(ID v (.int .i64 (i:Int)) (.int .i64 ((i+1:Nat):Int)) σ).map _=_
 rw[show ID v (.int .i64 (i:Int)) (.int .i64 ((i+1:Nat):Int)) σ=some (v',σ')from e]
 simp [jK]
theorem WS {p:U} {F:List U→HP} {e:List U} {x:aO} (hC:Cl p F) (H:Hs aX ay σ (F e*(dD e x*R))):∃q vp vm,A.bA 10 p=some q∧((A.deref q σ).bind fun c=>A.an 0 c)=some vm∧Hs aX ay σ (Sl (fl aF) 8 vm x.aJ*(F (cK x vp vm)*(Sf cW 2 vp x.dg.points*R)))∧
  ∀{σ':Heap} {kJ:U} {ms:List aS} {R':HP},Hs aX ay σ' (Sl (fl aF) 8 kJ ms*(F (cK x vp vm)*(Sf cW 2 vp x.dg.points*R')))→A.cell kJ=some kJ∧∃σ2 e',A.storeAt q [kJ] σ'=some σ2∧Hs aX ay σ2 (F e'*(dD e' {x with aJ:=ms}*R')):=by
 obtain⟨vp,vm,he,K⟩:=A1 (hs_eq (show _=nj (Sl (fl aF) 8) e x*(F e*R)from by rw[show dD e x=nj (Sl (fl aF) 8) e x from rfl];ac_rfl) H)
 subst he
 have qp:Hs aX ay σ (Sl (fl aF) 8 vm x.aJ*(F (cK x vp vm)*(Sf cW 2 vp x.dg.points*R))):=hs_eq (by ac_rfl) K
 obtain⟨q,f1,f2⟩:=OJ hC 10 H (vm:=vm) (by
  have:=F5 qp
  simp only[cK,List.drop_succ_cons,List.drop_zero,A.an,List.getElem?_cons_zero,Option.bind_some]
  exact this)
 refine⟨q,vp,vm,f1,f2,qp,fun{σ' kJ ms R'} H1=>⟨F5 H1,?_⟩⟩
 obtain⟨q',g1,_,g3⟩:=hC.fa 10
 rw[f1]at g1;injection g1 with g1;subst g1
 obtain⟨σ2,e3,H2⟩:=g3 (hs_eq (show _=F (cK x vp vm)*(Sl (fl aF) 8 kJ ms*(Sf cW 2 vp x.dg.points*R')) by ac_rfl) H1) (new:=[kJ]) (e':=cK x vp kJ) rfl
 refine⟨σ2,cK x vp kJ,e3,?_⟩
 have:=D0 (M:=Sl (fl aF) 8) (x:={x with aJ:=ms}) (e:=cK x vp kJ) (vp:=vp) (vm:=kJ) (R:=F (cK x vp kJ)*R') (B:=aX) (ay:=ay) (σ:=σ2) rfl (hs_eq (by ac_rfl) H2)
 exact hs_eq (by rw[show dD (cK x vp kJ) {x with aJ:=ms}=nj (Sl (fl aF) 8) (cK x vp kJ) {x with aJ:=ms}from rfl];ac_rfl) this
theorem Wa {p:U} {F:List U→HP} {e:List U} {x:aO} (hC:Cl p F) (H:Hs aX ay σ (F e*(dD e x*R))):((A.deref p σ).bind fun c=>A.az 0 11 c)=some (.agg e)∧Lt σ (.a iA) (.agg e) (.agg (aM x)):=by
 obtain⟨vp,vm,he,_⟩:=A1 (hs_eq (show _=nj (Sl (fl aF) 8) e x*(F e*R) by rw[show dD e x=nj (Sl (fl aF) 8) e x from rfl];ac_rfl) H)
 refine⟨?_,Pw (FP (hs_eq (show _=dD e x*(F e*R) by ac_rfl) H))⟩
 rw[hC.ld H,Option.bind_some,he];rfl
theorem ai2 {v:U} {o:List aO} {i:Nat} {x:aO} {k:aA} (hx:o[i]? =some x) (hs:iM x.aJ) (hl:x.aJ.length≤1000000) (hk:iS x.aJ k=true) (H:Hs aX ay σ (Sl dD 11 v o*R)):
  ∃p e q vm v' σ1 σ2,A.aN 11 v (.int .i64 (i:Int))=some p∧((A.deref p σ).bind fun c=>A.az 0 11 c)=some (.agg e)∧A.quiet (Aa [.agg e,.agg (aK k)] σ) σ=some (.aL [.int .i64 (dN x.aJ k:Int),.bool true])∧A.bA 10 p=some q∧((A.deref q σ).bind fun c=>A.an 0 c)=some vm∧
   A.add (.int .i64 (dN x.aJ k:Int)) (.int .i64 1)=some (.int .i64 ((dN x.aJ k+1:Nat):Int))∧Da [vm,.int .i64 (dN x.aJ k:Int),.int .i64 ((dN x.aJ k+1:Nat):Int)] σ=some (v',σ1)∧A.cell v'=some v'∧A.storeAt q [v'] σ1=some σ2∧Hs aX ay σ2 (Sl dD 11 v (dX o i (A2 · k))*R):=by
 obtain⟨p,F,e,f1,hC,K,back⟩:=BQ H hx
 obtain⟨r1,r2⟩:=Wa hC K
 have zD:=Uh (FP (hs_eq (show _=dD e x*(F e*R) by ac_rfl) K)) hs (by omega) k
 rw[hk]at zD
 obtain⟨q,vp,vm,g1,g2,K2,bk⟩:=WS hC K
 obtain⟨y,hy⟩:=Kv hs hk
 obtain⟨v',σ1,d1,K3⟩:=akq hy hl K2
 obtain⟨c1,σ2,e',s1,K4⟩:=bk K3
 refine⟨p,e,q,vm,v',σ1,σ2,f1,r1,quiet_of zD,g1,g2,B5 (by have:=(List.getElem?_eq_some_iff.1 hy).1;omega),d1,c1,s1,?_⟩
 rw[dX,hx]
 exact back K4
theorem aiu {v:U} {o:List aO} {i:Nat} {x:aO} (hx:o[i]? =some x) (m:aS) (hs:iM x.aJ) (hl:x.aJ.length≤1000000) (H:Hs aX ay σ (Sl dD 11 v o*R)):
  ∃p σ',A.aN 11 v (.int .i64 (i:Int))=some p∧DP [p,.agg (aF m)] σ=some (.aL [],σ')∧Hs aX ay σ' (Sl dD 11 v (dX o i (kF · m))*R):=by
 obtain⟨p,F,e,h1,hC,K,back⟩:=BQ H hx
 obtain⟨σ',e',h2,K2⟩:=ajY (m:=m) hC K hs (by omega)
 refine⟨p,σ',h1,h2,?_⟩
 rw[dX,hx]
 exact back K2
theorem Ul {v:U} {l:List aO} (H:Hs aX ay σ (Sl dD 11 v l*R)) (hg:Gi l) {n:Int} (h1:1≤n) (h2:n≤9999999) (hh:tM l n=true):Bw [v,.int .i64 n] σ=some (.aL [.int .i64 (gA l n:Int),.bool true],σ):=
 ze (cB:=[.e 11 iA]) (ts:=[sl 11 aM l,.int .i64 n]) ⟨Kw H,BW _,trivial⟩ (fun σ=>by obtain⟨p,e,_,h⟩:=aiq hg (show aZ n by unfold aZ;omega) σ;rw[h (.inl h1),hh]at e;exact e) rfl
theorem Vu {v:U} {l:List aO} (H:Hs aX ay σ (Sl dD 11 v l*R)) (hg:Gi l) (n:Int) (hh:tM l n=true):D6 [v,.int .i64 n] σ=some (.int .i64 (gA l n:Int),σ):=
 ze (cB:=[.e 11 iA]) (ts:=[sl 11 aM l,.int .i64 n]) ⟨Kw H,BW _,trivial⟩ (fun σ=>by
  have e:=agi hg.pV n
  rw[hh,if_pos rfl]at e
  rw[←e];exact ahQ (aj3 l (by have:=hg.len;unfold aY;omega) n)) rfl
theorem aha {T ms:List aS} (hs:iM T) {j:Nat} {m:aS} (hj:T[j]? =some m) (hm:m∈ms):iS (jJ (T.take j) ms) m.key=true:=by
 refine List.any_eq_true.2 ⟨m,List.mem_filter.2 ⟨hm,?_⟩,by simp⟩
 cases h:iS (T.take j) m.key
 ·rfl
 ·obtain⟨z,hz,hk⟩:=List.any_eq_true.1 h
  obtain⟨i,hi⟩:=List.mem_iff_getElem?.1 hz
  rw[List.getElem?_take]at hi
  split at hi
  ·rename_i hij
   have h1:=W7 hs hi rfl
   have h2:=W7 hs hj (of_decide_eq_true hk).symm
   omega
  ·cases hi
theorem afX (m:aS):(((A.cells 2 (.agg (aK m.key))).bind fun nA=>(A.splice 0 nA [ah,aW,ah,ah,aD,aD,ah,ah]).bind fun ud=>(A.cells 2 (.agg (ou m.value))).bind fun Rw=>(A.splice 2 Rw ud).bind fun CE=>((A.cell (.bool m.release)).bind fun v=>some [v]).bind fun Rx=>(A.splice 4 Rx CE).bind fun zx=>some zx).bind fun cs=>some (U.agg cs))=some (.agg (aF (strip m))):=rfl
end
section
variable {r : bu} {au : List bO} {l : List aO}
theorem ae7 {x:aO} {e:List U} {σ:Heap} (hr:fU r) (hz:jT r au l=0) (hc:x.aJ.length≤900000) (u:Int) (h:Lt σ (.a iA) (.agg e) (.agg (aM x))):A.quiet ((A.ij (.s 8) rA) [dJ r au l,.agg e,.int .i64 u] σ) σ=some (sl 8 aF (pE r x u)):=
 quiet_of (FV (σ:=σ) Ai (cB:=[.k,(.a iA)]) (uW:=[dJ r au l,.agg e,.int .i64 u]) (ts:=[dJ r au l,.agg (aM x),.int .i64 u]) ⟨uN (PW r au l) rfl,h,BW _,trivial⟩ (Xd hr hz hc u))
theorem acX {x:aO} {e:List U} {σ:Heap} (hr:fU r) (hc:x.aJ.length≤900000) (u:Int) (h:Lt σ (.a iA) (.agg e) (.agg (aM x))):A.quiet ((A.ij (.s 8) sv) [.agg (aP r),.agg e,.int .i64 u] σ) σ=some (sl 8 aF (pE r x u)):=
 quiet_of (FV (σ:=σ) Ai (cB:=[lJ,(.a iA)]) (uW:=[.agg (aP r),.agg e,.int .i64 u]) (ts:=[.agg (aP r),.agg (aM x),.int .i64 u]) ⟨uN (pY (WI _)) rfl,h,BW _,trivial⟩ (U6 hr hc u))
theorem JH {α β:Type} (f:β→α→β) (b:β) (T:List α) {j:Nat} {m:α} (h:T[j]? =some m):(T.take (j+1)).foldl f b=f ((T.take j).foldl f b) m:=Jv f b T h
theorem agm (hr:fU r) (hp:cH mV au) (hl:cH lX l) (σ:Heap):M6 [.agg (aP r),sl 3 eB au,sl 11 aM l] σ=some (.aL [sl 11 aM (uD r au l).1,.int .i64 (uD r au l).2],σ):=by
 have run:∃b,Ja (.agg (aP r)) (sl 3 eB au) (sl 11 aM l) σ=some b∧b.2=σ∧A.nn (.t [(.e 11 iA),.k]) b.1=.aL [sl 11 aM (uD r au l).1,.int .i64 (uD r au l).2]:=by
  unfold Ja uD
  rw[show A.cells 2 (.agg (aP r))=some (aP r)from rfl,bS,show A.az 0 2 (aP r)=some (.agg (aP r))from rfl,bS,S4 (TE r au l hr hp hl),bS,Eo,bS]
  by_cases hf:jT r au l=0
  case neg=>
   rw[decide_eq_true hf,fO,if_pos hf]
   exact⟨_,bK _ _,rfl,KO⟩
  obtain⟨dP,hform⟩:=jP hf
  have HA:¬¬(jT r au l=0):=by simp [hf]
  have hg:=pX hform
  have hlen:=hg.len
  rw[decide_eq_false HA,eC,if_neg HA]
  obtain⟨lv,e0,hlv⟩:=Yr hr hp hf σ
  obtain⟨v,s1,e1,K1⟩:=agA (Wj hg) (by unfold aY;omega) (AB (B:=aX) σ)
  rw[bS,e0,bS,e1,bS,bS,WQ hr hf lv hlv s1,bS,cu,bS]
  have hml:(ji r au l).length≤aY:=by
   have h1:=Dn (l:=l) (cG r au l) (dA r l) (gn r au l) r.units (l.length-1)
   have h2:=uC dP
   have h3:(l.length-1)*r.units.length≤300*400:=Nat.mul_le_mul (by omega) h2
   unfold ji aY
   omega
  refine mj (Q:=fun q=>q.1=.exit 0∧Hs aX σ q.2.2 (Sl dD 11 v (BN r au l)*emp)) (mY (ji r au l) (fun i w s=>w=[.int .i64 (i:Int)]∧Hs aX σ s (Sl dD 11 v (((ji r au l).take i).foldl (sC r) l)*emp)) ?_ ?_ ⟨rfl,K1⟩) ?_
  ·rintro i k w s hx ⟨rfl,K⟩
   have hk:=List.mem_of_getElem? hx
   have hM:=By hg hl.2 i (r:=r) (au:=au)
   rw[JH _ _ _ hx]
   generalize ((ji r au l).take i).foldl (sC r) l=o at hM K ⊢
   obtain⟨c,d,hne,hc,hd,h1,h2,n1,n2,n3,n4⟩:=OV hg hM hk
   have HB:=hM.Ye hg
   have akG:l≠[]:=fun e=>by subst e;have:=hM.len;simp at this;subst this;simp at hc
   simp only[List.getD_cons_zero]
   rw[eR hx,bS,fO,dR hx,bS,iw,bS,V4,bS,VC,bS,Wk k _ rfl,bS,show A.an 1 (cZ k)=some (.int .i64 k.qn)from rfl,bS,Ul K HB n3 n4 h2,bS,uT,bS,ext1,bS,show A.an 2 (cZ k)=some (.int .i64 k.to)from rfl,bS,Ul K HB n1 n2 h1,bS,uT,bS,ext1,bS]
   obtain⟨p,e,f1,f2,hlt⟩:=ajn hc K
   have iO:=hM.small (List.mem_of_getElem? hc)
   rw[f1,bS,f2,bS,show A.an 0 (cZ k)=some (.int .i64 k.unit)from rfl,bS,show xA r au l lv=dJ r au l by rw[hlv akG];rfl,ae7 hr hf (by omega) k.unit hlt,bS,cu,bS]
   have hmk:sC r o k=(pE r c k.unit).foldl (xY (gA o k.qn) (gA o k.to)) o:=by unfold sC;rw[O7 hc]
   rw[hmk]
   have vV:=OD r c k.unit
   have RM:=vV.length_le
   have hcs:=hM.pV c (List.mem_of_getElem? hc)
   generalize pE r c k.unit=T at vV RM ⊢
   generalize gA o k.qn=f at hne hd ⊢
   generalize gA o k.to=t at hne hc f1 ⊢
   refine Bf (mj (Q:=fun q=>q.1=.exit 2∧Hs aX σ q.2.2 (Sl dD 11 v (T.foldl (xY f t) o)*emp)) (mY T (fun j w s=>w=[.int .i64 (j:Int)]∧Hs aX σ s (Sl dD 11 v ((T.take j).foldl (xY f t) o)*emp)) ?_ ?_ ⟨rfl,K⟩) ?_)
   ·rintro j m w s' hj ⟨rfl,K⟩
    have hsub:(T.take j).Sublist c.aJ:=(List.take_sublist _ _).trans vV
    obtain⟨M',pP,hd'⟩:=Xx hM hne hc hd hsub
    rw[JH _ _ _ hj]
    generalize (T.take j).foldl (xY f t) o=o' at M' pP hd' K ⊢
    have hm:=aha (hcs.sublist vV) hj (vV.subset (List.mem_of_getElem? hj))
    have q1:=M'.pV _ (List.mem_of_getElem? pP)
    have q2:=M'.small (List.mem_of_getElem? pP)
    have q3:=M'.pV _ (List.mem_of_getElem? hd')
    have q4:=M'.small (List.mem_of_getElem? hd')
    obtain⟨p',e',q,vm,v',s2,s3,g1,g2,g3,g4,g5,g6,g7,g8,g9,K2⟩:=ai2 (k:=m.key) pP q1 (by omega) hm K
    rw[f1]at g1
    injection g1 with g1
    subst g1
    obtain⟨p2,s4,k1,k2,K3⟩:=aiu (x:={d with aJ:=mL d.aJ (T.take j)}) (i:=f) (by rw[Ki hne];exact hd') (strip m) q3 (by omega) K2
    simp only[List.getD_cons_zero]
    rw[eR hj,bS,fO,dR hj,bS,iw,bS,tj,bS,yz,bS,sx m _ rfl,bS,bS,g2,bS,Bu,bS,g3,bS,uT,bS,ext1,bS,bS,g4,bS,g5,bS,g6,bS,g7,bS]
    simp only[bS]
    rw[g4,bS,g8,bS,bS,g9,bS,show((A.cell aD).bind fun v=>some [v])=some [U.bool false]from rfl,bS,show A.splice 5 [U.bool false] (aF m)=some [.int .i64 m.key.unit,.str m.key.param,.int .i64 m.value.level,.int .i64 m.value.dz,.bool m.release,.bool false,.int .i64 m.delay,.int .i64 m.time]from rfl,bS,show((A.cell ah).bind fun v=>some [v])=some [U.int .i64 0]from rfl,bS,show A.splice 6 [U.int .i64 0] [.int .i64 m.key.unit,.str m.key.param,.int .i64 m.value.level,.int .i64 m.value.dz,.bool m.release,.bool false,.int .i64 m.delay,.int .i64 m.time]=some [.int .i64 m.key.unit,.str m.key.param,.int .i64 m.value.level,.int .i64 m.value.dz,.bool m.release,.bool false,.int .i64 0,.int .i64 m.time]from rfl,bS]
    simp only[bS]
    rw[show A.splice 7 [U.int .i64 0] [.int .i64 m.key.unit,.str m.key.param,.int .i64 m.value.level,.int .i64 m.value.dz,.bool m.release,.bool false,.int .i64 0,.int .i64 m.time]=some (aF (strip m))from rfl,bS,k1,bS,tj,bS,k2,bS,dB hj (by unfold aY;omega),bS]
    exact⟨_,_,rfl,rfl,K3⟩
   ·rintro w s' ⟨rfl,K⟩
    simp only[List.getD_cons_zero]
    rw[eO,bS,eC]
    rw[List.take_length]at K
    exact⟨_,rfl,by simp,rfl,K⟩
   rintro⟨x,w,s'⟩ ⟨h1,K⟩
   simp only at h1 K
   subst h1
   simp only[qZ]
   rw[dB hx hml,bS]
   exact⟨_,rfl,_,_,rfl,rfl,K⟩
  ·rintro w s ⟨rfl,K⟩
   simp only[List.getD_cons_zero]
   rw[eO,bS,eC]
   rw[List.take_length]at K
   exact⟨_,rfl,by simp,rfl,K⟩
  rintro⟨x,w,s⟩ ⟨h1,K⟩
  simp only at h1 K
  subst h1
  simp only[qZ]
  have hM:=By hg hl.2 (ji r au l).length (r:=r) (au:=au)
  rw[List.take_length]at hM
  have hok:cH lX (BN r au l):=⟨by have:=hM.len;unfold aY;show(((ji r au l).foldl (sC r) l)).length≤_;omega,hM.ok⟩
  rw[agF K hok,bS]
  simp only
  rw[uT,bS,ext1,bS]
  unfold KW
  by_cases hq:lV (BN r au l)=0
  ·rw[if_pos hq,if_pos hq,hq]
   obtain⟨v',j1,j2⟩:=WE (e:=0) (Of K)
   exact⟨_,j1,rfl,P6 j2⟩
  ·rw[if_neg hq,if_neg hq]
   exact⟨_,WC K,rfl,KO⟩
 obtain⟨⟨b,s⟩,h1,h2,h3⟩:=run
 simp only at h2 h3
 subst h2
 refine wrap_eq rfl ?_ h3
 rw[BX]
 exact h1
theorem afg (hr:fU r) (hp:cH mV au) (hl:cH lX l) (σ:Heap):Nw [.agg (aP r),sl 3 eB au,sl 11 aM l] σ=some (.aL [sl 11 aM (uD r au l).1,.int .i64 (uD r au l).2],σ):=by
 have run:∃b,Jn (.agg (aP r)) (sl 3 eB au) (sl 11 aM l) σ=some b∧b.2=σ∧A.nn (.t [(.e 11 iA),.k]) b.1=.aL [sl 11 aM (uD r au l).1,.int .i64 (uD r au l).2]:=by
  unfold Jn uD
  rw[show A.cells 2 (.agg (aP r))=some (aP r)from rfl,bS,show A.az 0 2 (aP r)=some (.agg (aP r))from rfl,bS,S9 (Tn r au l hr hp hl),bS,Eo,bS]
  by_cases hf:jT r au l=0
  case neg=>
   rw[decide_eq_true hf,fO,if_pos hf]
   exact⟨_,bK _ _,rfl,KO⟩
  obtain⟨dP,hform⟩:=jP hf
  have HA:¬¬(jT r au l=0):=by simp [hf]
  have hg:=pX hform
  have hlen:=hg.len
  rw[decide_eq_false HA,eC,if_neg HA]
  obtain⟨v,s1,e1,K1⟩:=agz (Wj hg) (by unfold aY;omega) (AB (B:=aX) σ)
  rw[e1,bS,bS,V0 hr hp hf s1,bS,cu,bS]
  have hml:(ji r au l).length≤aY:=by
   have h1:=Dn (l:=l) (cG r au l) (dA r l) (gn r au l) r.units (l.length-1)
   have h2:=uC dP
   have h3:(l.length-1)*r.units.length≤300*400:=Nat.mul_le_mul (by omega) h2
   unfold ji aY
   omega
  refine mj (Q:=fun q=>q.1=.exit 0∧Hs aX σ q.2.2 (Sl dD 11 v (BN r au l)*emp)) (mY (ji r au l) (fun i w s=>w=[.lbx (aP r),.int .i64 (i:Int)]∧Hs aX σ s (Sl dD 11 v (((ji r au l).take i).foldl (sC r) l)*emp)) ?_ ?_ ⟨rfl,K1⟩) ?_
  ·rintro i k w s hx ⟨rfl,K⟩
   have hk:=List.mem_of_getElem? hx
   have hM:=By hg hl.2 i (r:=r) (au:=au)
   rw[JH _ _ _ hx]
   generalize ((ji r au l).take i).foldl (sC r) l=o at hM K ⊢
   obtain⟨c,d,hne,hc,hd,h1,h2,n1,n2,n3,n4⟩:=OV hg hM hk
   have HB:=hM.Ye hg
   simp only[List.getD_cons_zero,List.getD_cons_succ]
   obtain⟨p,F,e,f1,hC,Kc,back⟩:=BQ K hc
   obtain⟨f2,hlt⟩:=Wa hC Kc
   obtain⟨q,vp,vm,g1,g2,K2,bk⟩:=WS hC Kc
   have iO:=hM.small (List.mem_of_getElem? hc)
   rw[eR hx,bS,fO,dR hx,bS,iw,bS,V4,bS,VC,bS,Wk k _ rfl,bS,show A.an 1 (cZ k)=some (.int .i64 k.qn)from rfl,bS,quiet_of (Vu K HB k.qn h2),bS,show A.an 2 (cZ k)=some (.int .i64 k.to)from rfl,bS,quiet_of (Vu K HB k.to h1),bS,show((A.lb (.lbx (aP r))).bind fun lK=>A.az 0 2 lK)=some (.agg (aP r))from rfl,bS,f1,bS,f2,bS,show A.an 0 (cZ k)=some (.int .i64 k.unit)from rfl,bS,acX hr (by omega) k.unit hlt,bS,bS,g1,bS,g2,bS,XK K2,bS]
   rw[(U0 hg hM hk).2]
   unfold Qr
   rw[O7 hc]
   have vV:=OD r c k.unit
   have RM:=vV.length_le
   have hcs:=hM.pV c (List.mem_of_getElem? hc)
   have YG:=hcs.sublist vV
   generalize pE r c k.unit=T at vV RM YG ⊢
   generalize gA o k.qn=f at hne hd ⊢
   generalize gA o k.to=t at hne hc f1 back ⊢
   refine Bf (mj (Q:=fun q=>∃h w,q.1=.exit 2∧q.2.1=[.lbx (aP r),h,w]∧Hs aX σ q.2.2 (Sl (fl aF) 8 vm c.aJ*(Sl (fl aF) 8 h (jJ T c.aJ)*(F (cK c vp vm)*(Sf cW 2 vp c.dg.points*emp))))) (mY c.aJ (fun j w s=>∃h,w=[.lbx (aP r),h,.int .i64 (j:Int)]∧Hs aX σ s (Sl (fl aF) 8 vm c.aJ*(Sl (fl aF) 8 h (jJ T (c.aJ.take j))*(F (cK c vp vm)*(Sf cW 2 vp c.dg.points*emp))))) ?_ ?_ ⟨.aH,rfl,?_⟩) ?_)
   ·rintro j m w s' hj ⟨h,rfl,K⟩
    obtain⟨p',j1,j2⟩:=Ej K hj
    simp only[List.getD_cons_zero,List.getD_cons_succ]
    rw[eR hj,bS,fO,j1,bS,j2,bS,tj,bS,yz,bS,sx m _ rfl,bS,Bu,bS,TO (V1 YG (by omega) m.key),bS,uT,bS,ext1,bS,show A.not (.bool (iS T m.key))=some (.bool (!iS T m.key))from rfl,bS]
    have e:jJ T (c.aJ.take (j+1))=jJ T (c.aJ.take j)++if(!iS T m.key)=true then[m]else[]:=by
     unfold jJ
     rw[List.take_add_one,hj,Option.toList_some,List.filter_append,List.filter_cons,List.filter_nil]
    cases hh:(!iS T m.key)
    ·rw[hh,if_neg (by decide),List.append_nil]at e
     rw[eC,bS]
     simp only[List.getD_cons_zero,List.getD_cons_succ]
     rw[dB hj (by unfold aY;omega),bS]
     exact⟨_,_,rfl,h,rfl,by rw[e];exact K⟩
    ·rw[hh,if_pos rfl]at e
     rw[fO,tj,bS,F0,bS]
     have hfl:=List.length_filter_le (fun m:aS=>!iS T m.key) (c.aJ.take j)
     obtain⟨h',s2,e2,K3⟩:=QE m (l:=jJ T (c.aJ.take j)) (by rw[List.length_take]at hfl;unfold jJ;omega) (B:=aX) (fun _ _ _ _=>trivial) (hs_eq (show _=Sl (fl aF) 8 h (jJ T (c.aJ.take j))*(Sl (fl aF) 8 vm c.aJ*(F (cK c vp vm)*(Sf cW 2 vp c.dg.points*emp))) by ac_rfl) K)
     rw[e2,bS,bS]
     simp only[List.getD_cons_zero,List.getD_cons_succ]
     rw[dB hj (by unfold aY;omega),bS]
     exact⟨_,_,rfl,h',rfl,by rw[e];exact hs_eq (by ac_rfl) K3⟩
   ·rintro w s' ⟨h,rfl,K⟩
    simp only[List.getD_cons_zero,List.getD_cons_succ]
    rw[eO,bS,eC]
    rw[List.take_length]at K
    exact⟨_,rfl,by simp,h,_,rfl,rfl,K⟩
   ·have:=qx (E:=fl aF) (sz:=8) K2 (.inl (rfl:U.aH=.aH))
    exact hs_eq (by unfold jJ;rw[List.take_zero,List.filter_nil];ac_rfl) this
   rintro⟨x,w,s'⟩ ⟨h,w',h1,h2,K⟩
   simp only at h1 h2 K
   subst h1;subst h2
   simp only[qZ,List.getD_cons_zero,List.getD_cons_succ]
   obtain⟨c1,s3,e',k1,K3⟩:=bk (kJ:=h) (ms:=jJ T c.aJ) (R':=Sl (fl aF) 8 vm c.aJ*emp) (hs_eq (by ac_rfl) K)
   have K4:=back (hs_eq (show _=F e'*(dD e' {c with aJ:=jJ T c.aJ}*emp)from rfl) (jH (hs_eq (show _=Sl (fl aF) 8 vm c.aJ*(F e'*(dD e' {c with aJ:=jJ T c.aJ}*emp)) by ac_rfl) K3)))
   have qc:o.set t {c with aJ:=jJ T c.aJ}=dX o t (jJ T):=by rw[dX,hc]
   rw[qc]at K4
   rw[bS,g1,bS,c1,bS,bS,k1,bS,cu,bS]
   have Hx:(dX o t (jJ T))[f]? =some d:=by rw[Ki hne];exact hd
   have hds:=hM.pV d (List.mem_of_getElem? hd)
   have qo:=hM.small (List.mem_of_getElem? hd)
   have hput:∀(T ms:List aS),iM ms→iM (mL ms T)∧(mL ms T).length≤ms.length+T.length:=by
    intro T
    induction T with
    |nil=>intro ms h;exact⟨h,Nat.le_refl _⟩
    |cons m T ih=>
     intro ms h
     have:=ih _ (PK h (strip m))
     have h2:=PF ms (strip m)
     refine⟨this.1,?_⟩
     have h3:=this.2
     show(mL (kF ms (strip m)) T).length≤_
     simp only[List.length_cons];omega
   have hTn:d.aJ.length+T.length<1000000:=by
    have h2:=Oy hc (fun _=>[])
    have h1:=OS (List.mem_of_getElem? (show(dX o t (fun _=>[]))[f]? =some d by rw[Ki hne];exact hd))
    have:=hM.sum
    simp only[List.length_nil]at h2
    omega
   refine mj (Q:=fun q=>q.1=.exit 4∧q.2.1.getD 0 U.undef=.lbx (aP r)∧Hs aX σ q.2.2 (Sl dD 11 v (dX (dX o t (jJ T)) f (mL · T))*emp)) (mY T (fun j w s=>w=[.lbx (aP r),.int .i64 (j:Int)]∧Hs aX σ s (Sl dD 11 v (dX (dX o t (jJ T)) f (mL · (T.take j)))*emp)) ?_ ?_ ⟨rfl,by rw[O3 (i:=f) (g:=(mL · (T.take 0))) fun _ _=>rfl];exact K4⟩) ?_
   ·rintro j m w s2 hj ⟨rfl,K⟩
    have hq:=hput (T.take j) d.aJ hds
    have hx2:(dX (dX o t (jJ T)) f (mL · (T.take j)))[f]? =some {d with aJ:=mL d.aJ (T.take j)}:=by rw[tg,if_pos rfl,Hx];rfl
    have Be:(T.take j).length≤T.length:=(List.take_sublist _ _).length_le
    obtain⟨p2,q2,vm2,v2,s3,s4,z1,z2,z3,z4,z5,z6,K5⟩:=ait hx2 (strip m) hq.1 (by show(mL d.aJ (T.take j)).length<_;omega) K
    simp only[List.getD_cons_zero,List.getD_cons_succ]
    rw[eR hj,bS,fO,dR hj,bS,iw,bS,tj,bS,yz,bS,sx m _ rfl,bS,z1,bS,z2,bS,z3,bS,Bu,bS,Tc,bS,show A.an 4 (aF m)=some (.bool m.release)from rfl,bS,afX,bS,z4,bS]
    simp only[bS]
    rw[z2,bS,z5,bS,bS,z6,bS,dB hj (by unfold aY;omega),bS]
    refine⟨_,_,rfl,rfl,?_⟩
    rw[Ox]at K5
    have e:(fun x=>kF (mL x (T.take j)) (strip m))=fun x=>mL x (T.take (j+1)):=by
     funext x
     show _=(T.take (j+1)).foldl _ x
     rw[JH _ _ _ hj];rfl
    rw[e]at K5
    exact K5
   ·rintro w s2 ⟨rfl,K⟩
    simp only[List.getD_cons_zero,List.getD_cons_succ]
    rw[eO,bS,eC]
    rw[List.take_length]at K
    exact⟨_,rfl,by simp,rfl,rfl,K⟩
   rintro⟨x,w,s2⟩ ⟨h1,h2,K⟩
   simp only at h1 h2 K
   subst h1
   simp only[qZ]
   rw[h2,dB hx hml,bS]
   exact⟨_,rfl,_,_,rfl,rfl,K⟩
  ·rintro w s ⟨rfl,K⟩
   simp only[List.getD_cons_zero,List.getD_cons_succ]
   rw[eO,bS,eC]
   rw[List.take_length]at K
   exact⟨_,rfl,by simp,rfl,K⟩
  rintro⟨x,w,s⟩ ⟨h1,K⟩
  simp only at h1 K
  subst h1
  simp only[qZ]
  have hM:=By hg hl.2 (ji r au l).length (r:=r) (au:=au)
  rw[List.take_length]at hM
  have hok:cH lX (BN r au l):=⟨by have:=hM.len;unfold aY;show(((ji r au l).foldl (sC r) l)).length≤_;omega,hM.ok⟩
  rw[ae0 K hok,bS]
  simp only
  rw[uT,bS,ext1,bS]
  unfold KW
  by_cases hq:lV (BN r au l)=0
  ·rw[if_pos hq,if_pos hq,hq]
   obtain⟨v',j1,j2⟩:=WE (e:=0) (Of K)
   exact⟨_,j1,rfl,P6 j2⟩
  ·rw[if_neg hq,if_neg hq]
   exact⟨_,WC K,rfl,KO⟩
 obtain⟨⟨b,s⟩,h1,h2,h3⟩:=run
 simp only at h2 h3
 subst h2
 refine wrap_eq rfl ?_ h3
 rw[BX]
 exact h1
end
end
section
open HP
def uG (r:bu) (au:List bO) (l:List aO):List jk×Int:=if ¬(jT r au l=0)then([],jT r au l)else(ji r au l,0)
theorem aex {r:bu} {au:List bO} {l:List aO} (hf:jT r au l=0):(ji r au l).length≤aY:=by
 obtain⟨dP,hform⟩:=jP hf
 have hlen:=(pX hform).len
 have h1:=Dn (l:=l) (cG r au l) (dA r l) (gn r au l) r.units (l.length-1)
 have h2:=uC dP
 have h3:(l.length-1)*r.units.length≤300*400:=Nat.mul_le_mul (by omega) h2
 unfold ji aY
 omega
theorem WV (l:List jk) (e:Int):A.nn (.t [(.s 3),.k]) (.aL [sl 3 cZ l,.int .i64 e])=.aL [sl 3 cZ l,.int .i64 e]:=by
 show U.aL (A.bY [.s 3,.k] [sl 3 cZ l,.int .i64 e])=_
 rw[bH (show A.nn (.s 3) (sl 3 cZ l)=sl 3 cZ l by unfold sl;simp [A.nn]) (bH (jK _) kE)]
theorem V3 (e:Int):A.nn (.t [(.s 3),.k]) (.aL [.aH,.int .i64 e])=.aL [sl 3 cZ [],.int .i64 e]:=rfl
section
variable {r : bu} {au : List bO} {l : List aO}
theorem ahq (hr:fU r) (hp:cH mV au) (hl:cH lX l) (σ:Heap):Nx [.agg (aP r),sl 3 eB au,sl 11 aM l] σ=some (.aL [sl 3 cZ (uG r au l).1,.int .i64 (uG r au l).2],σ):=by
 have run:∃b,NI (.agg (aP r)) (sl 3 eB au) (sl 11 aM l) σ=some (b,σ)∧A.nn (.t [(.s 3),.k]) b=.aL [sl 3 cZ (uG r au l).1,.int .i64 (uG r au l).2]:=by
  unfold NI uG
  rw[show A.cells 2 (.agg (aP r))=some (aP r)from rfl,bS,show A.az 0 2 (aP r)=some (.agg (aP r))from rfl,bS,S4 (TE r au l hr hp hl),bS,Eo,bS]
  by_cases hf:jT r au l=0
  case neg=>
   rw[decide_eq_true hf,fO,if_pos hf]
   exact⟨_,bK _ _,V3 _⟩
  obtain⟨lv,e0,hlv⟩:=Yr hr hp hf σ
  rw[decide_eq_false (by simp [hf]),eC,if_neg (by simp [hf]),bS,quiet_of e0,bS,bS,quiet_of (WQ hr hf lv hlv σ),bS]
  exact⟨_,bK _ _,WV _ _⟩
 obtain⟨b,h1,h2⟩:=run
 refine wrap_eq rfl ?_ h2
 rw[BX]
 exact h1
theorem agn (hr:fU r) (hp:cH mV au) (hl:cH lX l) (σ:Heap):N2 [.agg (aP r),sl 3 eB au,sl 11 aM l] σ=some (.aL [sl 3 cZ (uG r au l).1,.int .i64 (uG r au l).2],σ):=by
 have run:∃b,Oa (.agg (aP r)) (sl 3 eB au) (sl 11 aM l) σ=some (b,σ)∧A.nn (.t [(.s 3),.k]) b=.aL [sl 3 cZ (uG r au l).1,.int .i64 (uG r au l).2]:=by
  unfold Oa uG
  rw[show A.cells 2 (.agg (aP r))=some (aP r)from rfl,bS,show A.az 0 2 (aP r)=some (.agg (aP r))from rfl,bS,S9 (Tn r au l hr hp hl),bS,Eo,bS]
  by_cases hf:jT r au l=0
  case neg=>
   rw[decide_eq_true hf,fO,if_pos hf]
   exact⟨_,bK _ _,V3 _⟩
  rw[decide_eq_false (by simp [hf]),eC,if_neg (by simp [hf]),bS,V0 hr hp hf σ,bS]
  exact⟨_,bK _ _,WV _ _⟩
 obtain⟨b,h1,h2⟩:=run
 refine wrap_eq rfl ?_ h2
 rw[BX]
 exact h1
theorem afd (l:List jk) (hl:l.length≤aY):E9 l l=some true:=by
 unfold E9
 simp only[not_true_eq_false,if_false]
 refine PV hl fun i x hx=>?_
 rw[yG (x:=x) (by omega) (by simpa using hx)]
 simp
theorem acW:(uG r au l).1.length≤aY:=by
 unfold uG
 split
 ·simp
 ·rename_i h;exact aex (Decidable.not_not.1 h)
theorem acV (hl:cH lX l):cH lX (uD r au l).1:=by
 unfold uD
 split
 ·exact⟨by simp,fun c hc=>by simp at hc⟩
 rename_i h
 have hg:=pX (jP (Decidable.not_not.1 h)).2
 have hM:=By hg hl.2 (ji r au l).length (r:=r) (au:=au)
 rw[List.take_length]at hM
 unfold KW
 split
 ·exact⟨by have:=hM.len;have:=hg.len;unfold aY;show(((ji r au l).foldl (sC r) l)).length≤_;omega,hM.ok⟩
 ·exact⟨by simp,fun c hc=>by simp at hc⟩
theorem abc {σ:Heap} (h:fU r∧cH mV au∧cH lX l):SU [.agg (aP r),sl 3 eB au,sl 11 aM l] σ=some (.bool true,σ):=by
 obtain⟨hr,hp,hl⟩:=h
 have run:L8 (.agg (aP r)) (sl 3 eB au) (sl 11 aM l) σ=some (.bool true,σ):=by
  unfold L8
  rw[show A.cells 2 (.agg (aP r))=some (aP r)from rfl,bS,show A.az 0 2 (aP r)=some (.agg (aP r))from rfl,bS,ahq hr hp hl σ,bS,uT,bS,ext1,bS,bS,agn hr hp hl σ,bS,uT,bS,ext1,bS,aa5 (afd _ acW),bS]
  simp only[LA,CI,Li,Cd,sQ,sR,Lo,Ln,Option.bind_some]
  rw[gB,decide_eq_false (by simp)]
  simp only[LA,CI,Li,Cd,sQ,sR,Lo,Ln,Option.bind_some]
  rw[eC,agm hr hp hl σ,bS,uT,bS,ext1,bS,afg hr hp hl σ,bS,uT,bS,ext1,bS,aeX _ (acV hl) σ,bS]
  simp only[LA,CI,Li,Cd,sQ,sR,Lo,Ln,Option.bind_some]
  rw[l5,decide_eq_true rfl]
  simp only[LA,CI,Li,Cd,sQ,sR,Lo,Ln,Option.bind_some]
  exact bK _ _
 refine wrap_eq rfl ?_ rfl
 rw[BX]
 exact run
theorem abb (r:bu) (au:List bO) (l:List aO) (hr:fU r) (hp:cH mV au) (hl:cH lX l):fU r∧cH mV au∧cH lX l:=⟨hr,hp,hl⟩
end
end
section
open Go.ChangeShapes Go.WideShapes Go.ChangeAt Go.RowKit
theorem own:ownKnob Tryz.prog.godebug=none:=by kernel_rfl
theorem laidOut:laidOutB Tryz.prog=true:=by kernel_rfl
theorem Tl {H:Type} {enc:TypeId×Value→H} {P:Program} (hl:laidOutB P=true) {W W':World} (hb:Below W.heap.size W W'):
  ∀{ts:List TypeId} {vs:List Value} {ds:List (DataW H)} {ps:List MemPlace},(ts.all fun t=>P.readableRec t&&decide (t<P.types.size))=true→
   DataW.TrodAll enc P W 0 (fun _=>true) true ts vs ds ps→(∀x∈ps,x.block<W.heap.size)→DataW.TrodAll enc P W' 0 (fun b=>decide (b<W.heap.size)) true ts vs ds ps
 |[],[],[],_,_,h,_=>h
 |t::ts,v::vs,d::ds,ps,hts,h,hlt=>by
  obtain⟨p,q,h1,h2,rfl⟩:=h
  simp only[List.all_cons,Bool.and_eq_true,decide_eq_true_eq]at hts
  exact⟨p,q,Below.trod hl hts.1.1 hts.1.2 h1 hb (fun x hx=>hlt x (List.mem_append_left _ hx)),
   Tl hl hb (by simpa using hts.2) h2 (fun x hx=>hlt x (List.mem_append_right _ hx)),rfl⟩
 |[],_::_,_,_,_,h,_=>h.elim
 |[],[],_::_,_,_,h,_=>h.elim
 |_::_,[],_,_,_,h,_=>h.elim
 |_::_,_::_,[],_,_,h,_=>h.elim
theorem agR {H:Type} {enc:TypeId×Value→H} {f:Func} {s:ChangeSpec} {W W':World} {args:Array Value} {ds gs:List (DataW H)} {before:List MemPlace} {t:TypeId}
  (hts:(f.params.toList.all fun t=>Tryz.prog.readableRec t&&decide (t<Tryz.prog.types.size))=true) (zJ:f.resultTypes=#[t]) (ht:Tryz.prog.underlying t=some .bool) (hvs:s.vars=[])
  (hW:DataW.Whole enc Tryz.prog f.params.toList s.vars false W args.toList ds gs before) (hb:Below W.heap.size W W')
  (Qp:s.fn H (ds++gs)={results:=[.lit (.bool true)],args:=ds}):
  s.post enc Tryz.prog f false true false false W args (.bool true) W':=by
 have LB:=hW
 obtain⟨p,q,hA,hV,rfl,hfz,hnd⟩:=hW
 have hlt:∀x∈p++q,x.block<W.heap.size:=fun x hx=>LB.lt x hx
 refine⟨ds,gs,p++q,[],p,[],LB,?_,?_,?_,hb.frame _,fun h=>by cases h⟩
 ·rw[Qp,zJ]
  exact trodAll_cons_mk (shut_bool ht _) trodAll_mk0
 ·rw[Qp]
  exact Tl laidOut hb hts hA (fun x hx=>hlt x (List.mem_append_left _ hx))
 ·rw[Qp,hvs]
  exact rfl
end
section
open Go.RowKit
def Gr (w w':World):Prop:=Below w.heap.size w w'
theorem Gr.refl (w:World):Gr w w:=Below.refl _ _
theorem Gr.below {w w':World} (h:Gr w w'):Below w.heap.size w w':=h
theorem Gr.of {w w':World} (h:Below w.heap.size w w'):Gr w w':=h
theorem Gr.trans {a b c:World} (h:Gr a b) (k:Gr b c):Gr a c:=Below.trans h (Below.mono k (Below.size h))
theorem Gr.alloc {a b:World} (h:Gr a b) (o:Obj):Gr a (b.alloc o):=Below.alloc h (Below.size h) o
theorem Gr.drew {a b:World} (h:Gr a b):Gr a b.drew:=Below.drew h
theorem Gr.set {a b:World} (h:Gr a b) {k o:Nat} (hp:a.heap.size≤k) (u:Value):Gr a (b.setCell ⟨k,o,none⟩ u):=Below.setCell h hp u
theorem Gr.put {a b:World} {k o:Nat} (hp:a.heap.size≤k) (h:Gr a b) (u:Value):Gr a (b.setCell ⟨k,o,none⟩ u):=Below.setCell h hp u
theorem Gr.after {a b c:World} (k:Gr b c) (h:Gr a b):Gr a c:=h.trans k
theorem Gr.size {a b:World} (h:Gr a b):a.heap.size≤b.heap.size:=Below.size h
theorem Gr.cell {a b:World} (h:Gr a b) {p:Addr} {v:Value} (hc:a.cell? p=some v):b.cell? p=some v:=by
 by_cases hp:p.block<a.heap.size
 ·rw[Below.cell h hp];exact hc
 ·have:a.heap[p.block]? =none:=Array.getElem?_eq_none (by omega)
  simp [World.cell?,this]at hc
theorem Gr.free {a b:World} (h:Gr a b) {p:Addr} (hp:p.block<a.heap.size) {x:Bool} (hc:a.frozen? p=x):b.frozen? p=x:=by
 rw[Below.frozen h hp];exact hc
theorem Gr.lt {w w1:World} {o:Obj} (h:Gr (w.alloc o) w1):w.heap.size<w1.heap.size:=by have:=h.size;simp at this;omega
abbrev AO (w:World) (b:Nat) (v0:Value):Prop:=(w.cell? ⟨b,0,none⟩=some v0)∧(w.frozen? ⟨b,0,none⟩=false)∧b<w.heap.size
theorem AO.mono {w w1:World} {b:Nat} {v0:Value} (k:AO w b v0) (h:Gr w w1):AO w1 b v0:=by
 obtain⟨k0,f0,hlt⟩:=k
 exact⟨h.cell k0,h.free (by exact hlt) f0,Nat.lt_of_lt_of_le hlt h.size⟩
theorem AO.of {w:World} {b:Nat} {v0:Value} {t:TypeId} (h:w.heap[b]? =some (.cells #[v0] t (0,0))):AO w b v0:=by
 have hlt:b<w.heap.size:=(Array.getElem?_eq_some_iff.1 h).1
 refine⟨?_,?_,hlt⟩<;>simp [World.cell?,World.frozen?,h]
theorem AO.at {w w1:World} {b:Nat} {v0:Value} {t:TypeId} (g:Gr w w1) (h:w.heap[b]? =some (.cells #[v0] t (0,0))):AO w1 b v0:=(AO.of h).mono g
abbrev AP (w:World) (b:Nat) (v0 v1:Value):Prop:=(w.cell? ⟨b,0,none⟩=some v0∧w.cell? ⟨b,1,none⟩=some v1)∧(w.frozen? ⟨b,0,none⟩=false∧w.frozen? ⟨b,1,none⟩=false)∧b<w.heap.size
theorem AP.mono {w w1:World} {b:Nat} {v0 v1:Value} (k:AP w b v0 v1) (h:Gr w w1):AP w1 b v0 v1:=by
 obtain⟨⟨k0,k1⟩,⟨f0,f1⟩,hlt⟩:=k
 exact⟨⟨h.cell k0,h.cell k1⟩,⟨h.free (by exact hlt) f0,h.free (by exact hlt) f1⟩,Nat.lt_of_lt_of_le hlt h.size⟩
theorem AP.of {w:World} {b:Nat} {v0 v1:Value} {t:TypeId} (h:w.heap[b]? =some (.cells #[v0,v1] t (0,0))):AP w b v0 v1:=by
 have hlt:b<w.heap.size:=(Array.getElem?_eq_some_iff.1 h).1
 refine⟨⟨?_,?_⟩,⟨?_,?_⟩,hlt⟩<;>simp [World.cell?,World.frozen?,h]
theorem AP.at {w w1:World} {b:Nat} {v0 v1:Value} {t:TypeId} (g:Gr w w1) (h:w.heap[b]? =some (.cells #[v0,v1] t (0,0))):AP w1 b v0 v1:=(AP.of h).mono g
abbrev AQ (w:World) (b:Nat) (v0 v1 v2:Value):Prop:=(w.cell? ⟨b,0,none⟩=some v0∧w.cell? ⟨b,1,none⟩=some v1∧w.cell? ⟨b,2,none⟩=some v2)∧(w.frozen? ⟨b,0,none⟩=false∧w.frozen? ⟨b,1,none⟩=false∧w.frozen? ⟨b,2,none⟩=false)∧b<w.heap.size
theorem AQ.mono {w w1:World} {b:Nat} {v0 v1 v2:Value} (k:AQ w b v0 v1 v2) (h:Gr w w1):AQ w1 b v0 v1 v2:=by
 obtain⟨⟨k0,k1,k2⟩,⟨f0,f1,f2⟩,hlt⟩:=k
 exact⟨⟨h.cell k0,h.cell k1,h.cell k2⟩,⟨h.free (by exact hlt) f0,h.free (by exact hlt) f1,h.free (by exact hlt) f2⟩,Nat.lt_of_lt_of_le hlt h.size⟩
theorem AQ.of {w:World} {b:Nat} {v0 v1 v2:Value} {t:TypeId} (h:w.heap[b]? =some (.cells #[v0,v1,v2] t (0,0))):AQ w b v0 v1 v2:=by
 have hlt:b<w.heap.size:=(Array.getElem?_eq_some_iff.1 h).1
 refine⟨⟨?_,?_,?_⟩,⟨?_,?_,?_⟩,hlt⟩<;>simp [World.cell?,World.frozen?,h]
theorem AQ.at {w w1:World} {b:Nat} {v0 v1 v2:Value} {t:TypeId} (g:Gr w w1) (h:w.heap[b]? =some (.cells #[v0,v1,v2] t (0,0))):AQ w1 b v0 v1 v2:=(AQ.of h).mono g
abbrev AR (w:World) (b:Nat) (v0 v1 v2 v3:Value):Prop:=(w.cell? ⟨b,0,none⟩=some v0∧w.cell? ⟨b,1,none⟩=some v1∧w.cell? ⟨b,2,none⟩=some v2∧w.cell? ⟨b,3,none⟩=some v3)∧(w.frozen? ⟨b,0,none⟩=false∧w.frozen? ⟨b,1,none⟩=false∧w.frozen? ⟨b,2,none⟩=false∧w.frozen? ⟨b,3,none⟩=false)∧b<w.heap.size
theorem AR.mono {w w1:World} {b:Nat} {v0 v1 v2 v3:Value} (k:AR w b v0 v1 v2 v3) (h:Gr w w1):AR w1 b v0 v1 v2 v3:=by
 obtain⟨⟨k0,k1,k2,k3⟩,⟨f0,f1,f2,f3⟩,hlt⟩:=k
 exact⟨⟨h.cell k0,h.cell k1,h.cell k2,h.cell k3⟩,⟨h.free (by exact hlt) f0,h.free (by exact hlt) f1,h.free (by exact hlt) f2,h.free (by exact hlt) f3⟩,Nat.lt_of_lt_of_le hlt h.size⟩
theorem AR.of {w:World} {b:Nat} {v0 v1 v2 v3:Value} {t:TypeId} (h:w.heap[b]? =some (.cells #[v0,v1,v2,v3] t (0,0))):AR w b v0 v1 v2 v3:=by
 have hlt:b<w.heap.size:=(Array.getElem?_eq_some_iff.1 h).1
 refine⟨⟨?_,?_,?_,?_⟩,⟨?_,?_,?_,?_⟩,hlt⟩<;>simp [World.cell?,World.frozen?,h]
theorem AR.at {w w1:World} {b:Nat} {v0 v1 v2 v3:Value} {t:TypeId} (g:Gr w w1) (h:w.heap[b]? =some (.cells #[v0,v1,v2,v3] t (0,0))):AR w1 b v0 v1 v2 v3:=(AR.of h).mono g
abbrev AT (w:World) (b:Nat) (v0 v1 v2 v3 v4:Value):Prop:=(w.cell? ⟨b,0,none⟩=some v0∧w.cell? ⟨b,1,none⟩=some v1∧w.cell? ⟨b,2,none⟩=some v2∧w.cell? ⟨b,3,none⟩=some v3∧w.cell? ⟨b,4,none⟩=some v4)∧(w.frozen? ⟨b,0,none⟩=false∧w.frozen? ⟨b,1,none⟩=false∧w.frozen? ⟨b,2,none⟩=false∧w.frozen? ⟨b,3,none⟩=false∧w.frozen? ⟨b,4,none⟩=false)∧b<w.heap.size
theorem AT.mono {w w1:World} {b:Nat} {v0 v1 v2 v3 v4:Value} (k:AT w b v0 v1 v2 v3 v4) (h:Gr w w1):AT w1 b v0 v1 v2 v3 v4:=by
 obtain⟨⟨k0,k1,k2,k3,k4⟩,⟨f0,f1,f2,f3,f4⟩,hlt⟩:=k
 exact⟨⟨h.cell k0,h.cell k1,h.cell k2,h.cell k3,h.cell k4⟩,⟨h.free (by exact hlt) f0,h.free (by exact hlt) f1,h.free (by exact hlt) f2,h.free (by exact hlt) f3,h.free (by exact hlt) f4⟩,Nat.lt_of_lt_of_le hlt h.size⟩
theorem AT.of {w:World} {b:Nat} {v0 v1 v2 v3 v4:Value} {t:TypeId} (h:w.heap[b]? =some (.cells #[v0,v1,v2,v3,v4] t (0,0))):AT w b v0 v1 v2 v3 v4:=by
 have hlt:b<w.heap.size:=(Array.getElem?_eq_some_iff.1 h).1
 refine⟨⟨?_,?_,?_,?_,?_⟩,⟨?_,?_,?_,?_,?_⟩,hlt⟩<;>simp [World.cell?,World.frozen?,h]
theorem AT.at {w w1:World} {b:Nat} {v0 v1 v2 v3 v4:Value} {t:TypeId} (g:Gr w w1) (h:w.heap[b]? =some (.cells #[v0,v1,v2,v3,v4] t (0,0))):AT w1 b v0 v1 v2 v3 v4:=(AT.of h).mono g
abbrev AU (w:World) (b:Nat) (v0 v1 v2 v3 v4 v5:Value):Prop:=(w.cell? ⟨b,0,none⟩=some v0∧w.cell? ⟨b,1,none⟩=some v1∧w.cell? ⟨b,2,none⟩=some v2∧w.cell? ⟨b,3,none⟩=some v3∧w.cell? ⟨b,4,none⟩=some v4∧w.cell? ⟨b,5,none⟩=some v5)∧(w.frozen? ⟨b,0,none⟩=false∧w.frozen? ⟨b,1,none⟩=false∧w.frozen? ⟨b,2,none⟩=false∧w.frozen? ⟨b,3,none⟩=false∧w.frozen? ⟨b,4,none⟩=false∧w.frozen? ⟨b,5,none⟩=false)∧b<w.heap.size
theorem AU.mono {w w1:World} {b:Nat} {v0 v1 v2 v3 v4 v5:Value} (k:AU w b v0 v1 v2 v3 v4 v5) (h:Gr w w1):AU w1 b v0 v1 v2 v3 v4 v5:=by
 obtain⟨⟨k0,k1,k2,k3,k4,k5⟩,⟨f0,f1,f2,f3,f4,f5⟩,hlt⟩:=k
 exact⟨⟨h.cell k0,h.cell k1,h.cell k2,h.cell k3,h.cell k4,h.cell k5⟩,⟨h.free (by exact hlt) f0,h.free (by exact hlt) f1,h.free (by exact hlt) f2,h.free (by exact hlt) f3,h.free (by exact hlt) f4,h.free (by exact hlt) f5⟩,Nat.lt_of_lt_of_le hlt h.size⟩
theorem AU.of {w:World} {b:Nat} {v0 v1 v2 v3 v4 v5:Value} {t:TypeId} (h:w.heap[b]? =some (.cells #[v0,v1,v2,v3,v4,v5] t (0,0))):AU w b v0 v1 v2 v3 v4 v5:=by
 have hlt:b<w.heap.size:=(Array.getElem?_eq_some_iff.1 h).1
 refine⟨⟨?_,?_,?_,?_,?_,?_⟩,⟨?_,?_,?_,?_,?_,?_⟩,hlt⟩<;>simp [World.cell?,World.frozen?,h]
theorem AU.at {w w1:World} {b:Nat} {v0 v1 v2 v3 v4 v5:Value} {t:TypeId} (g:Gr w w1) (h:w.heap[b]? =some (.cells #[v0,v1,v2,v3,v4,v5] t (0,0))):AU w1 b v0 v1 v2 v3 v4 v5:=(AU.of h).mono g
abbrev AW (w:World) (b:Nat) (v0 v1 v2 v3 v4 v5 v6:Value):Prop:=(w.cell? ⟨b,0,none⟩=some v0∧w.cell? ⟨b,1,none⟩=some v1∧w.cell? ⟨b,2,none⟩=some v2∧w.cell? ⟨b,3,none⟩=some v3∧w.cell? ⟨b,4,none⟩=some v4∧w.cell? ⟨b,5,none⟩=some v5∧w.cell? ⟨b,6,none⟩=some v6)∧(w.frozen? ⟨b,0,none⟩=false∧w.frozen? ⟨b,1,none⟩=false∧w.frozen? ⟨b,2,none⟩=false∧w.frozen? ⟨b,3,none⟩=false∧w.frozen? ⟨b,4,none⟩=false∧w.frozen? ⟨b,5,none⟩=false∧w.frozen? ⟨b,6,none⟩=false)∧b<w.heap.size
theorem AW.mono {w w1:World} {b:Nat} {v0 v1 v2 v3 v4 v5 v6:Value} (k:AW w b v0 v1 v2 v3 v4 v5 v6) (h:Gr w w1):AW w1 b v0 v1 v2 v3 v4 v5 v6:=by
 obtain⟨⟨k0,k1,k2,k3,k4,k5,k6⟩,⟨f0,f1,f2,f3,f4,f5,f6⟩,hlt⟩:=k
 exact⟨⟨h.cell k0,h.cell k1,h.cell k2,h.cell k3,h.cell k4,h.cell k5,h.cell k6⟩,⟨h.free (by exact hlt) f0,h.free (by exact hlt) f1,h.free (by exact hlt) f2,h.free (by exact hlt) f3,h.free (by exact hlt) f4,h.free (by exact hlt) f5,h.free (by exact hlt) f6⟩,Nat.lt_of_lt_of_le hlt h.size⟩
theorem AW.of {w:World} {b:Nat} {v0 v1 v2 v3 v4 v5 v6:Value} {t:TypeId} (h:w.heap[b]? =some (.cells #[v0,v1,v2,v3,v4,v5,v6] t (0,0))):AW w b v0 v1 v2 v3 v4 v5 v6:=by
 have hlt:b<w.heap.size:=(Array.getElem?_eq_some_iff.1 h).1
 refine⟨⟨?_,?_,?_,?_,?_,?_,?_⟩,⟨?_,?_,?_,?_,?_,?_,?_⟩,hlt⟩<;>simp [World.cell?,World.frozen?,h]
theorem AW.at {w w1:World} {b:Nat} {v0 v1 v2 v3 v4 v5 v6:Value} {t:TypeId} (g:Gr w w1) (h:w.heap[b]? =some (.cells #[v0,v1,v2,v3,v4,v5,v6] t (0,0))):AW w1 b v0 v1 v2 v3 v4 v5 v6:=(AW.of h).mono g
abbrev AY (w:World) (b:Nat) (v0 v1 v2 v3 v4 v5 v6 v7:Value):Prop:=(w.cell? ⟨b,0,none⟩=some v0∧w.cell? ⟨b,1,none⟩=some v1∧w.cell? ⟨b,2,none⟩=some v2∧w.cell? ⟨b,3,none⟩=some v3∧w.cell? ⟨b,4,none⟩=some v4∧w.cell? ⟨b,5,none⟩=some v5∧w.cell? ⟨b,6,none⟩=some v6∧w.cell? ⟨b,7,none⟩=some v7)∧(w.frozen? ⟨b,0,none⟩=false∧w.frozen? ⟨b,1,none⟩=false∧w.frozen? ⟨b,2,none⟩=false∧w.frozen? ⟨b,3,none⟩=false∧w.frozen? ⟨b,4,none⟩=false∧w.frozen? ⟨b,5,none⟩=false∧w.frozen? ⟨b,6,none⟩=false∧w.frozen? ⟨b,7,none⟩=false)∧b<w.heap.size
theorem AY.mono {w w1:World} {b:Nat} {v0 v1 v2 v3 v4 v5 v6 v7:Value} (k:AY w b v0 v1 v2 v3 v4 v5 v6 v7) (h:Gr w w1):AY w1 b v0 v1 v2 v3 v4 v5 v6 v7:=by
 obtain⟨⟨k0,k1,k2,k3,k4,k5,k6,k7⟩,⟨f0,f1,f2,f3,f4,f5,f6,f7⟩,hlt⟩:=k
 exact⟨⟨h.cell k0,h.cell k1,h.cell k2,h.cell k3,h.cell k4,h.cell k5,h.cell k6,h.cell k7⟩,⟨h.free (by exact hlt) f0,h.free (by exact hlt) f1,h.free (by exact hlt) f2,h.free (by exact hlt) f3,h.free (by exact hlt) f4,h.free (by exact hlt) f5,h.free (by exact hlt) f6,h.free (by exact hlt) f7⟩,Nat.lt_of_lt_of_le hlt h.size⟩
theorem AY.of {w:World} {b:Nat} {v0 v1 v2 v3 v4 v5 v6 v7:Value} {t:TypeId} (h:w.heap[b]? =some (.cells #[v0,v1,v2,v3,v4,v5,v6,v7] t (0,0))):AY w b v0 v1 v2 v3 v4 v5 v6 v7:=by
 have hlt:b<w.heap.size:=(Array.getElem?_eq_some_iff.1 h).1
 refine⟨⟨?_,?_,?_,?_,?_,?_,?_,?_⟩,⟨?_,?_,?_,?_,?_,?_,?_,?_⟩,hlt⟩<;>simp [World.cell?,World.frozen?,h]
theorem AY.at {w w1:World} {b:Nat} {v0 v1 v2 v3 v4 v5 v6 v7:Value} {t:TypeId} (g:Gr w w1) (h:w.heap[b]? =some (.cells #[v0,v1,v2,v3,v4,v5,v6,v7] t (0,0))):AY w1 b v0 v1 v2 v3 v4 v5 v6 v7:=(AY.of h).mono g
abbrev AZ (w:World) (b:Nat) (v0 v1 v2 v3 v4 v5 v6 v7 v8:Value):Prop:=(w.cell? ⟨b,0,none⟩=some v0∧w.cell? ⟨b,1,none⟩=some v1∧w.cell? ⟨b,2,none⟩=some v2∧w.cell? ⟨b,3,none⟩=some v3∧w.cell? ⟨b,4,none⟩=some v4∧w.cell? ⟨b,5,none⟩=some v5∧w.cell? ⟨b,6,none⟩=some v6∧w.cell? ⟨b,7,none⟩=some v7∧w.cell? ⟨b,8,none⟩=some v8)∧(w.frozen? ⟨b,0,none⟩=false∧w.frozen? ⟨b,1,none⟩=false∧w.frozen? ⟨b,2,none⟩=false∧w.frozen? ⟨b,3,none⟩=false∧w.frozen? ⟨b,4,none⟩=false∧w.frozen? ⟨b,5,none⟩=false∧w.frozen? ⟨b,6,none⟩=false∧w.frozen? ⟨b,7,none⟩=false∧w.frozen? ⟨b,8,none⟩=false)∧b<w.heap.size
theorem AZ.mono {w w1:World} {b:Nat} {v0 v1 v2 v3 v4 v5 v6 v7 v8:Value} (k:AZ w b v0 v1 v2 v3 v4 v5 v6 v7 v8) (h:Gr w w1):AZ w1 b v0 v1 v2 v3 v4 v5 v6 v7 v8:=by
 obtain⟨⟨k0,k1,k2,k3,k4,k5,k6,k7,k8⟩,⟨f0,f1,f2,f3,f4,f5,f6,f7,f8⟩,hlt⟩:=k
 exact⟨⟨h.cell k0,h.cell k1,h.cell k2,h.cell k3,h.cell k4,h.cell k5,h.cell k6,h.cell k7,h.cell k8⟩,⟨h.free (by exact hlt) f0,h.free (by exact hlt) f1,h.free (by exact hlt) f2,h.free (by exact hlt) f3,h.free (by exact hlt) f4,h.free (by exact hlt) f5,h.free (by exact hlt) f6,h.free (by exact hlt) f7,h.free (by exact hlt) f8⟩,Nat.lt_of_lt_of_le hlt h.size⟩
theorem AZ.of {w:World} {b:Nat} {v0 v1 v2 v3 v4 v5 v6 v7 v8:Value} {t:TypeId} (h:w.heap[b]? =some (.cells #[v0,v1,v2,v3,v4,v5,v6,v7,v8] t (0,0))):AZ w b v0 v1 v2 v3 v4 v5 v6 v7 v8:=by
 have hlt:b<w.heap.size:=(Array.getElem?_eq_some_iff.1 h).1
 refine⟨⟨?_,?_,?_,?_,?_,?_,?_,?_,?_⟩,⟨?_,?_,?_,?_,?_,?_,?_,?_,?_⟩,hlt⟩<;>simp [World.cell?,World.frozen?,h]
theorem AZ.at {w w1:World} {b:Nat} {v0 v1 v2 v3 v4 v5 v6 v7 v8:Value} {t:TypeId} (g:Gr w w1) (h:w.heap[b]? =some (.cells #[v0,v1,v2,v3,v4,v5,v6,v7,v8] t (0,0))):AZ w1 b v0 v1 v2 v3 v4 v5 v6 v7 v8:=(AZ.of h).mono g
abbrev AF (w:World) (b:Nat) (v0 v1 v2 v3 v4 v5 v6 v7 v8 v9:Value):Prop:=(w.cell? ⟨b,0,none⟩=some v0∧w.cell? ⟨b,1,none⟩=some v1∧w.cell? ⟨b,2,none⟩=some v2∧w.cell? ⟨b,3,none⟩=some v3∧w.cell? ⟨b,4,none⟩=some v4∧w.cell? ⟨b,5,none⟩=some v5∧w.cell? ⟨b,6,none⟩=some v6∧w.cell? ⟨b,7,none⟩=some v7∧w.cell? ⟨b,8,none⟩=some v8∧w.cell? ⟨b,9,none⟩=some v9)∧(w.frozen? ⟨b,0,none⟩=false∧w.frozen? ⟨b,1,none⟩=false∧w.frozen? ⟨b,2,none⟩=false∧w.frozen? ⟨b,3,none⟩=false∧w.frozen? ⟨b,4,none⟩=false∧w.frozen? ⟨b,5,none⟩=false∧w.frozen? ⟨b,6,none⟩=false∧w.frozen? ⟨b,7,none⟩=false∧w.frozen? ⟨b,8,none⟩=false∧w.frozen? ⟨b,9,none⟩=false)∧b<w.heap.size
theorem AF.mono {w w1:World} {b:Nat} {v0 v1 v2 v3 v4 v5 v6 v7 v8 v9:Value} (k:AF w b v0 v1 v2 v3 v4 v5 v6 v7 v8 v9) (h:Gr w w1):AF w1 b v0 v1 v2 v3 v4 v5 v6 v7 v8 v9:=by
 obtain⟨⟨k0,k1,k2,k3,k4,k5,k6,k7,k8,k9⟩,⟨f0,f1,f2,f3,f4,f5,f6,f7,f8,f9⟩,hlt⟩:=k
 exact⟨⟨h.cell k0,h.cell k1,h.cell k2,h.cell k3,h.cell k4,h.cell k5,h.cell k6,h.cell k7,h.cell k8,h.cell k9⟩,⟨h.free (by exact hlt) f0,h.free (by exact hlt) f1,h.free (by exact hlt) f2,h.free (by exact hlt) f3,h.free (by exact hlt) f4,h.free (by exact hlt) f5,h.free (by exact hlt) f6,h.free (by exact hlt) f7,h.free (by exact hlt) f8,h.free (by exact hlt) f9⟩,Nat.lt_of_lt_of_le hlt h.size⟩
theorem AF.of {w:World} {b:Nat} {v0 v1 v2 v3 v4 v5 v6 v7 v8 v9:Value} {t:TypeId} (h:w.heap[b]? =some (.cells #[v0,v1,v2,v3,v4,v5,v6,v7,v8,v9] t (0,0))):AF w b v0 v1 v2 v3 v4 v5 v6 v7 v8 v9:=by
 have hlt:b<w.heap.size:=(Array.getElem?_eq_some_iff.1 h).1
 refine⟨⟨?_,?_,?_,?_,?_,?_,?_,?_,?_,?_⟩,⟨?_,?_,?_,?_,?_,?_,?_,?_,?_,?_⟩,hlt⟩<;>simp [World.cell?,World.frozen?,h]
theorem AF.at {w w1:World} {b:Nat} {v0 v1 v2 v3 v4 v5 v6 v7 v8 v9:Value} {t:TypeId} (g:Gr w w1) (h:w.heap[b]? =some (.cells #[v0,v1,v2,v3,v4,v5,v6,v7,v8,v9] t (0,0))):AF w1 b v0 v1 v2 v3 v4 v5 v6 v7 v8 v9:=(AF.of h).mono g
abbrev AG (w:World) (b:Nat) (v0 v1 v2 v3 v4 v5 v6 v7 v8 v9 v10:Value):Prop:=(w.cell? ⟨b,0,none⟩=some v0∧w.cell? ⟨b,1,none⟩=some v1∧w.cell? ⟨b,2,none⟩=some v2∧w.cell? ⟨b,3,none⟩=some v3∧w.cell? ⟨b,4,none⟩=some v4∧w.cell? ⟨b,5,none⟩=some v5∧w.cell? ⟨b,6,none⟩=some v6∧w.cell? ⟨b,7,none⟩=some v7∧w.cell? ⟨b,8,none⟩=some v8∧w.cell? ⟨b,9,none⟩=some v9∧w.cell? ⟨b,10,none⟩=some v10)∧(w.frozen? ⟨b,0,none⟩=false∧w.frozen? ⟨b,1,none⟩=false∧w.frozen? ⟨b,2,none⟩=false∧w.frozen? ⟨b,3,none⟩=false∧w.frozen? ⟨b,4,none⟩=false∧w.frozen? ⟨b,5,none⟩=false∧w.frozen? ⟨b,6,none⟩=false∧w.frozen? ⟨b,7,none⟩=false∧w.frozen? ⟨b,8,none⟩=false∧w.frozen? ⟨b,9,none⟩=false∧w.frozen? ⟨b,10,none⟩=false)∧b<w.heap.size
theorem AG.mono {w w1:World} {b:Nat} {v0 v1 v2 v3 v4 v5 v6 v7 v8 v9 v10:Value} (k:AG w b v0 v1 v2 v3 v4 v5 v6 v7 v8 v9 v10) (h:Gr w w1):AG w1 b v0 v1 v2 v3 v4 v5 v6 v7 v8 v9 v10:=by
 obtain⟨⟨k0,k1,k2,k3,k4,k5,k6,k7,k8,k9,CT⟩,⟨f0,f1,f2,f3,f4,f5,f6,f7,f8,f9,f10⟩,hlt⟩:=k
 exact⟨⟨h.cell k0,h.cell k1,h.cell k2,h.cell k3,h.cell k4,h.cell k5,h.cell k6,h.cell k7,h.cell k8,h.cell k9,h.cell CT⟩,⟨h.free (by exact hlt) f0,h.free (by exact hlt) f1,h.free (by exact hlt) f2,h.free (by exact hlt) f3,h.free (by exact hlt) f4,h.free (by exact hlt) f5,h.free (by exact hlt) f6,h.free (by exact hlt) f7,h.free (by exact hlt) f8,h.free (by exact hlt) f9,h.free (by exact hlt) f10⟩,Nat.lt_of_lt_of_le hlt h.size⟩
theorem AG.of {w:World} {b:Nat} {v0 v1 v2 v3 v4 v5 v6 v7 v8 v9 v10:Value} {t:TypeId} (h:w.heap[b]? =some (.cells #[v0,v1,v2,v3,v4,v5,v6,v7,v8,v9,v10] t (0,0))):AG w b v0 v1 v2 v3 v4 v5 v6 v7 v8 v9 v10:=by
 have hlt:b<w.heap.size:=(Array.getElem?_eq_some_iff.1 h).1
 refine⟨⟨?_,?_,?_,?_,?_,?_,?_,?_,?_,?_,?_⟩,⟨?_,?_,?_,?_,?_,?_,?_,?_,?_,?_,?_⟩,hlt⟩<;>simp [World.cell?,World.frozen?,h]
theorem AG.at {w w1:World} {b:Nat} {v0 v1 v2 v3 v4 v5 v6 v7 v8 v9 v10:Value} {t:TypeId} (g:Gr w w1) (h:w.heap[b]? =some (.cells #[v0,v1,v2,v3,v4,v5,v6,v7,v8,v9,v10] t (0,0))):AG w1 b v0 v1 v2 v3 v4 v5 v6 v7 v8 v9 v10:=(AG.of h).mono g
abbrev AH (w:World) (b:Nat) (v0 v1 v2 v3 v4 v5 v6 v7 v8 v9 v10 v11:Value):Prop:=(w.cell? ⟨b,0,none⟩=some v0∧w.cell? ⟨b,1,none⟩=some v1∧w.cell? ⟨b,2,none⟩=some v2∧w.cell? ⟨b,3,none⟩=some v3∧w.cell? ⟨b,4,none⟩=some v4∧w.cell? ⟨b,5,none⟩=some v5∧w.cell? ⟨b,6,none⟩=some v6∧w.cell? ⟨b,7,none⟩=some v7∧w.cell? ⟨b,8,none⟩=some v8∧w.cell? ⟨b,9,none⟩=some v9∧w.cell? ⟨b,10,none⟩=some v10∧w.cell? ⟨b,11,none⟩=some v11)∧(w.frozen? ⟨b,0,none⟩=false∧w.frozen? ⟨b,1,none⟩=false∧w.frozen? ⟨b,2,none⟩=false∧w.frozen? ⟨b,3,none⟩=false∧w.frozen? ⟨b,4,none⟩=false∧w.frozen? ⟨b,5,none⟩=false∧w.frozen? ⟨b,6,none⟩=false∧w.frozen? ⟨b,7,none⟩=false∧w.frozen? ⟨b,8,none⟩=false∧w.frozen? ⟨b,9,none⟩=false∧w.frozen? ⟨b,10,none⟩=false∧w.frozen? ⟨b,11,none⟩=false)∧b<w.heap.size
theorem AH.mono {w w1:World} {b:Nat} {v0 v1 v2 v3 v4 v5 v6 v7 v8 v9 v10 v11:Value} (k:AH w b v0 v1 v2 v3 v4 v5 v6 v7 v8 v9 v10 v11) (h:Gr w w1):AH w1 b v0 v1 v2 v3 v4 v5 v6 v7 v8 v9 v10 v11:=by
 obtain⟨⟨k0,k1,k2,k3,k4,k5,k6,k7,k8,k9,CT,HR⟩,⟨f0,f1,f2,f3,f4,f5,f6,f7,f8,f9,f10,f11⟩,hlt⟩:=k
 exact⟨⟨h.cell k0,h.cell k1,h.cell k2,h.cell k3,h.cell k4,h.cell k5,h.cell k6,h.cell k7,h.cell k8,h.cell k9,h.cell CT,h.cell HR⟩,⟨h.free (by exact hlt) f0,h.free (by exact hlt) f1,h.free (by exact hlt) f2,h.free (by exact hlt) f3,h.free (by exact hlt) f4,h.free (by exact hlt) f5,h.free (by exact hlt) f6,h.free (by exact hlt) f7,h.free (by exact hlt) f8,h.free (by exact hlt) f9,h.free (by exact hlt) f10,h.free (by exact hlt) f11⟩,Nat.lt_of_lt_of_le hlt h.size⟩
theorem AH.of {w:World} {b:Nat} {v0 v1 v2 v3 v4 v5 v6 v7 v8 v9 v10 v11:Value} {t:TypeId} (h:w.heap[b]? =some (.cells #[v0,v1,v2,v3,v4,v5,v6,v7,v8,v9,v10,v11] t (0,0))):AH w b v0 v1 v2 v3 v4 v5 v6 v7 v8 v9 v10 v11:=by
 have hlt:b<w.heap.size:=(Array.getElem?_eq_some_iff.1 h).1
 refine⟨⟨?_,?_,?_,?_,?_,?_,?_,?_,?_,?_,?_,?_⟩,⟨?_,?_,?_,?_,?_,?_,?_,?_,?_,?_,?_,?_⟩,hlt⟩<;>simp [World.cell?,World.frozen?,h]
theorem AH.at {w w1:World} {b:Nat} {v0 v1 v2 v3 v4 v5 v6 v7 v8 v9 v10 v11:Value} {t:TypeId} (g:Gr w w1) (h:w.heap[b]? =some (.cells #[v0,v1,v2,v3,v4,v5,v6,v7,v8,v9,v10,v11] t (0,0))):AH w1 b v0 v1 v2 v3 v4 v5 v6 v7 v8 v9 v10 v11:=(AH.of h).mono g
abbrev AI (w:World) (b:Nat) (v0 v1 v2 v3 v4 v5 v6 v7 v8 v9 v10 v11 v12:Value):Prop:=(w.cell? ⟨b,0,none⟩=some v0∧w.cell? ⟨b,1,none⟩=some v1∧w.cell? ⟨b,2,none⟩=some v2∧w.cell? ⟨b,3,none⟩=some v3∧w.cell? ⟨b,4,none⟩=some v4∧w.cell? ⟨b,5,none⟩=some v5∧w.cell? ⟨b,6,none⟩=some v6∧w.cell? ⟨b,7,none⟩=some v7∧w.cell? ⟨b,8,none⟩=some v8∧w.cell? ⟨b,9,none⟩=some v9∧w.cell? ⟨b,10,none⟩=some v10∧w.cell? ⟨b,11,none⟩=some v11∧w.cell? ⟨b,12,none⟩=some v12)∧(w.frozen? ⟨b,0,none⟩=false∧w.frozen? ⟨b,1,none⟩=false∧w.frozen? ⟨b,2,none⟩=false∧w.frozen? ⟨b,3,none⟩=false∧w.frozen? ⟨b,4,none⟩=false∧w.frozen? ⟨b,5,none⟩=false∧w.frozen? ⟨b,6,none⟩=false∧w.frozen? ⟨b,7,none⟩=false∧w.frozen? ⟨b,8,none⟩=false∧w.frozen? ⟨b,9,none⟩=false∧w.frozen? ⟨b,10,none⟩=false∧w.frozen? ⟨b,11,none⟩=false∧w.frozen? ⟨b,12,none⟩=false)∧b<w.heap.size
theorem AI.mono {w w1:World} {b:Nat} {v0 v1 v2 v3 v4 v5 v6 v7 v8 v9 v10 v11 v12:Value} (k:AI w b v0 v1 v2 v3 v4 v5 v6 v7 v8 v9 v10 v11 v12) (h:Gr w w1):AI w1 b v0 v1 v2 v3 v4 v5 v6 v7 v8 v9 v10 v11 v12:=by
 obtain⟨⟨k0,k1,k2,k3,k4,k5,k6,k7,k8,k9,CT,HR,R6⟩,⟨f0,f1,f2,f3,f4,f5,f6,f7,f8,f9,f10,f11,f12⟩,hlt⟩:=k
 exact⟨⟨h.cell k0,h.cell k1,h.cell k2,h.cell k3,h.cell k4,h.cell k5,h.cell k6,h.cell k7,h.cell k8,h.cell k9,h.cell CT,h.cell HR,h.cell R6⟩,⟨h.free (by exact hlt) f0,h.free (by exact hlt) f1,h.free (by exact hlt) f2,h.free (by exact hlt) f3,h.free (by exact hlt) f4,h.free (by exact hlt) f5,h.free (by exact hlt) f6,h.free (by exact hlt) f7,h.free (by exact hlt) f8,h.free (by exact hlt) f9,h.free (by exact hlt) f10,h.free (by exact hlt) f11,h.free (by exact hlt) f12⟩,Nat.lt_of_lt_of_le hlt h.size⟩
theorem AI.of {w:World} {b:Nat} {v0 v1 v2 v3 v4 v5 v6 v7 v8 v9 v10 v11 v12:Value} {t:TypeId} (h:w.heap[b]? =some (.cells #[v0,v1,v2,v3,v4,v5,v6,v7,v8,v9,v10,v11,v12] t (0,0))):AI w b v0 v1 v2 v3 v4 v5 v6 v7 v8 v9 v10 v11 v12:=by
 have hlt:b<w.heap.size:=(Array.getElem?_eq_some_iff.1 h).1
 refine⟨⟨?_,?_,?_,?_,?_,?_,?_,?_,?_,?_,?_,?_,?_⟩,⟨?_,?_,?_,?_,?_,?_,?_,?_,?_,?_,?_,?_,?_⟩,hlt⟩<;>simp [World.cell?,World.frozen?,h]
theorem AI.at {w w1:World} {b:Nat} {v0 v1 v2 v3 v4 v5 v6 v7 v8 v9 v10 v11 v12:Value} {t:TypeId} (g:Gr w w1) (h:w.heap[b]? =some (.cells #[v0,v1,v2,v3,v4,v5,v6,v7,v8,v9,v10,v11,v12] t (0,0))):AI w1 b v0 v1 v2 v3 v4 v5 v6 v7 v8 v9 v10 v11 v12:=(AI.of h).mono g
abbrev AJ (w:World) (b:Nat) (v0 v1 v2 v3 v4 v5 v6 v7 v8 v9 v10 v11 v12 n9:Value):Prop:=(w.cell? ⟨b,0,none⟩=some v0∧w.cell? ⟨b,1,none⟩=some v1∧w.cell? ⟨b,2,none⟩=some v2∧w.cell? ⟨b,3,none⟩=some v3∧w.cell? ⟨b,4,none⟩=some v4∧w.cell? ⟨b,5,none⟩=some v5∧w.cell? ⟨b,6,none⟩=some v6∧w.cell? ⟨b,7,none⟩=some v7∧w.cell? ⟨b,8,none⟩=some v8∧w.cell? ⟨b,9,none⟩=some v9∧w.cell? ⟨b,10,none⟩=some v10∧w.cell? ⟨b,11,none⟩=some v11∧w.cell? ⟨b,12,none⟩=some v12∧w.cell? ⟨b,13,none⟩=some n9)∧(w.frozen? ⟨b,0,none⟩=false∧w.frozen? ⟨b,1,none⟩=false∧w.frozen? ⟨b,2,none⟩=false∧w.frozen? ⟨b,3,none⟩=false∧w.frozen? ⟨b,4,none⟩=false∧w.frozen? ⟨b,5,none⟩=false∧w.frozen? ⟨b,6,none⟩=false∧w.frozen? ⟨b,7,none⟩=false∧w.frozen? ⟨b,8,none⟩=false∧w.frozen? ⟨b,9,none⟩=false∧w.frozen? ⟨b,10,none⟩=false∧w.frozen? ⟨b,11,none⟩=false∧w.frozen? ⟨b,12,none⟩=false∧w.frozen? ⟨b,13,none⟩=false)∧b<w.heap.size
theorem AJ.mono {w w1:World} {b:Nat} {v0 v1 v2 v3 v4 v5 v6 v7 v8 v9 v10 v11 v12 n9:Value} (k:AJ w b v0 v1 v2 v3 v4 v5 v6 v7 v8 v9 v10 v11 v12 n9) (h:Gr w w1):AJ w1 b v0 v1 v2 v3 v4 v5 v6 v7 v8 v9 v10 v11 v12 n9:=by
 obtain⟨⟨k0,k1,k2,k3,k4,k5,k6,k7,k8,k9,CT,HR,R6,k13⟩,⟨f0,f1,f2,f3,f4,f5,f6,f7,f8,f9,f10,f11,f12,f13⟩,hlt⟩:=k
 exact⟨⟨h.cell k0,h.cell k1,h.cell k2,h.cell k3,h.cell k4,h.cell k5,h.cell k6,h.cell k7,h.cell k8,h.cell k9,h.cell CT,h.cell HR,h.cell R6,h.cell k13⟩,⟨h.free (by exact hlt) f0,h.free (by exact hlt) f1,h.free (by exact hlt) f2,h.free (by exact hlt) f3,h.free (by exact hlt) f4,h.free (by exact hlt) f5,h.free (by exact hlt) f6,h.free (by exact hlt) f7,h.free (by exact hlt) f8,h.free (by exact hlt) f9,h.free (by exact hlt) f10,h.free (by exact hlt) f11,h.free (by exact hlt) f12,h.free (by exact hlt) f13⟩,Nat.lt_of_lt_of_le hlt h.size⟩
theorem AJ.of {w:World} {b:Nat} {v0 v1 v2 v3 v4 v5 v6 v7 v8 v9 v10 v11 v12 n9:Value} {t:TypeId} (h:w.heap[b]? =some (.cells #[v0,v1,v2,v3,v4,v5,v6,v7,v8,v9,v10,v11,v12,n9] t (0,0))):AJ w b v0 v1 v2 v3 v4 v5 v6 v7 v8 v9 v10 v11 v12 n9:=by
 have hlt:b<w.heap.size:=(Array.getElem?_eq_some_iff.1 h).1
 refine⟨⟨?_,?_,?_,?_,?_,?_,?_,?_,?_,?_,?_,?_,?_,?_⟩,⟨?_,?_,?_,?_,?_,?_,?_,?_,?_,?_,?_,?_,?_,?_⟩,hlt⟩<;>simp [World.cell?,World.frozen?,h]
theorem AJ.at {w w1:World} {b:Nat} {v0 v1 v2 v3 v4 v5 v6 v7 v8 v9 v10 v11 v12 n9:Value} {t:TypeId} (g:Gr w w1) (h:w.heap[b]? =some (.cells #[v0,v1,v2,v3,v4,v5,v6,v7,v8,v9,v10,v11,v12,n9] t (0,0))):AJ w1 b v0 v1 v2 v3 v4 v5 v6 v7 v8 v9 v10 v11 v12 n9:=(AJ.of h).mono g
end
section
open Go.RowKit Go.Deep
theorem Gr.cells {w w':World} (g:Gr w w') {a:Addr} {n:Nat} {cs:List Value} (h:∀i,i<n→w.cell? (a.add i)=cs[i]?) (hl:cs.length=n):∀i,i<n→w'.cell? (a.add i)=cs[i]? :=by
 intro i hi
 have h1:=h i hi
 rw[List.getElem?_eq_getElem (by omega)]at h1 ⊢
 exact g.cell h1
structure cQ (α : Type) where
 size:Nat
 is:World→List Value→α→Prop
 len:∀{w cs a},is w cs a→cs.length=size
 mono:∀{w w' cs a},is w cs a→Gr w w'→is w' cs a
 cE:α→Nat
def eD:cQ Int where
 size:=1
 is:=fun _ cs n=>cs=[.int .i64 n]∧-9223372036854775808≤n∧n≤9223372036854775807
 len:=fun h=>by rw[h.1];rfl
 mono:=fun h _=>h
 cE:=fun _=>1
def tE:cQ Bool where
 size:=1
 is:=fun _ cs b=>cs=[.bool b]
 len:=fun h=>by rw[h];rfl
 mono:=fun h _=>h
 cE:=fun _=>1
def qS:cQ ByteArray where
 size:=1
 is:=fun _ cs s=>cs=[.string s]∧s.size≤maxLen
 len:=fun h=>by rw[h.1];rfl
 mono:=fun h _=>h
 cE:=fun s=>s.size+1
def cQ.pair {α β:Type} (c:cQ α) (d:cQ β):cQ (α×β) where
 size:=c.size+d.size
 is:=fun w cs x=>c.is w (cs.take c.size) x.1∧d.is w (cs.drop c.size) x.2
 len:=fun{w cs a} h=>by
  have h1:=c.len h.1
  have h2:=d.len h.2
  simp at h1 h2
  omega
 mono:=fun h g=>⟨c.mono h.1 g,d.mono h.2 g⟩
 cE:=fun x=>c.cE x.1+d.cE x.2
def fk {α:Type} (c:cQ α):cQ (List α) where
 size:=1
 is:=fun w cs l=>(cs=[.slice none 0 0]∧l=[])∨∃(b off:Nat) (sp:Option Nat) (cap:Nat),cs=[.slice (some ⟨b,off,sp⟩) l.length cap]∧l.length≤cap∧cap≤maxLen∧
  ∀i (h:i<l.length),sp=none∧∃cs',(∀j,j<c.size→w.cell? ⟨b,off+(i*c.size+j),none⟩=cs'[j]?)∧c.is w cs' l[i]
 len:=fun h=>by
  rcases h with⟨rfl,_⟩|⟨b,off,sp,cap,rfl,_⟩<;>rfl
 mono:=fun{w w' cs l} h g=>by
  rcases h with h|⟨b,off,sp,cap,h1,h2,h3,h4⟩
  ·exact .inl h
  ·refine .inr ⟨b,off,sp,cap,h1,h2,h3,fun i hi=>?_⟩
   obtain⟨e,cs',h5,h6⟩:=h4 i hi
   refine⟨e,cs',fun j hj=>?_,c.mono h6 g⟩
   have h7:=h5 j hj
   have hl:=c.len h6
   rw[List.getElem?_eq_getElem (by omega)]at h7 ⊢
   exact g.cell h7
 cE:=fun l=>(l.map c.cE).sum+1
def fI {α:Type} (F:Nat→Prop) (P:Program) (c:cQ α) (t:TypeId):Prop:=
 ∀⦃H:Type⦄ ⦃enc:TypeId×Value→H⦄ ⦃w:World⦄ ⦃base:Nat⦄ ⦃spare:Nat→Bool⦄ ⦃held:Bool⦄ ⦃fuel:Nat⦄ ⦃cs:List Value⦄ ⦃x:DataW H×List MemPlace⦄,F fuel→
  DataW.trod enc P w base spare held fuel t cs=some x→∃a,c.is w cs a∧c.cE a≤Rows.uptoBulk x.1
abbrev Reads {α:Type} (P:Program) (c:cQ α) (t:TypeId):Prop:=fI (fun _=>True) P c t
theorem Bv {H:Type} (l:List (DataW H)):Rows.uptoBulkAll l=(l.map Rows.uptoBulk).sum:=by
 induction l with
 |nil=>rfl
 |cons x r ih=>simp only[Rows.uptoBulkAll,List.map_cons,List.sum_cons,ih]
theorem TD {α:Type} (f:α→Nat) (D:Nat→Nat):∀(l:List α) (o:Nat),(∀i (h:i<l.length),f l[i]≤D (o+i))→(l.map f).sum≤((List.range' o l.length).map D).sum
 |[],_,_=>by simp
 |x::r,o,h=>by
  simp only[List.length_cons,List.range'_succ,List.map_cons,List.sum_cons]
  have h0:=h 0 (by simp)
  have:=TD f D r (o+1) (fun i hi=>by have:=h (i+1) (by simp;omega);simp only[List.getElem_cons_succ]at this;rw[show o+1+i=o+(i+1) by omega];exact this)
  simp at h0
  omega
theorem wf_i64 {n:Int} (h:(Lit.int .i64 n).wf=true):-9223372036854775808≤n∧n≤9223372036854775807:=by
 simpa [Lit.wf,IntKind.min,IntKind.max,IntKind.signed,IntKind.bits]using h
theorem VB {H:Type} (d:DataW H):1≤Rows.uptoBulk d:=by
 cases d with
 |lit l=>cases l<;>simp [Rows.uptoBulk]
 |_=>simp [Rows.uptoBulk]
theorem lq {F:Nat→Prop} {P:Program} {t:TypeId} (ht:P.underlying t=some (.int .i64)):fI F P eD t:=by
 intro H enc w base spare held fuel cs x _ h
 obtain⟨n,rfl,_,hw⟩:=DataW.trod_int ht h
 exact⟨n,⟨rfl,wf_i64 hw⟩,VB _⟩
theorem JE {F:Nat→Prop} {P:Program} {t:TypeId} (ht:P.underlying t=some .bool):fI F P tE t:=by
 intro H enc w base spare held fuel cs x _ h
 obtain⟨n,rfl,_⟩:=DataW.trod_bool ht h
 exact⟨n,rfl,VB _⟩
theorem BD {F:Nat→Prop} {P:Program} {t:TypeId} (ht:P.underlying t=some .string):fI F P qS t:=by
 intro H enc w base spare held fuel cs x _ h
 obtain⟨n,rfl,hx,hw⟩:=DataW.trod_string ht h
 refine⟨n,⟨rfl,hw⟩,?_⟩
 subst hx
 simp only[Rows.uptoBulk,qS]
 first|(simp;done)|omega
theorem yu {F:Nat→Prop} {P:Program} {α:Type} {c:cQ α} {t e:TypeId} (ht:P.underlying t=some (.slice e)) (hz:P.cellsOf e=c.size) (hp:0<c.size) (hr:fI (fun m=>F (m+1)) P c e):fI F P (fk c) t:=by
 intro H enc w base spare held fuel cs x hF h
 rcases DataW.trod_slice ht h with⟨rfl,rfl⟩|⟨a,len,cap,elems,rest,n,gV,rfl,HM,hb,hl,hm,hlen,hel,h8,h9⟩
 ·exact⟨[],.inl ⟨rfl,rfl⟩,by simp [fk,Rows.uptoBulk]⟩
 ·obtain⟨D,hD⟩:∃D:Nat→DataW H,D=fun i=>(elems.getD i (.nil,[])).1:=⟨_,rfl⟩
  have key:∀i,i<len→∃(y:α) (cs':List Value),(∀j,j<c.size→w.cell? (a.add (i*c.size+j))=cs'[j]?)∧c.is w cs' y∧c.cE y≤Rows.uptoBulk (D i):=by
   intro i hi
   have hk:=hel i hi
   rw[List.getElem?_eq_getElem (by omega)]at hk
   obtain⟨cs',h1,h2⟩:=Option.bind_eq_some_iff.1 hk
   obtain⟨y,hy,HO⟩:=hr (by subst gV;exact hF) h2
   have HO:c.cE y≤Rows.uptoBulk (D i):=by
    rw[hD]
    simpa [List.getD,List.getElem?_eq_getElem (show i<elems.length by omega)]using HO
   obtain⟨_,h3,h4⟩:=World.cells?_some h1
   refine⟨y,cs',fun j hj=>?_,hy,HO⟩
   have:=h4 j (by rw[hz];exact hj)
   rw[hz]at this
   rw[←this,add_add]
  obtain⟨ys,hys⟩:∃ys:List α,ys.length=len∧∀i (h:i<ys.length),c.cE ys[i]≤Rows.uptoBulk (D i)∧∃cs',(∀j,j<c.size→w.cell? (a.add (i*c.size+j))=cs'[j]?)∧c.is w cs' ys[i]:=by
   clear hel hlen h hl HM h8 h9
   induction len with
   |zero=>exact⟨[],rfl,fun i h=>by simp at h⟩
   |succ k ih=>
    obtain⟨ys,h1,h2⟩:=ih (fun i hi=>key i (by omega))
    obtain⟨y,cs',h3,h4,h4b⟩:=key k (by omega)
    refine⟨ys++[y],by simp [h1],fun i hi=>?_⟩
    by_cases hk:i<ys.length
    ·rw[List.getElem_append_left hk];exact h2 i hk
    ·have:i=k:=by simp at hi;omega
     subst this
     rw[List.getElem_append_right (by omega)]
     simp only[h1,Nat.sub_self,List.getElem_cons_zero]
     exact⟨h4b,cs',h3,h4⟩
  obtain⟨h1,h2⟩:=hys
  obtain⟨b,off,sp⟩:=a
  refine⟨ys,.inr ⟨b,off,sp,cap,by rw[h1],by omega,hm,fun i hi=>?_⟩,?_⟩
  ·have hs:sp=none:=by
    cases sp with
    |none=>rfl
    |some q=>
     exfalso
     obtain⟨_,cs',h3,h4⟩:=h2 0 (by omega)
     have h5:=h3 0 hp
     have hl:=c.len h4
     rw[List.getElem?_eq_getElem (by omega)]at h5
     simp only[Nat.zero_mul,Nat.zero_add,World.cell?,Addr.add]at h5
     split at h5<;>simp at h5
   obtain⟨_,cs',h3,h4⟩:=h2 i hi
   subst hs
   refine⟨rfl,cs',fun j hj=>?_,h4⟩
   have h6:=h3 j hj
   rw[←h6]
   congr 1
   simp only[Addr.add]
   split
   ·rename_i h7;simp only[h7,Nat.add_zero]
   ·rfl
  ·subst HM
   simp only[fk,Rows.uptoBulk,Bv,List.map_map]
   have:=TD c.cE (fun i=>Rows.uptoBulk (D i)) ys 0 (fun i hi=>by simpa using(h2 i hi).1)
   rw[h1,←List.range_eq_range']at this
   have e:List.map (Rows.uptoBulk∘fun x=>x.1) elems=List.map (fun i=>Rows.uptoBulk (D i)) (List.range len):=by
    rw[←hlen,hD]
    apply List.ext_getElem (by simp)
    intro i h3 h4
    simp at h3
    simp [List.getD,List.getElem?_eq_getElem h3]
   rw[e]
   omega
theorem Ds {α:Type} (l:List α) (o n:Nat) (h:l.length=o+n):(l.drop o).take n=l.drop o:=List.take_of_length_le (by simp;omega)
theorem acQ {α:Type} (l:List α) (h:l.length=2):∃x0 x1,l=[x0,x1]:=by
 match l,h with
 |[x0,x1],_=>exact⟨x0,x1,rfl⟩
theorem Dp {F:Nat→Prop} {P:Program} {wD wE:Type} {t:TypeId} {f0 f1:Field} {c0:cQ wD} {c1:cQ wE} (ht:P.underlying t=some (.struct #[f0,f1])) (hz:P.cellsOf t=c0.size+c1.size) (o0:f0.offset=0) (o1:f1.offset=c0.size) (z0:P.cellsOf f0.type=c0.size) (z1:P.cellsOf f1.type=c1.size) (r0:fI (fun m=>F (m+1)) P c0 f0.type) (r1:fI (fun m=>F (m+1)) P c1 f1.type):fI F P (c0.pair c1) t:=by
 intro H enc w base spare held fuel cs x hF h
 obtain⟨xs,m,gV,dY,hlen,hxl,hf⟩:=DataW.trod_struct ht h
 rw[hz]at hlen
 have hxl:xs.length=2:=hxl
 have h0:=hf 0 f0 rfl
 rw[o0,z0,List.getElem?_eq_getElem (show 0<xs.length by omega)]at h0
 obtain⟨a0,k0,b0⟩:=r0 (by subst gV;exact hF) h0
 have h1:=hf 1 f1 rfl
 rw[o1,z1,List.getElem?_eq_getElem (show 1<xs.length by omega)]at h1
 obtain⟨a1,k1,b1⟩:=r1 (by subst gV;exact hF) h1
 rw[Ds cs (c0.size) c1.size (by omega)]at k1
 refine⟨(a0,a1),?_,?_⟩
 ·exact⟨by simpa using k0,(by simpa [List.drop_drop,Nat.add_assoc]using k1)⟩
 ·subst dY
  simp only[Rows.uptoBulk,Bv,cQ.pair]
  have hs:(List.map Rows.uptoBulk (xs.map (·.1))).sum=Rows.uptoBulk xs[0].1+(Rows.uptoBulk xs[1].1):=by
   obtain⟨x0,x1,rfl⟩:=acQ xs hxl
   simp
  rw[hs]
  exact Nat.le_succ_of_le (Nat.add_le_add b0 b1)
theorem acR {α:Type} (l:List α) (h:l.length=3):∃x0 x1 x2,l=[x0,x1,x2]:=by
 match l,h with
 |[x0,x1,x2],_=>exact⟨x0,x1,x2,rfl⟩
theorem M4 {F:Nat→Prop} {P:Program} {wD wE zT:Type} {t:TypeId} {f0 f1 f2:Field} {c0:cQ wD} {c1:cQ wE} {c2:cQ zT} (ht:P.underlying t=some (.struct #[f0,f1,f2])) (hz:P.cellsOf t=c0.size+c1.size+c2.size) (o0:f0.offset=0) (o1:f1.offset=c0.size) (o2:f2.offset=c0.size+c1.size) (z0:P.cellsOf f0.type=c0.size) (z1:P.cellsOf f1.type=c1.size) (z2:P.cellsOf f2.type=c2.size) (r0:fI (fun m=>F (m+1)) P c0 f0.type) (r1:fI (fun m=>F (m+1)) P c1 f1.type) (r2:fI (fun m=>F (m+1)) P c2 f2.type):fI F P (c0.pair (c1.pair c2)) t:=by
 intro H enc w base spare held fuel cs x hF h
 obtain⟨xs,m,gV,dY,hlen,hxl,hf⟩:=DataW.trod_struct ht h
 rw[hz]at hlen
 have hxl:xs.length=3:=hxl
 have h0:=hf 0 f0 rfl
 rw[o0,z0,List.getElem?_eq_getElem (show 0<xs.length by omega)]at h0
 obtain⟨a0,k0,b0⟩:=r0 (by subst gV;exact hF) h0
 have h1:=hf 1 f1 rfl
 rw[o1,z1,List.getElem?_eq_getElem (show 1<xs.length by omega)]at h1
 obtain⟨a1,k1,b1⟩:=r1 (by subst gV;exact hF) h1
 have h2:=hf 2 f2 rfl
 rw[o2,z2,List.getElem?_eq_getElem (show 2<xs.length by omega)]at h2
 obtain⟨a2,k2,b2⟩:=r2 (by subst gV;exact hF) h2
 rw[Ds cs (c0.size+c1.size) c2.size (by omega)]at k2
 refine⟨(a0,(a1,a2)),?_,?_⟩
 ·exact⟨by simpa using k0,⟨by simpa [List.drop_drop,Nat.add_assoc]using k1,(by simpa [List.drop_drop,Nat.add_assoc]using k2)⟩⟩
 ·subst dY
  simp only[Rows.uptoBulk,Bv,cQ.pair]
  have hs:(List.map Rows.uptoBulk (xs.map (·.1))).sum=Rows.uptoBulk xs[0].1+(Rows.uptoBulk xs[1].1+(Rows.uptoBulk xs[2].1)):=by
   obtain⟨x0,x1,x2,rfl⟩:=acR xs hxl
   simp
  rw[hs]
  exact Nat.le_succ_of_le (Nat.add_le_add b0 (Nat.add_le_add b1 b2))
theorem acS {α:Type} (l:List α) (h:l.length=4):∃x0 x1 x2 x3,l=[x0,x1,x2,x3]:=by
 match l,h with
 |[x0,x1,x2,x3],_=>exact⟨x0,x1,x2,x3,rfl⟩
theorem acu {F:Nat→Prop} {P:Program} {wD wE zT C5:Type} {t:TypeId} {f0 f1 f2 f3:Field} {c0:cQ wD} {c1:cQ wE} {c2:cQ zT} {c3:cQ C5} (ht:P.underlying t=some (.struct #[f0,f1,f2,f3])) (hz:P.cellsOf t=c0.size+c1.size+c2.size+c3.size) (o0:f0.offset=0) (o1:f1.offset=c0.size) (o2:f2.offset=c0.size+c1.size) (o3:f3.offset=c0.size+c1.size+c2.size) (z0:P.cellsOf f0.type=c0.size) (z1:P.cellsOf f1.type=c1.size) (z2:P.cellsOf f2.type=c2.size) (z3:P.cellsOf f3.type=c3.size) (r0:fI (fun m=>F (m+1)) P c0 f0.type) (r1:fI (fun m=>F (m+1)) P c1 f1.type) (r2:fI (fun m=>F (m+1)) P c2 f2.type) (r3:fI (fun m=>F (m+1)) P c3 f3.type):fI F P (c0.pair (c1.pair (c2.pair c3))) t:=by
 intro H enc w base spare held fuel cs x hF h
 obtain⟨xs,m,gV,dY,hlen,hxl,hf⟩:=DataW.trod_struct ht h
 rw[hz]at hlen
 have hxl:xs.length=4:=hxl
 have h0:=hf 0 f0 rfl
 rw[o0,z0,List.getElem?_eq_getElem (show 0<xs.length by omega)]at h0
 obtain⟨a0,k0,b0⟩:=r0 (by subst gV;exact hF) h0
 have h1:=hf 1 f1 rfl
 rw[o1,z1,List.getElem?_eq_getElem (show 1<xs.length by omega)]at h1
 obtain⟨a1,k1,b1⟩:=r1 (by subst gV;exact hF) h1
 have h2:=hf 2 f2 rfl
 rw[o2,z2,List.getElem?_eq_getElem (show 2<xs.length by omega)]at h2
 obtain⟨a2,k2,b2⟩:=r2 (by subst gV;exact hF) h2
 have h3:=hf 3 f3 rfl
 rw[o3,z3,List.getElem?_eq_getElem (show 3<xs.length by omega)]at h3
 obtain⟨a3,k3,b3⟩:=r3 (by subst gV;exact hF) h3
 rw[Ds cs (c0.size+c1.size+c2.size) c3.size (by omega)]at k3
 refine⟨(a0,(a1,(a2,a3))),?_,?_⟩
 ·exact⟨by simpa using k0,⟨by simpa [List.drop_drop,Nat.add_assoc]using k1,⟨by simpa [List.drop_drop,Nat.add_assoc]using k2,(by simpa [List.drop_drop,Nat.add_assoc]using k3)⟩⟩⟩
 ·subst dY
  simp only[Rows.uptoBulk,Bv,cQ.pair]
  have hs:(List.map Rows.uptoBulk (xs.map (·.1))).sum=Rows.uptoBulk xs[0].1+(Rows.uptoBulk xs[1].1+(Rows.uptoBulk xs[2].1+(Rows.uptoBulk xs[3].1))):=by
   obtain⟨x0,x1,x2,x3,rfl⟩:=acS xs hxl
   simp
  rw[hs]
  exact Nat.le_succ_of_le (Nat.add_le_add b0 (Nat.add_le_add b1 (Nat.add_le_add b2 b3)))
theorem acT {α:Type} (l:List α) (h:l.length=6):∃x0 x1 x2 x3 x4 x5,l=[x0,x1,x2,x3,x4,x5]:=by
 match l,h with
 |[x0,x1,x2,x3,x4,x5],_=>exact⟨x0,x1,x2,x3,x4,x5,rfl⟩
theorem acv {F:Nat→Prop} {P:Program} {wD wE zT C5 Ik Il:Type} {t:TypeId} {f0 f1 f2 f3 f4 f5:Field} {c0:cQ wD} {c1:cQ wE} {c2:cQ zT} {c3:cQ C5} {c4:cQ Ik} {c5:cQ Il} (ht:P.underlying t=some (.struct #[f0,f1,f2,f3,f4,f5])) (hz:P.cellsOf t=c0.size+c1.size+c2.size+c3.size+c4.size+c5.size) (o0:f0.offset=0) (o1:f1.offset=c0.size) (o2:f2.offset=c0.size+c1.size) (o3:f3.offset=c0.size+c1.size+c2.size) (o4:f4.offset=c0.size+c1.size+c2.size+c3.size) (o5:f5.offset=c0.size+c1.size+c2.size+c3.size+c4.size) (z0:P.cellsOf f0.type=c0.size) (z1:P.cellsOf f1.type=c1.size) (z2:P.cellsOf f2.type=c2.size) (z3:P.cellsOf f3.type=c3.size) (z4:P.cellsOf f4.type=c4.size) (z5:P.cellsOf f5.type=c5.size) (r0:fI (fun m=>F (m+1)) P c0 f0.type) (r1:fI (fun m=>F (m+1)) P c1 f1.type) (r2:fI (fun m=>F (m+1)) P c2 f2.type) (r3:fI (fun m=>F (m+1)) P c3 f3.type) (r4:fI (fun m=>F (m+1)) P c4 f4.type) (r5:fI (fun m=>F (m+1)) P c5 f5.type):fI F P (c0.pair (c1.pair (c2.pair (c3.pair (c4.pair c5))))) t:=by
 intro H enc w base spare held fuel cs x hF h
 obtain⟨xs,m,gV,dY,hlen,hxl,hf⟩:=DataW.trod_struct ht h
 rw[hz]at hlen
 have hxl:xs.length=6:=hxl
 have h0:=hf 0 f0 rfl
 rw[o0,z0,List.getElem?_eq_getElem (show 0<xs.length by omega)]at h0
 obtain⟨a0,k0,b0⟩:=r0 (by subst gV;exact hF) h0
 have h1:=hf 1 f1 rfl
 rw[o1,z1,List.getElem?_eq_getElem (show 1<xs.length by omega)]at h1
 obtain⟨a1,k1,b1⟩:=r1 (by subst gV;exact hF) h1
 have h2:=hf 2 f2 rfl
 rw[o2,z2,List.getElem?_eq_getElem (show 2<xs.length by omega)]at h2
 obtain⟨a2,k2,b2⟩:=r2 (by subst gV;exact hF) h2
 have h3:=hf 3 f3 rfl
 rw[o3,z3,List.getElem?_eq_getElem (show 3<xs.length by omega)]at h3
 obtain⟨a3,k3,b3⟩:=r3 (by subst gV;exact hF) h3
 have h4:=hf 4 f4 rfl
 rw[o4,z4,List.getElem?_eq_getElem (show 4<xs.length by omega)]at h4
 obtain⟨a4,k4,b4⟩:=r4 (by subst gV;exact hF) h4
 have h5:=hf 5 f5 rfl
 rw[o5,z5,List.getElem?_eq_getElem (show 5<xs.length by omega)]at h5
 obtain⟨a5,k5,b5⟩:=r5 (by subst gV;exact hF) h5
 rw[Ds cs (c0.size+c1.size+c2.size+c3.size+c4.size) c5.size (by omega)]at k5
 refine⟨(a0,(a1,(a2,(a3,(a4,a5))))),?_,?_⟩
 ·exact⟨by simpa using k0,⟨by simpa [List.drop_drop,Nat.add_assoc]using k1,⟨by simpa [List.drop_drop,Nat.add_assoc]using k2,⟨by simpa [List.drop_drop,Nat.add_assoc]using k3,⟨by simpa [List.drop_drop,Nat.add_assoc]using k4,(by simpa [List.drop_drop,Nat.add_assoc]using k5)⟩⟩⟩⟩⟩
 ·subst dY
  simp only[Rows.uptoBulk,Bv,cQ.pair]
  have hs:(List.map Rows.uptoBulk (xs.map (·.1))).sum=Rows.uptoBulk xs[0].1+(Rows.uptoBulk xs[1].1+(Rows.uptoBulk xs[2].1+(Rows.uptoBulk xs[3].1+(Rows.uptoBulk xs[4].1+(Rows.uptoBulk xs[5].1))))):=by
   obtain⟨x0,x1,x2,x3,x4,x5,rfl⟩:=acT xs hxl
   simp
  rw[hs]
  exact Nat.le_succ_of_le (Nat.add_le_add b0 (Nat.add_le_add b1 (Nat.add_le_add b2 (Nat.add_le_add b3 (Nat.add_le_add b4 b5)))))
theorem acU {α:Type} (l:List α) (h:l.length=7):∃x0 x1 x2 x3 x4 x5 x6,l=[x0,x1,x2,x3,x4,x5,x6]:=by
 match l,h with
 |[x0,x1,x2,x3,x4,x5,x6],_=>exact⟨x0,x1,x2,x3,x4,x5,x6,rfl⟩
theorem acw {F:Nat→Prop} {P:Program} {wD wE zT C5 Ik Il SH:Type} {t:TypeId} {f0 f1 f2 f3 f4 f5 f6:Field} {c0:cQ wD} {c1:cQ wE} {c2:cQ zT} {c3:cQ C5} {c4:cQ Ik} {c5:cQ Il} {c6:cQ SH} (ht:P.underlying t=some (.struct #[f0,f1,f2,f3,f4,f5,f6])) (hz:P.cellsOf t=c0.size+c1.size+c2.size+c3.size+c4.size+c5.size+c6.size) (o0:f0.offset=0) (o1:f1.offset=c0.size) (o2:f2.offset=c0.size+c1.size) (o3:f3.offset=c0.size+c1.size+c2.size) (o4:f4.offset=c0.size+c1.size+c2.size+c3.size) (o5:f5.offset=c0.size+c1.size+c2.size+c3.size+c4.size) (o6:f6.offset=c0.size+c1.size+c2.size+c3.size+c4.size+c5.size) (z0:P.cellsOf f0.type=c0.size) (z1:P.cellsOf f1.type=c1.size) (z2:P.cellsOf f2.type=c2.size) (z3:P.cellsOf f3.type=c3.size) (z4:P.cellsOf f4.type=c4.size) (z5:P.cellsOf f5.type=c5.size) (z6:P.cellsOf f6.type=c6.size) (r0:fI (fun m=>F (m+1)) P c0 f0.type) (r1:fI (fun m=>F (m+1)) P c1 f1.type) (r2:fI (fun m=>F (m+1)) P c2 f2.type) (r3:fI (fun m=>F (m+1)) P c3 f3.type) (r4:fI (fun m=>F (m+1)) P c4 f4.type) (r5:fI (fun m=>F (m+1)) P c5 f5.type) (r6:fI (fun m=>F (m+1)) P c6 f6.type):fI F P (c0.pair (c1.pair (c2.pair (c3.pair (c4.pair (c5.pair c6)))))) t:=by
 intro H enc w base spare held fuel cs x hF h
 obtain⟨xs,m,gV,dY,hlen,hxl,hf⟩:=DataW.trod_struct ht h
 rw[hz]at hlen
 have hxl:xs.length=7:=hxl
 have h0:=hf 0 f0 rfl
 rw[o0,z0,List.getElem?_eq_getElem (show 0<xs.length by omega)]at h0
 obtain⟨a0,k0,b0⟩:=r0 (by subst gV;exact hF) h0
 have h1:=hf 1 f1 rfl
 rw[o1,z1,List.getElem?_eq_getElem (show 1<xs.length by omega)]at h1
 obtain⟨a1,k1,b1⟩:=r1 (by subst gV;exact hF) h1
 have h2:=hf 2 f2 rfl
 rw[o2,z2,List.getElem?_eq_getElem (show 2<xs.length by omega)]at h2
 obtain⟨a2,k2,b2⟩:=r2 (by subst gV;exact hF) h2
 have h3:=hf 3 f3 rfl
 rw[o3,z3,List.getElem?_eq_getElem (show 3<xs.length by omega)]at h3
 obtain⟨a3,k3,b3⟩:=r3 (by subst gV;exact hF) h3
 have h4:=hf 4 f4 rfl
 rw[o4,z4,List.getElem?_eq_getElem (show 4<xs.length by omega)]at h4
 obtain⟨a4,k4,b4⟩:=r4 (by subst gV;exact hF) h4
 have h5:=hf 5 f5 rfl
 rw[o5,z5,List.getElem?_eq_getElem (show 5<xs.length by omega)]at h5
 obtain⟨a5,k5,b5⟩:=r5 (by subst gV;exact hF) h5
 have h6:=hf 6 f6 rfl
 rw[o6,z6,List.getElem?_eq_getElem (show 6<xs.length by omega)]at h6
 obtain⟨a6,k6,b6⟩:=r6 (by subst gV;exact hF) h6
 rw[Ds cs (c0.size+c1.size+c2.size+c3.size+c4.size+c5.size) c6.size (by omega)]at k6
 refine⟨(a0,(a1,(a2,(a3,(a4,(a5,a6)))))),?_,?_⟩
 ·exact⟨by simpa using k0,⟨by simpa [List.drop_drop,Nat.add_assoc]using k1,⟨by simpa [List.drop_drop,Nat.add_assoc]using k2,⟨by simpa [List.drop_drop,Nat.add_assoc]using k3,⟨by simpa [List.drop_drop,Nat.add_assoc]using k4,⟨by simpa [List.drop_drop,Nat.add_assoc]using k5,(by simpa [List.drop_drop,Nat.add_assoc]using k6)⟩⟩⟩⟩⟩⟩
 ·subst dY
  simp only[Rows.uptoBulk,Bv,cQ.pair]
  have hs:(List.map Rows.uptoBulk (xs.map (·.1))).sum=Rows.uptoBulk xs[0].1+(Rows.uptoBulk xs[1].1+(Rows.uptoBulk xs[2].1+(Rows.uptoBulk xs[3].1+(Rows.uptoBulk xs[4].1+(Rows.uptoBulk xs[5].1+(Rows.uptoBulk xs[6].1)))))):=by
   obtain⟨x0,x1,x2,x3,x4,x5,x6,rfl⟩:=acU xs hxl
   simp
  rw[hs]
  exact Nat.le_succ_of_le (Nat.add_le_add b0 (Nat.add_le_add b1 (Nat.add_le_add b2 (Nat.add_le_add b3 (Nat.add_le_add b4 (Nat.add_le_add b5 b6))))))
theorem aco {α:Type} (l:List α) (h:l.length=10):∃x0 x1 x2 x3 x4 x5 x6 x7 x8 x9,l=[x0,x1,x2,x3,x4,x5,x6,x7,x8,x9]:=by
 match l,h with
 |[x0,x1,x2,x3,x4,x5,x6,x7,x8,x9],_=>exact⟨x0,x1,x2,x3,x4,x5,x6,x7,x8,x9,rfl⟩
theorem ab6 {F:Nat→Prop} {P:Program} {wD wE zT C5 Ik Il SH α7 α8 α9:Type} {t:TypeId} {f0 f1 f2 f3 f4 f5 f6 f7 f8 f9:Field} {c0:cQ wD} {c1:cQ wE} {c2:cQ zT} {c3:cQ C5} {c4:cQ Ik} {c5:cQ Il} {c6:cQ SH} {c7:cQ α7} {c8:cQ α8} {c9:cQ α9} (ht:P.underlying t=some (.struct #[f0,f1,f2,f3,f4,f5,f6,f7,f8,f9])) (hz:P.cellsOf t=c0.size+c1.size+c2.size+c3.size+c4.size+c5.size+c6.size+c7.size+c8.size+c9.size) (o0:f0.offset=0) (o1:f1.offset=c0.size) (o2:f2.offset=c0.size+c1.size) (o3:f3.offset=c0.size+c1.size+c2.size) (o4:f4.offset=c0.size+c1.size+c2.size+c3.size) (o5:f5.offset=c0.size+c1.size+c2.size+c3.size+c4.size) (o6:f6.offset=c0.size+c1.size+c2.size+c3.size+c4.size+c5.size) (o7:f7.offset=c0.size+c1.size+c2.size+c3.size+c4.size+c5.size+c6.size) (o8:f8.offset=c0.size+c1.size+c2.size+c3.size+c4.size+c5.size+c6.size+c7.size) (o9:f9.offset=c0.size+c1.size+c2.size+c3.size+c4.size+c5.size+c6.size+c7.size+c8.size) (z0:P.cellsOf f0.type=c0.size) (z1:P.cellsOf f1.type=c1.size) (z2:P.cellsOf f2.type=c2.size) (z3:P.cellsOf f3.type=c3.size) (z4:P.cellsOf f4.type=c4.size) (z5:P.cellsOf f5.type=c5.size) (z6:P.cellsOf f6.type=c6.size) (z7:P.cellsOf f7.type=c7.size) (z8:P.cellsOf f8.type=c8.size) (z9:P.cellsOf f9.type=c9.size) (r0:fI (fun m=>F (m+1)) P c0 f0.type) (r1:fI (fun m=>F (m+1)) P c1 f1.type) (r2:fI (fun m=>F (m+1)) P c2 f2.type) (r3:fI (fun m=>F (m+1)) P c3 f3.type) (r4:fI (fun m=>F (m+1)) P c4 f4.type) (r5:fI (fun m=>F (m+1)) P c5 f5.type) (r6:fI (fun m=>F (m+1)) P c6 f6.type) (r7:fI (fun m=>F (m+1)) P c7 f7.type) (r8:fI (fun m=>F (m+1)) P c8 f8.type) (r9:fI (fun m=>F (m+1)) P c9 f9.type):fI F P (c0.pair (c1.pair (c2.pair (c3.pair (c4.pair (c5.pair (c6.pair (c7.pair (c8.pair c9))))))))) t:=by
 intro H enc w base spare held fuel cs x hF h
 obtain⟨xs,m,gV,dY,hlen,hxl,hf⟩:=DataW.trod_struct ht h
 rw[hz]at hlen
 have hxl:xs.length=10:=hxl
 have h0:=hf 0 f0 rfl
 rw[o0,z0,List.getElem?_eq_getElem (show 0<xs.length by omega)]at h0
 obtain⟨a0,k0,b0⟩:=r0 (by subst gV;exact hF) h0
 have h1:=hf 1 f1 rfl
 rw[o1,z1,List.getElem?_eq_getElem (show 1<xs.length by omega)]at h1
 obtain⟨a1,k1,b1⟩:=r1 (by subst gV;exact hF) h1
 have h2:=hf 2 f2 rfl
 rw[o2,z2,List.getElem?_eq_getElem (show 2<xs.length by omega)]at h2
 obtain⟨a2,k2,b2⟩:=r2 (by subst gV;exact hF) h2
 have h3:=hf 3 f3 rfl
 rw[o3,z3,List.getElem?_eq_getElem (show 3<xs.length by omega)]at h3
 obtain⟨a3,k3,b3⟩:=r3 (by subst gV;exact hF) h3
 have h4:=hf 4 f4 rfl
 rw[o4,z4,List.getElem?_eq_getElem (show 4<xs.length by omega)]at h4
 obtain⟨a4,k4,b4⟩:=r4 (by subst gV;exact hF) h4
 have h5:=hf 5 f5 rfl
 rw[o5,z5,List.getElem?_eq_getElem (show 5<xs.length by omega)]at h5
 obtain⟨a5,k5,b5⟩:=r5 (by subst gV;exact hF) h5
 have h6:=hf 6 f6 rfl
 rw[o6,z6,List.getElem?_eq_getElem (show 6<xs.length by omega)]at h6
 obtain⟨a6,k6,b6⟩:=r6 (by subst gV;exact hF) h6
 have h7:=hf 7 f7 rfl
 rw[o7,z7,List.getElem?_eq_getElem (show 7<xs.length by omega)]at h7
 obtain⟨a7,k7,b7⟩:=r7 (by subst gV;exact hF) h7
 have h8:=hf 8 f8 rfl
 rw[o8,z8,List.getElem?_eq_getElem (show 8<xs.length by omega)]at h8
 obtain⟨a8,k8,b8⟩:=r8 (by subst gV;exact hF) h8
 have h9:=hf 9 f9 rfl
 rw[o9,z9,List.getElem?_eq_getElem (show 9<xs.length by omega)]at h9
 obtain⟨a9,k9,b9⟩:=r9 (by subst gV;exact hF) h9
 rw[Ds cs (c0.size+c1.size+c2.size+c3.size+c4.size+c5.size+c6.size+c7.size+c8.size) c9.size (by omega)]at k9
 refine⟨(a0,(a1,(a2,(a3,(a4,(a5,(a6,(a7,(a8,a9))))))))),?_,?_⟩
 ·exact⟨by simpa using k0,⟨by simpa [List.drop_drop,Nat.add_assoc]using k1,⟨by simpa [List.drop_drop,Nat.add_assoc]using k2,⟨by simpa [List.drop_drop,Nat.add_assoc]using k3,⟨by simpa [List.drop_drop,Nat.add_assoc]using k4,⟨by simpa [List.drop_drop,Nat.add_assoc]using k5,⟨by simpa [List.drop_drop,Nat.add_assoc]using k6,⟨by simpa [List.drop_drop,Nat.add_assoc]using k7,⟨by simpa [List.drop_drop,Nat.add_assoc]using k8,(by simpa [List.drop_drop,Nat.add_assoc]using k9)⟩⟩⟩⟩⟩⟩⟩⟩⟩
 ·subst dY
  simp only[Rows.uptoBulk,Bv,cQ.pair]
  have hs:(List.map Rows.uptoBulk (xs.map (·.1))).sum=Rows.uptoBulk xs[0].1+(Rows.uptoBulk xs[1].1+(Rows.uptoBulk xs[2].1+(Rows.uptoBulk xs[3].1+(Rows.uptoBulk xs[4].1+(Rows.uptoBulk xs[5].1+(Rows.uptoBulk xs[6].1+(Rows.uptoBulk xs[7].1+(Rows.uptoBulk xs[8].1+(Rows.uptoBulk xs[9].1))))))))):=by
   obtain⟨x0,x1,x2,x3,x4,x5,x6,x7,x8,x9,rfl⟩:=aco xs hxl
   simp
  rw[hs]
  exact Nat.le_succ_of_le (Nat.add_le_add b0 (Nat.add_le_add b1 (Nat.add_le_add b2 (Nat.add_le_add b3 (Nat.add_le_add b4 (Nat.add_le_add b5 (Nat.add_le_add b6 (Nat.add_le_add b7 (Nat.add_le_add b8 b9)))))))))
end
section
open Go.RowKit Go.Deep
theorem fI.imp {F:Nat→Prop} {P:Program} {α β:Type} {c:cQ α} {d:cQ β} {t:TypeId} (h:fI F P c t) (k:∀w cs a,c.is w cs a→∃b,d.is w cs b∧d.cE b≤c.cE a):fI F P d t:=by
 intro H enc w base spare held fuel cs x hF h1
 obtain⟨a,ha,hb⟩:=h hF h1
 obtain⟨b,h2,h3⟩:=k _ _ _ ha
 exact⟨b,h2,Nat.le_trans h3 hb⟩
theorem iE {α:Type} {cs a b:List α} {n:Nat} (h1:cs.take n=a) (h2:cs.drop n=b):cs=a++b:=by rw[←h1,←h2,List.take_append_drop]
def vq:cQ kL where
 size:=2
 is:=fun w cs x=>cs=[.int .i64 x.time,.int .i64 x.way]∧aZ x.time∧aZ x.way
 len:=fun h=>by obtain⟨rfl,_⟩:=h;rfl
 mono:=fun h _=>h
 cE:=fun x=>eD.cE x.time+(eD.cE x.way)
theorem adC:Reads Tryz.prog vq 94:=
 (Dp (F:=fun _=>True) Tryz.underlying94 (c0:=eD) (c1:=eD) (by kernel_rfl) rfl rfl (by kernel_rfl) (by kernel_rfl) (lq Tryz.underlying3) (lq Tryz.underlying3)).imp fun w cs a h=>by
  obtain⟨a0,a1⟩:=a
  obtain⟨h0,h1⟩:=h
  obtain⟨e0,b0⟩:=h0
  obtain⟨e1,b1⟩:=h1
  have lH:=iE e0 e1
  exact⟨⟨a0,a1⟩,⟨by rw[lH];rfl,b0,b1⟩,Nat.le_refl _⟩
theorem ac0:Reads Tryz.prog (fk vq) 68:=yu Tryz.underlying68 (c:=vq) (by kernel_rfl) (by decide) adC
def PR:cQ rB where
 size:=2
 is:=fun w cs x=>∃v0:Value,cs=[.int .i64 x.kind,v0]∧aZ x.kind∧(fk vq).is w [v0] x.points
 len:=fun h=>by obtain⟨v0,rfl,_⟩:=h;rfl
 mono:=fun{w w' cs x} h g=>by obtain⟨v0,e,h0,h1⟩:=h;exact⟨v0,e,h0,((fk vq)).mono h1 g⟩
 cE:=fun x=>eD.cE x.kind+((fk vq).cE x.points)
theorem adz:Reads Tryz.prog PR 70:=
 (Dp (F:=fun _=>True) Tryz.underlying70 (c0:=eD) (c1:=(fk vq)) (by kernel_rfl) rfl rfl (by kernel_rfl) (by kernel_rfl) (lq Tryz.underlying3) ac0).imp fun w cs a h=>by
  obtain⟨a0,a1⟩:=a
  obtain⟨h0,h1⟩:=h
  obtain⟨e0,b0⟩:=h0
  obtain⟨s1,e1⟩:=List.length_eq_one_iff.1 (((fk vq)).len h1);rw[e1]at h1
  have lH:=iE e0 e1
  exact⟨⟨a0,a1⟩,⟨s1,by rw[lH];rfl,b0,h1⟩,Nat.le_refl _⟩
def yL:cQ ng where
 size:=3
 is:=fun w cs x=>cs=[.int .i64 x.low,.int .i64 x.high,.string x.name]∧aZ x.low∧aZ x.high∧x.name.size≤maxLen
 len:=fun h=>by obtain⟨rfl,_⟩:=h;rfl
 mono:=fun h _=>h
 cE:=fun x=>eD.cE x.low+(eD.cE x.high+(qS.cE x.name))
theorem adD:Reads Tryz.prog yL 238:=
 (M4 (F:=fun _=>True) Tryz.underlying238 (c0:=eD) (c1:=eD) (c2:=qS) (by kernel_rfl) rfl rfl rfl (by kernel_rfl) (by kernel_rfl) (by kernel_rfl) (lq Tryz.underlying3) (lq Tryz.underlying3) (BD Tryz.underlying9)).imp fun w cs a h=>by
  obtain⟨a0,a1,a2⟩:=a
  obtain⟨h0,h1,h2⟩:=h
  obtain⟨e0,b0⟩:=h0
  obtain⟨e1,b1⟩:=h1
  obtain⟨e2,b2⟩:=h2
  have tL:=iE e1 e2
  have lH:=iE e0 tL
  exact⟨⟨a0,a1,a2⟩,⟨by rw[lH];rfl,b0,b1,b2⟩,Nat.le_refl _⟩
theorem ac2:Reads Tryz.prog (fk yL) 116:=yu Tryz.underlying116 (c:=yL) (by kernel_rfl) (by decide) adD
def yK:cQ dI where
 size:=7
 is:=fun w cs x=>∃v0:Value,cs=[.string x.name,.int .i64 x.group,.int .i64 x.gQ,.int .i64 x.fq,.int .i64 x.default,.bool x.snap,v0]∧x.name.size≤maxLen∧aZ x.group∧aZ x.gQ∧aZ x.fq∧aZ x.default∧(fk yL).is w [v0] x.ranges
 len:=fun h=>by obtain⟨v0,rfl,_⟩:=h;rfl
 mono:=fun{w w' cs x} h g=>by obtain⟨v0,e,h0,h1,h2,h3,h4,h5⟩:=h;exact⟨v0,e,h0,h1,h2,h3,h4,((fk yL)).mono h5 g⟩
 cE:=fun x=>qS.cE x.name+(eD.cE x.group+(eD.cE x.gQ+(eD.cE x.fq+(eD.cE x.default+(tE.cE x.snap+((fk yL).cE x.ranges))))))
theorem adB:Reads Tryz.prog yK 118:=
 (acw (F:=fun _=>True) Tryz.underlying118 (c0:=qS) (c1:=eD) (c2:=eD) (c3:=eD) (c4:=eD) (c5:=tE) (c6:=(fk yL)) (by kernel_rfl) rfl rfl rfl rfl rfl rfl rfl (by kernel_rfl) (by kernel_rfl) (by kernel_rfl) (by kernel_rfl) (by kernel_rfl) (by kernel_rfl) (by kernel_rfl) (BD Tryz.underlying9) (lq Tryz.underlying3) (lq Tryz.underlying3) (lq Tryz.underlying3) (lq Tryz.underlying3) (JE Tryz.underlying4) ac2).imp fun w cs a h=>by
  obtain⟨a0,a1,a2,a3,a4,a5,a6⟩:=a
  obtain⟨h0,h1,h2,h3,h4,h5,h6⟩:=h
  obtain⟨e0,b0⟩:=h0
  obtain⟨e1,b1⟩:=h1
  obtain⟨e2,b2⟩:=h2
  obtain⟨e3,b3⟩:=h3
  obtain⟨e4,b4⟩:=h4
  have e5:=h5;simp only[tE]at e5
  obtain⟨s6,e6⟩:=List.length_eq_one_iff.1 (((fk yL)).len h6);rw[e6]at h6
  have QO:=iE e5 e6
  have GG:=iE e4 QO
  have GF:=iE e3 GG
  have Cc:=iE e2 GF
  have tL:=iE e1 Cc
  have lH:=iE e0 tL
  exact⟨⟨a0,a1,a2,a3,a4,a5,a6⟩,⟨s6,by rw[lH];rfl,b0,b1,b2,b3,b4,h6⟩,Nat.le_refl _⟩
theorem acZ:Reads Tryz.prog (fk yK) 131:=yu Tryz.underlying131 (c:=yK) (by kernel_rfl) (by decide) adB
def yA:cQ bV where
 size:=3
 is:=fun w cs x=>∃v0:Value,cs=[.string x.name,.int .i64 x.size,v0]∧x.name.size≤maxLen∧aZ x.size∧(fk yK).is w [v0] x.params
 len:=fun h=>by obtain⟨v0,rfl,_⟩:=h;rfl
 mono:=fun{w w' cs x} h g=>by obtain⟨v0,e,h0,h1,h2⟩:=h;exact⟨v0,e,h0,h1,((fk yK)).mono h2 g⟩
 cE:=fun x=>qS.cE x.name+(eD.cE x.size+((fk yK).cE x.params))
theorem acr:Reads Tryz.prog yA 133:=
 (M4 (F:=fun _=>True) Tryz.underlying133 (c0:=qS) (c1:=eD) (c2:=(fk yK)) (by kernel_rfl) rfl rfl rfl (by kernel_rfl) (by kernel_rfl) (by kernel_rfl) (BD Tryz.underlying9) (lq Tryz.underlying3) acZ).imp fun w cs a h=>by
  obtain⟨a0,a1,a2⟩:=a
  obtain⟨h0,h1,h2⟩:=h
  obtain⟨e0,b0⟩:=h0
  obtain⟨e1,b1⟩:=h1
  obtain⟨s2,e2⟩:=List.length_eq_one_iff.1 (((fk yK)).len h2);rw[e2]at h2
  have tL:=iE e1 e2
  have lH:=iE e0 tL
  exact⟨⟨a0,a1,a2⟩,⟨s2,by rw[lH];rfl,b0,b1,h2⟩,Nat.le_refl _⟩
theorem ab4:Reads Tryz.prog (fk yA) 22:=yu Tryz.underlying22 (c:=yA) (by kernel_rfl) (by decide) acr
def yS:cQ bX where
 size:=4
 is:=fun w cs x=>cs=[.int .i64 x.number,.string x.profile,.int .i64 x.univ,.int .i64 x.address]∧aZ x.number∧x.profile.size≤maxLen∧aZ x.univ∧aZ x.address
 len:=fun h=>by obtain⟨rfl,_⟩:=h;rfl
 mono:=fun h _=>h
 cE:=fun x=>eD.cE x.number+(qS.cE x.profile+(eD.cE x.univ+(eD.cE x.address)))
theorem aeN:Reads Tryz.prog yS 129:=
 (acu (F:=fun _=>True) Tryz.underlying129 (c0:=eD) (c1:=qS) (c2:=eD) (c3:=eD) (by kernel_rfl) rfl rfl rfl rfl (by kernel_rfl) (by kernel_rfl) (by kernel_rfl) (by kernel_rfl) (lq Tryz.underlying3) (BD Tryz.underlying9) (lq Tryz.underlying3) (lq Tryz.underlying3)).imp fun w cs a h=>by
  obtain⟨a0,a1,a2,a3⟩:=a
  obtain⟨h0,h1,h2,h3⟩:=h
  obtain⟨e0,b0⟩:=h0
  obtain⟨e1,b1⟩:=h1
  obtain⟨e2,b2⟩:=h2
  obtain⟨e3,b3⟩:=h3
  have Cc:=iE e2 e3
  have tL:=iE e1 Cc
  have lH:=iE e0 tL
  exact⟨⟨a0,a1,a2,a3⟩,⟨by rw[lH];rfl,b0,b1,b2,b3⟩,Nat.le_refl _⟩
theorem adE:Reads Tryz.prog (fk yS) 23:=yu Tryz.underlying23 (c:=yS) (by kernel_rfl) (by decide) aeN
def YZ:cQ bu where
 size:=2
 is:=fun w cs x=>∃v0 v1:Value,cs=[v0,v1]∧(fk yA).is w [v0] x.bz∧(fk yS).is w [v1] x.units
 len:=fun h=>by obtain⟨v0,v1,rfl,_⟩:=h;rfl
 mono:=fun{w w' cs x} h g=>by obtain⟨v0,v1,e,h0,h1⟩:=h;exact⟨v0,v1,e,((fk yA)).mono h0 g,((fk yS)).mono h1 g⟩
 cE:=fun x=>(fk yA).cE x.bz+((fk yS).cE x.units)
theorem afW:Reads Tryz.prog YZ 25:=
 (Dp (F:=fun _=>True) Tryz.underlying25 (c0:=(fk yA)) (c1:=(fk yS)) (by kernel_rfl) rfl rfl (by kernel_rfl) (by kernel_rfl) ab4 adE).imp fun w cs a h=>by
  obtain⟨a0,a1⟩:=a
  obtain⟨h0,h1⟩:=h
  obtain⟨s0,e0⟩:=List.length_eq_one_iff.1 (((fk yA)).len h0);rw[e0]at h0
  obtain⟨s1,e1⟩:=List.length_eq_one_iff.1 (((fk yS)).len h1);rw[e1]at h1
  have lH:=iE e0 e1
  exact⟨⟨a0,a1⟩,⟨s0,s1,by rw[lH];rfl,h0,h1⟩,Nat.le_refl _⟩
def GR:cQ aA where
 size:=2
 is:=fun w cs x=>cs=[.int .i64 x.unit,.string x.param]∧aZ x.unit∧x.param.size≤maxLen
 len:=fun h=>by obtain⟨rfl,_⟩:=h;rfl
 mono:=fun h _=>h
 cE:=fun x=>eD.cE x.unit+(qS.cE x.param)
theorem U7:Reads Tryz.prog GR 47:=
 (Dp (F:=fun _=>True) Tryz.underlying47 (c0:=eD) (c1:=qS) (by kernel_rfl) rfl rfl (by kernel_rfl) (by kernel_rfl) (lq Tryz.underlying3) (BD Tryz.underlying9)).imp fun w cs a h=>by
  obtain⟨a0,a1⟩:=a
  obtain⟨h0,h1⟩:=h
  obtain⟨e0,b0⟩:=h0
  obtain⟨e1,b1⟩:=h1
  have lH:=iE e0 e1
  exact⟨⟨a0,a1⟩,⟨by rw[lH];rfl,b0,b1⟩,Nat.le_refl _⟩
def yC:cQ bW where
 size:=3
 is:=fun w cs x=>cs=[.int .i64 x.key.unit,.string x.key.param,.int .i64 x.level]∧aZ x.key.unit∧x.key.param.size≤maxLen∧aZ x.level
 len:=fun h=>by obtain⟨rfl,_⟩:=h;rfl
 mono:=fun h _=>h
 cE:=fun x=>GR.cE x.key+(eD.cE x.level)
theorem acs:Reads Tryz.prog yC 57:=
 (Dp (F:=fun _=>True) Tryz.underlying57 (c0:=GR) (c1:=eD) (by kernel_rfl) rfl rfl (by kernel_rfl) (by kernel_rfl) U7 (lq Tryz.underlying3)).imp fun w cs a h=>by
  obtain⟨a0,a1⟩:=a
  obtain⟨h0,h1⟩:=h
  obtain⟨e0,b0⟩:=h0
  obtain⟨QF,QG⟩:=b0
  obtain⟨e1,b1⟩:=h1
  have lH:=iE e0 e1
  exact⟨⟨a0,a1⟩,⟨by rw[lH];rfl,QF,QG,b1⟩,Nat.le_refl _⟩
theorem ab5:Reads Tryz.prog (fk yC) 52:=yu Tryz.underlying52 (c:=yC) (by kernel_rfl) (by decide) acs
def KE:cQ bO where
 size:=3
 is:=fun w cs x=>∃v0:Value,cs=[.int .i64 x.number,.string x.title,v0]∧aZ x.number∧x.title.size≤maxLen∧(fk yC).is w [v0] x.iY
 len:=fun h=>by obtain⟨v0,rfl,_⟩:=h;rfl
 mono:=fun{w w' cs x} h g=>by obtain⟨v0,e,h0,h1,h2⟩:=h;exact⟨v0,e,h0,h1,((fk yC)).mono h2 g⟩
 cE:=fun x=>eD.cE x.number+(qS.cE x.title+((fk yC).cE x.iY))
theorem ac1:Reads Tryz.prog KE 171:=
 (M4 (F:=fun _=>True) Tryz.underlying171 (c0:=eD) (c1:=qS) (c2:=(fk yC)) (by kernel_rfl) rfl rfl rfl (by kernel_rfl) (by kernel_rfl) (by kernel_rfl) (lq Tryz.underlying3) (BD Tryz.underlying9) ab5).imp fun w cs a h=>by
  obtain⟨a0,a1,a2⟩:=a
  obtain⟨h0,h1,h2⟩:=h
  obtain⟨e0,b0⟩:=h0
  obtain⟨e1,b1⟩:=h1
  obtain⟨s2,e2⟩:=List.length_eq_one_iff.1 (((fk yC)).len h2);rw[e2]at h2
  have tL:=iE e1 e2
  have lH:=iE e0 tL
  exact⟨⟨a0,a1,a2⟩,⟨s2,by rw[lH];rfl,b0,b1,h2⟩,Nat.le_refl _⟩
theorem acq:Reads Tryz.prog (fk KE) 26:=yu Tryz.underlying26 (c:=KE) (by kernel_rfl) (by decide) ac1
def Qe:cQ iG where
 size:=2
 is:=fun w cs x=>cs=[.int .i64 x.level,.int .i64 x.dz]∧aZ x.level∧aZ x.dz
 len:=fun h=>by obtain⟨rfl,_⟩:=h;rfl
 mono:=fun h _=>h
 cE:=fun x=>eD.cE x.level+(eD.cE x.dz)
theorem adF:Reads Tryz.prog Qe 49:=
 (Dp (F:=fun _=>True) Tryz.underlying49 (c0:=eD) (c1:=eD) (by kernel_rfl) rfl rfl (by kernel_rfl) (by kernel_rfl) (lq Tryz.underlying3) (lq Tryz.underlying3)).imp fun w cs a h=>by
  obtain⟨a0,a1⟩:=a
  obtain⟨h0,h1⟩:=h
  obtain⟨e0,b0⟩:=h0
  obtain⟨e1,b1⟩:=h1
  have lH:=iE e0 e1
  exact⟨⟨a0,a1⟩,⟨by rw[lH];rfl,b0,b1⟩,Nat.le_refl _⟩
def yO:cQ aS where
 size:=8
 is:=fun w cs x=>cs=[.int .i64 x.key.unit,.string x.key.param,.int .i64 x.value.level,.int .i64 x.value.dz,.bool x.release,.bool x.yR,.int .i64 x.delay,.int .i64 x.time]∧aZ x.key.unit∧x.key.param.size≤maxLen∧aZ x.value.level∧aZ x.value.dz∧aZ x.delay∧aZ x.time
 len:=fun h=>by obtain⟨rfl,_⟩:=h;rfl
 mono:=fun h _=>h
 cE:=fun x=>GR.cE x.key+(Qe.cE x.value+(tE.cE x.release+(tE.cE x.yR+(eD.cE x.delay+(eD.cE x.time)))))
theorem aeM:Reads Tryz.prog yO 74:=
 (acv (F:=fun _=>True) Tryz.underlying74 (c0:=GR) (c1:=Qe) (c2:=tE) (c3:=tE) (c4:=eD) (c5:=eD) (by kernel_rfl) rfl rfl rfl rfl rfl rfl (by kernel_rfl) (by kernel_rfl) (by kernel_rfl) (by kernel_rfl) (by kernel_rfl) (by kernel_rfl) U7 adF (JE Tryz.underlying4) (JE Tryz.underlying4) (lq Tryz.underlying3) (lq Tryz.underlying3)).imp fun w cs a h=>by
  obtain⟨a0,a1,a2,a3,a4,a5⟩:=a
  obtain⟨h0,h1,h2,h3,h4,h5⟩:=h
  obtain⟨e0,b0⟩:=h0
  obtain⟨QF,QG⟩:=b0
  obtain⟨e1,b1⟩:=h1
  obtain⟨aj9,aka⟩:=b1
  have e2:=h2;simp only[tE]at e2
  have e3:=h3;simp only[tE]at e3
  obtain⟨e4,b4⟩:=h4
  obtain⟨e5,b5⟩:=h5
  have GG:=iE e4 e5
  have GF:=iE e3 GG
  have Cc:=iE e2 GF
  have tL:=iE e1 Cc
  have lH:=iE e0 tL
  exact⟨⟨a0,a1,a2,a3,a4,a5⟩,⟨by rw[lH];rfl,QF,QG,aj9,aka,b4,b5⟩,Nat.le_refl _⟩
theorem adA:Reads Tryz.prog (fk yO) 66:=yu Tryz.underlying66 (c:=yO) (by kernel_rfl) (by decide) aeM
def Lh:cQ aO where
 size:=11
 is:=fun w cs x=>∃v0 v1:Value,cs=[.int .i64 x.number,.string x.title,.int .i64 x.delay,.int .i64 x.up,.int .i64 x.down,.int .i64 x.other,.int .i64 x.dg.kind,v0,.bool x.block,.int .i64 x.follow,v1]∧aZ x.number∧x.title.size≤maxLen∧aZ x.delay∧aZ x.up∧aZ x.down∧aZ x.other∧aZ x.dg.kind∧(fk vq).is w [v0] x.dg.points∧aZ x.follow∧(fk yO).is w [v1] x.aJ
 len:=fun h=>by obtain⟨v0,v1,rfl,_⟩:=h;rfl
 mono:=fun{w w' cs x} h g=>by obtain⟨v0,v1,e,h0,h1,h2,h3,h4,h5,h6,h7,h8,h9⟩:=h;exact⟨v0,v1,e,h0,h1,h2,h3,h4,h5,h6,((fk vq)).mono h7 g,h8,((fk yO)).mono h9 g⟩
 cE:=fun x=>eD.cE x.number+(qS.cE x.title+(eD.cE x.delay+(eD.cE x.up+(eD.cE x.down+(eD.cE x.other+(PR.cE x.dg+(tE.cE x.block+(eD.cE x.follow+((fk yO).cE x.aJ)))))))))
theorem afV:Reads Tryz.prog Lh 72:=
 (ab6 (F:=fun _=>True) Tryz.underlying72 (c0:=eD) (c1:=qS) (c2:=eD) (c3:=eD) (c4:=eD) (c5:=eD) (c6:=PR) (c7:=tE) (c8:=eD) (c9:=(fk yO)) (by kernel_rfl) rfl rfl rfl rfl rfl rfl rfl rfl rfl rfl (by kernel_rfl) (by kernel_rfl) (by kernel_rfl) (by kernel_rfl) (by kernel_rfl) (by kernel_rfl) (by kernel_rfl) (by kernel_rfl) (by kernel_rfl) (by kernel_rfl) (lq Tryz.underlying3) (BD Tryz.underlying9) (lq Tryz.underlying3) (lq Tryz.underlying3) (lq Tryz.underlying3) (lq Tryz.underlying3) adz (JE Tryz.underlying4) (lq Tryz.underlying3) adA).imp fun w cs a h=>by
  obtain⟨a0,a1,a2,a3,a4,a5,a6,a7,a8,a9⟩:=a
  obtain⟨h0,h1,h2,h3,h4,h5,h6,h7,h8,h9⟩:=h
  obtain⟨e0,b0⟩:=h0
  obtain⟨e1,b1⟩:=h1
  obtain⟨e2,b2⟩:=h2
  obtain⟨e3,b3⟩:=h3
  obtain⟨e4,b4⟩:=h4
  obtain⟨e5,b5⟩:=h5
  obtain⟨ak6,e6,b6⟩:=h6
  obtain⟨akb,akc⟩:=b6
  have e7:=h7;simp only[tE]at e7
  obtain⟨e8,b8⟩:=h8
  obtain⟨s9,e9⟩:=List.length_eq_one_iff.1 (((fk yO)).len h9);rw[e9]at h9
  have akt:=iE e8 e9
  have aks:=iE e7 akt
  have akr:=iE e6 aks
  have QO:=iE e5 akr
  have GG:=iE e4 QO
  have GF:=iE e3 GG
  have Cc:=iE e2 GF
  have tL:=iE e1 Cc
  have lH:=iE e0 tL
  exact⟨⟨a0,a1,a2,a3,a4,a5,a6,a7,a8,a9⟩,⟨ak6,s9,by rw[lH];rfl,b0,b1,b2,b3,b4,b5,akb,akc,b8,h9⟩,Nat.le_refl _⟩
theorem aeL:Reads Tryz.prog (fk Lh) 27:=yu Tryz.underlying27 (c:=Lh) (by kernel_rfl) (by decide) afV
end
section
open Go.RowKit Go.Deep
section
variable {c : RC}
theorem vk:aQ c [] []:=by simp [aQ]
theorem fD {a:U} {v:Value} {l:List U} {vs:List Value} (h:aq c a v) (k:aQ c l vs):aQ c (a::l) (v::vs):=by
 simp only[aQ];exact⟨v,vs,rfl,h,k⟩
theorem kK (k:IntKind) (n:Int):aq c (.int k n) (.int k n):=by simp [aq]
theorem Kg (b:Bool):aq c (.bool b) (.bool b):=by simp [aq]
theorem Av (s:ByteArray):aq c (.str s) (.string s):=by simp [aq]
def RP {α:Type} (c:RC) (d:cQ α) (e:α→List U) (ok:α→Prop):Prop:=∀cs x,d.is c.w cs x→aQ c (e x) cs∧ok x∧(∀v∈cs,dM v=true)
theorem V8:∀{l:List U} {vs:List Value},aQ c l vs→l.length=vs.length
 |[],vs,h=>by simp only[aQ]at h;subst h;rfl
 |a::l,vs,h=>by
  simp only[aQ]at h
  obtain⟨v,vs',rfl,_,h⟩:=h
  simp [V8 h]
theorem V6 {b:Nat}:∀{l:List U} {vs:List Value} {off:Nat},aQ c l vs→(∀v∈vs,dM v=true)→(∀j,j<vs.length→c.w.cell? ⟨b,off+j,none⟩=vs[j]?)→bE c b off l
 |[],vs,off,h,_,_=>by simp [bE]
 |a::l,vs,off,h,ho,hc=>by
  simp only[aQ]at h
  obtain⟨v,vs',rfl,h1,h2⟩:=h
  simp only[bE]
  refine⟨⟨v,by simpa using hc 0 (by simp),ho v (by simp),h1⟩,V6 h2 (fun v hv=>ho v (by simp [hv])) fun j hj=>?_⟩
  have:=hc (j+1) (by simpa using hj)
  rw[show off+1+j=off+(j+1) by omega]
  simpa using this
theorem V7 {α:Type} {d:cQ α} {e:α→List U} {ok:α→Prop} (H:RP c d e ok) {b sz:Nat} (hsz:d.size=sz):∀{l:List α} {off:Nat},(∀(i:Nat) (x:α),l[i]? =some x→∃cs',(∀j,j<d.size→c.w.cell? ⟨b,off+(i*d.size+j),none⟩=cs'[j]?)∧d.is c.w cs' x)→bM c sz b off (l.map e)∧∀x∈l,ok x
 |[],off,h=>by simp [bM]
 |x::l,off,h=>by
  obtain⟨cs,h1,h2⟩:=h 0 x rfl
  obtain⟨k1,k2,k3⟩:=H cs x h2
  have hl:cs.length=d.size:=d.len h2
  obtain⟨r1,r2⟩:=V7 H hsz (l:=l) (off:=off+sz) (fun i y hy=>by
   obtain⟨cs',q1,q2⟩:=h (i+1) y (by simpa using hy)
   refine⟨cs',fun j hj=>?_,q2⟩
   have:=q1 j hj
   rw[←hsz]
   rwa[show off+d.size+(i*d.size+j)=off+((i+1)*d.size+j) by rw[Nat.succ_mul];omega])
  refine⟨?_,fun y hy=>?_⟩
  ·simp only[List.map_cons,bM]
   refine⟨by rw[V8 k1,hl,hsz],V6 k1 k3 fun j hj=>?_,r1⟩
   have:=h1 j (by rw[←hl];exact hj)
   simpa using this
  ·rcases List.mem_cons.1 hy with rfl|hy
   ·exact k2
   ·exact r2 y hy
theorem ahz {w:World} {b off:Nat} {v:Value} (h:w.cell? ⟨b,off,none⟩=some v):b<w.heap.size:=by
 rcases Nat.lt_or_ge b w.heap.size with k|k
 ·exact k
 ·simp [World.cell?,Array.getElem?_eq_none k]at h
theorem yB {α:Type} {d:cQ α} {e:α→List U} {ok:α→Prop} (hX:∀b,¬c.X b) (H:RP c d e ok) {sz:Nat} (hsz:d.size=sz) (h0:0<sz) {v:Value} {l:List α} (h:(fk d).is c.w [v] l):aq c (sl sz e l) v∧cH ok l∧dM v=true:=by
 rcases h with⟨h1,rfl⟩|⟨b,off,sp,cap,h1,h2,h3,h4⟩
 ·simp only[List.cons.injEq,and_true]at h1
  subst h1
  exact⟨by simp [sl,aq,h0],⟨by simp,by simp⟩,rfl⟩
 ·simp only[List.cons.injEq,and_true]at h1
  subst h1
  have uh:sp=none∨l=[]:=by
   cases l with
   |nil=>exact .inr rfl
   |cons x l=>exact .inl (h4 0 (by simp)).1
  have hh:∀(i:Nat) (x:α),l[i]? =some x→∃cs',(∀j,j<d.size→c.w.cell? ⟨b,off+(i*d.size+j),none⟩=cs'[j]?)∧d.is c.w cs' x:=by
   intro i x hx
   obtain⟨hi,hx⟩:=List.getElem?_eq_some_iff.1 hx
   subst hx
   exact(h4 i hi).2
  obtain⟨r1,r2⟩:=V7 H hsz hh
  refine⟨?_,⟨by unfold maxLen at h3;unfold aY;omega,r2⟩,rfl⟩
  simp only[sl,aq]
  refine⟨some ⟨b,off,sp⟩,cap,by simp,by simpa using h2,h0,?_⟩
  rcases uh with rfl|rfl
  ·cases l with
   |nil=>exact .inl rfl
   |cons x l=>
    refine .inr ⟨b,off,rfl,?_,hX b,r1⟩
    obtain⟨cs,q1,q2⟩:=hh 0 x rfl
    have hl:cs.length=d.size:=d.len q2
    have:=q1 0 (by omega)
    obtain⟨y,hy⟩:∃y,cs[0]? =some y:=⟨cs[0],List.getElem?_eq_getElem (by omega)⟩
    rw[hy]at this
    exact ahz this
  ·exact .inl rfl
theorem xm:∀v∈([]:List Value),dM v=true:=by simp
theorem fN {v:Value} {vs:List Value} (h:dM v=true) (k:∀x∈vs,dM x=true):∀x∈v::vs,dM x=true:=by
 intro x hx
 rcases List.mem_cons.1 hx with rfl|hx
 ·exact h
 ·exact k x hx
theorem ahd:RP c vq cW WY:=by
 rintro cs x ⟨rfl,h0,h1⟩
 exact⟨(fD (kK _ _) (fD (kK _ _) vk)),⟨h0,h1⟩,(fN rfl (fN rfl xm))⟩
theorem ahe:RP c yL jR PA:=by
 rintro cs x ⟨rfl,h0,h1,h2⟩
 exact⟨(fD (kK _ _) (fD (kK _ _) (fD (Av _) vk))),⟨h0,h1,(show gD _ by unfold gD aY;have:=h2;unfold maxLen at this;omega)⟩,(fN rfl (fN rfl (fN rfl xm)))⟩
theorem ahc (hX:∀b,¬c.X b):RP c yK cm Pz:=by
 rintro cs x ⟨v0,rfl,h0,h1,h2,h3,h4,h6⟩
 obtain⟨r6,o6,n6⟩:=yB hX ahe (sz:=3) rfl (by decide) h6
 exact⟨(fD (Av _) (fD (kK _ _) (fD (kK _ _) (fD (kK _ _) (fD (kK _ _) (fD (Kg _) (fD r6 vk))))))),⟨(show gD _ by unfold gD aY;have:=h0;unfold maxLen at this;omega),h1,h2,h3,h4,o6⟩,(fN rfl (fN rfl (fN rfl (fN rfl (fN rfl (fN rfl (fN n6 xm)))))))⟩
theorem aeP (hX:∀b,¬c.X b):RP c yA cA BC:=by
 rintro cs x ⟨v0,rfl,h0,h1,h2⟩
 obtain⟨r2,o2,n2⟩:=yB hX (ahc hX) (sz:=7) rfl (by decide) h2
 exact⟨(fD (Av _) (fD (kK _ _) (fD r2 vk))),⟨(show gD _ by unfold gD aY;have:=h0;unfold maxLen at this;omega),h1,o2⟩,(fN rfl (fN rfl (fN n2 xm)))⟩
theorem aiB:RP c yS bQ XC:=by
 rintro cs x ⟨rfl,h0,h1,h2,h3⟩
 exact⟨(fD (kK _ _) (fD (Av _) (fD (kK _ _) (fD (kK _ _) vk)))),⟨h0,(show gD _ by unfold gD aY;have:=h1;unfold maxLen at this;omega),h2,h3⟩,(fN rfl (fN rfl (fN rfl (fN rfl xm))))⟩
theorem ajq (hX:∀b,¬c.X b):RP c YZ aP fU:=by
 rintro cs x ⟨v0,v1,rfl,h0,h1⟩
 obtain⟨r0,o0,n0⟩:=yB hX (aeP hX) (sz:=3) rfl (by decide) h0
 obtain⟨r1,o1,n1⟩:=yB hX aiB (sz:=4) rfl (by decide) h1
 exact⟨(fD r0 (fD r1 vk)),⟨o0,o1⟩,(fN n0 (fN n1 xm))⟩
theorem aeQ:RP c yC dc U2:=by
 rintro cs x ⟨rfl,h0,h1,h2⟩
 exact⟨(fD (kK _ _) (fD (Av _) (fD (kK _ _) vk))),⟨⟨h0,(show gD _ by unfold gD aY;have:=h1;unfold maxLen at this;omega)⟩,h2⟩,(fN rfl (fN rfl (fN rfl xm)))⟩
theorem afY (hX:∀b,¬c.X b):RP c KE eB mV:=by
 rintro cs x ⟨v0,rfl,h0,h1,h2⟩
 obtain⟨r2,o2,n2⟩:=yB hX aeQ (sz:=3) rfl (by decide) h2
 exact⟨(fD (kK _ _) (fD (Av _) (fD r2 vk))),⟨h0,(show gD _ by unfold gD aY;have:=h1;unfold maxLen at this;omega),o2⟩,(fN rfl (fN rfl (fN n2 xm)))⟩
theorem aiA:RP c yO aF tv:=by
 rintro cs x ⟨rfl,h0,h1,h2,h3,h6,h7⟩
 exact⟨(fD (kK _ _) (fD (Av _) (fD (kK _ _) (fD (kK _ _) (fD (Kg _) (fD (Kg _) (fD (kK _ _) (fD (kK _ _) vk)))))))),⟨⟨h0,(show gD _ by unfold gD aY;have:=h1;unfold maxLen at this;omega)⟩,⟨h2,h3⟩,h6,h7⟩,(fN rfl (fN rfl (fN rfl (fN rfl (fN rfl (fN rfl (fN rfl (fN rfl xm))))))))⟩
theorem ajp (hX:∀b,¬c.X b):RP c Lh aM lX:=by
 rintro cs x ⟨v0,v1,rfl,h0,h1,h2,h3,h4,h5,h6,h7,h9,CJ⟩
 obtain⟨r7,o7,n7⟩:=yB hX ahd (sz:=2) rfl (by decide) h7
 obtain⟨iz,o10,n10⟩:=yB hX aiA (sz:=8) rfl (by decide) CJ
 exact⟨(fD (kK _ _) (fD (Av _) (fD (kK _ _) (fD (kK _ _) (fD (kK _ _) (fD (kK _ _) (fD (kK _ _) (fD r7 (fD (Kg _) (fD (kK _ _) (fD iz vk))))))))))),⟨h0,(show gD _ by unfold gD aY;have:=h1;unfold maxLen at this;omega),h2,h3,h4,h5,⟨h6,o7⟩,h9,o10⟩,(fN rfl (fN rfl (fN rfl (fN rfl (fN rfl (fN rfl (fN rfl (fN n7 (fN rfl (fN rfl (fN n10 xm)))))))))))⟩
theorem ajr {α:Type} {d:cQ α} {e:α→List U} {ok:α→Prop} (H:RP c d e ok) {cs:Array Value} {x:α} (h:d.is c.w cs.toList x):aq c (.agg (e x)) (.agg cs)∧ok x:=by
 obtain⟨h1,h2,h3⟩:=H _ _ h
 simp only[aq]
 exact⟨⟨cs,rfl,h1,h3⟩,h2⟩
end
end
section
open Go.RowKit
noncomputable def base (W:World):RC:=ctx ⟨W,[],fun _=>False,aG⟩ W [] dF
theorem Gc (W:World):∀b,¬(base W).X b:=by
 rintro b (k|⟨p,hp,_⟩|⟨i,k⟩)
 ·exact k
 ·cases hp
 ·cases k
theorem ah1 {n:FuncId} {m:List U→Heap→Option (U×Heap)} {nV:List U} (hs:Sound Tryz.prog aG n m) (hc:∀us w,(callFunc n us).run Tryz.prog w=.ok (.enter n us) w) (W:World) (vs:Array Value) (hr:aQ (base W) nV vs.toList) (hm:m nV []=some (.bool true,[])):
  Calls Tryz.prog n vs W fun e W'=>e=.returned (.bool true)∧Below W.heap.size W W':=by
 have hh0:iF (ctx ⟨W,[],fun _=>False,aG⟩ W [] dF) []:=by
  refine⟨rfl,fun i j p q hp=>?_,fun i p x hp=>?_⟩
  ·simp [ctx]at hp
  ·simp [ctx]at hp
 rcases hs _ _ _ _ hm with⟨g,h1,h2⟩|hv
 case inr=>
  obtain⟨v,w',E',k1,_⟩:=hv ⟨W,[],fun _=>False,aG⟩ vs rfl (fun b k=>k.elim) hh0 hr
  rw[hc]at k1
  injection k1 with k1
  cases k1
 have hg:g=n:=by
  have e1:=h1 #[] W
  rw[hc #[] W]at e1
  injection e1 with e1
  injection e1 with e1
  exact e1.symm
 subst hg
 have hh:iF (ctx ⟨W,[],fun _=>False,aG⟩ W [] dF) []:=by
  refine⟨rfl,fun i j p q hp=>?_,fun i p x hp=>?_⟩
  ·simp [ctx]at hp
  ·simp [ctx]at hp
 refine(h2 ⟨W,[],fun _=>False,aG⟩ vs rfl (fun b k=>k.elim) hh hr).mono ?_
 rintro e w' ⟨v,E',rfl,ho,_,hv⟩
 simp only[aq]at hv
 subst hv
 exact⟨rfl,ho.os,ho.tape,ho.output,ho.size,fun k hk=>ho.stay k hk (fun p hp=>by cases hp)⟩
end
end Go.Proofs.YtphgchakmkankaaGreat
