/- Parts of the proof of PlayAskingDoesNotMatter, in order. -/
import Derived.Orders
import Derived.Below
import Derived.WalkKit
import Derived.Laws.StructEq
import Derived.Laws.Append
import Derived.Laws.AppendOwn
import Derived.Test.YtooknfkholjpbaaGreatRows
import Derived.KernelRfl
import Derived.Lib.Bytealg
import Derived.Sort.Defs
import Derived.Lib.BitFns
import Derived.Test.YtooknfkholjpbaaGreatShelf
import Derived.RangeFuncGives
import Derived.RangeFuncBound
import Derived.RangeFuncIn
import Derived.RangeFuncLeaves
import Derived.RangeFuncRecord
import Derived.Sort.MapsRangeIn
import Derived.TacticsInMore
import Derived.OwnWalkIn
import Derived.RegionIn
import Derived.LoopNIn
import Derived.LoopIn
import Derived.Shelf.AbstractIn
import Derived.BigFrameIn
import Derived.Lib.Overlaps
import Derived.IntWalk
import Derived.Sort.Statements
import Derived.Shelf.SlSortCmp.WholeK
import Derived.Shelf.SlSortCmp.NoneTotal
import Derived.Sort.AssemblyPlain
import Derived.Lib.Strings
import Derived.Laws.Externs
import Derived.Test.YtooknfkholjpbaaGreatKPlayAskingDoesNotMatter3
namespace Go.Proofs.YtooknfkholjpbaaGreat
set_option linter.unusedVariables false
set_option linter.unusedSimpArgs false
set_option linter.unusedSectionVars false
section
set_option maxRecDepth 100000
noncomputable def RB (a0:Int):Option Bool:=some (bf a0 0 36000000)
theorem Hr{a0:Int}{σ:Heap}{r:Bool}(h:RB a0=some r):DA [(AV.ah a0)] σ=some ((AV.bool r),σ):=by refine AZ (f:=Rs) (y0:=(AV.ah a0)) (enc:=λr:Bool=>(AV.bool r)) (T:=RB a0) rfl rfl ?_ r h;unfold Rs RB;refine aA _ (lZ a0 0 36000000 σ) ?_;exact fW _ (bP _ _) ⟨rfl,rfl⟩
noncomputable def Ho (a0:aG) (a1:aG):Option Int:=
 if ¬(a0.unit=a1.unit)then
  if a0.unit<a1.unit then
   some (-1)
  else
  some 1
 else
 some (Lib.compareBytes a0.param.data.toList a1.param.data.toList)
theorem aha{a0:aG}{a1:aG}{σ:Heap}{r:Int}(h:Ho a0 a1=some r):M8 [(AV.agg (aT a0)),(AV.agg (aT a1))] σ=some ((AV.ah r),σ):=by
 refine yl (f:=Rh) (y0:=(AV.agg (aT a0))) (y1:=(AV.agg (aT a1))) (enc:=λr:Int=>(AV.ah r)) (T:=Ho a0 a1) rfl rfl ?_ r h;unfold Rh Ho;refine aA _ rfl<|aA _ rfl<|aA _ rfl<|aA _ rfl<|aA _ (ij _ _ _) ?_;refine ng (p:=¬(a0.unit=a1.unit)) (λc2=>?_) (λc2=>?_)
 ·refine aA _ rfl<|aA _ rfl<|aA _ rfl ?_;refine ng (p:=a0.unit<a1.unit) (λc1=>?_) (λc1=>?_)
  ·exact fW _ (bP _ _) ⟨rfl,rfl⟩
  exact fW _ (bP _ _) ⟨rfl,rfl⟩
 refine aA _ rfl<|aA _ rfl<|aA _ rfl ?_;exact fW _ (bP _ _) ⟨rfl,rfl⟩
noncomputable def Hg (a0:(List gQ)):Option Int:=
 mY a0 (λ(i8:Nat)e7(s1:Unit)=>(show Option (Lr Unit Unit Int)from
   if(!(bf e7.key.unit 1 9999))=true then
    some (.ret 1)
   else
   (tq (kO e7.key.param) (w8 e7.key.param)).bind λr9=>
   if(!r9)=true then
    some (.ret 5)
   else
   if((e7.release&&(decide (¬(e7.value=(⟨0,0⟩:ow)))))||((decide (¬(e7.value.level=0)))&&(decide (¬(e7.value.iY=0)))))=true then
    some (.ret 3)
   else
   if((!(bf e7.value.level 0 65535))||(!(bf e7.value.iY 0 999)))=true then
    some (.ret 1)
   else
   if((!e7.Bk)&&((decide (¬(e7.ct=0)))||(decide (¬(e7.time=0)))))=true then
    some (.ret 3)
   else
   if((!((bf e7.ct 0 36000000)))||(!((bf e7.time 0 36000000))))=true then
    some (.ret 1)
   else
   (if decide (0<(i8:Int))=true then xW a0 (IntKind.i64.wrap ((i8:Int) -1))else some default).bind λbX=>
   (if decide (0<(i8:Int))=true then Ho bX.key e7.key else some default).bind λey=>
   if((decide (0<(i8:Int)))&&(decide (0≤ey)))=true then
    some (.ret 7)
   else
   some (.go ()))) (λs1=>some ()) () (λb2=>
  some 0) (λb2=>
  some b2)
theorem agn{a0:(List gQ)}{σ:Heap}{r:Int}(h:Hg a0=some r):QL [(sl 8 gZ a0)] σ=some ((AV.ah r),σ):=by
 refine AZ (f:=QM) (y0:=(sl 8 gZ a0)) (enc:=λr:Int=>(AV.ah r)) (T:=Hg a0) rfl rfl ?_ r h;unfold QM Hg;refine aA _ (gH _ _ _) ?_;refine tO (B:=Unit) (R:=Int) (λ(i8:Nat)(s1:Unit)v w3=>v=[(AV.ah 0),(AV.ah (i8:Int))]∧σ=w3) (λ(b2:Unit)(q:LS)=>∃u2 u7,q=((AX.exit 0),([u2,u7]:au),σ)) (λ(b2:Int)(q:LS)=>∃u7,q=(AX.ret,([(AV.ah b2),u7]:au),σ)) ?_ ?_ ⟨rfl,rfl⟩ ?_ ?_
 ·intro CN i8 e7 s1 v w3 qQ hI;obtain⟨rfl,rfl⟩:=hI;refine aA _ (kU qQ)<|tV<|aA _ (jG qQ)<|aA _ rfl<|aA _ rfl<|aA _ (Oh _ _ rfl)<|aA _ rfl<|aA _ (lZ e7.key.unit 1 9999 σ)<|aA _ rfl ?_;refine kV (c:=(!(bf e7.key.unit 1 9999))) (λjm=>?_) (λjm=>?_)
  ·exact cV (jO (by simp) ⟨_,rfl⟩)
  refine aA _ rfl ?_;refine nh (λr9:Bool=>((AV.bool r9),σ)) (λr9 hr9=>(zF (e:=λr:Bool=>((AV.bool r),σ)) (λhs=>Ol e7.key.param hs σ)) hr9) (λr9 hr9=>?_);refine aA _ rfl ?_;refine kV (c:=(!r9)) (λpq=>?_) (λpq=>?_)
  ·exact cV (jO (by simp) ⟨_,rfl⟩)
  refine aA _ rfl<|fE (AV.agg (yp e7.value)) (λhg=>rfl)<|fE (AV.agg (yp (⟨0,0⟩:ow))) (λhg=>rfl)<|fE (AV.bool (decide (¬(e7.value=(⟨0,0⟩:ow))))) (λhg=>by(try rw[hg]);exact(amd _ _))<|aA _ (uQ _ _)<|fZ (AV.ah e7.value.level) (λhg=>rfl)<|fZ (AV.bool (decide (¬(e7.value.level=0)))) (λhg=>by(try rw[hg]);exact(ij _ _ _))<|fZ (AV.bool (decide (¬(e7.value.level=0)))) (λhg=>by(try rw[hg]);exact rfl)<|Ik (AV.ah e7.value.iY) (λhg=>rfl)<|Ik (AV.bool (decide (¬(e7.value.iY=0)))) (λhg=>by(try rw[hg]);exact(ij _ _ _))<|fZ (AV.bool ((decide (¬(e7.value.level=0)))&&(decide (¬(e7.value.iY=0))))) (λhg=>by(try rw[hg]);exact(uQ _ _))<|aA _ (sj _ _) ?_;refine kV (c:=((e7.release&&(decide (¬(e7.value=(⟨0,0⟩:ow)))))||((decide (¬(e7.value.level=0)))&&(decide (¬(e7.value.iY=0)))))) (λpg=>?_) (λpg=>?_)
  ·exact cV (jO (by simp) ⟨_,rfl⟩)
  refine aA _ rfl<|aA _ (lZ e7.value.level 0 65535 σ)<|aA _ rfl<|fZ (AV.ah e7.value.iY) (λhg=>rfl)<|fZ (AV.bool (bf e7.value.iY 0 999)) (λhg=>by(try rw[hg]);exact(eT (lZ e7.value.iY 0 999 σ)))<|fZ (AV.bool (!(bf e7.value.iY 0 999))) (λhg=>by(try rw[hg]);exact rfl)<|aA _ (sj _ _) ?_;refine kV (c:=((!(bf e7.value.level 0 65535))||(!(bf e7.value.iY 0 999)))) (λmV=>?_) (λmV=>?_)
  ·exact cV (jO (by simp) ⟨_,rfl⟩)
  refine aA _ rfl<|aA _ rfl<|fE (AV.ah e7.ct) (λhg=>rfl)<|fE (AV.bool (decide (¬(e7.ct=0)))) (λhg=>by(try rw[hg]);exact(ij _ _ _))<|fE (AV.bool (decide (¬(e7.ct=0)))) (λhg=>by(try rw[hg]);exact rfl)<|acV (AV.ah e7.time) (λhg=>rfl)<|acV (AV.bool (decide (¬(e7.time=0)))) (λhg=>by(try rw[hg]);exact(ij _ _ _))<|fE (AV.bool ((decide (¬(e7.ct=0)))||(decide (¬(e7.time=0))))) (λhg=>by(try rw[hg]);exact(sj _ _))<|aA _ (uQ _ _) ?_;refine kV (c:=((!e7.Bk)&&((decide (¬(e7.ct=0)))||(decide (¬(e7.time=0)))))) (λlz=>?_) (λlz=>?_)
  ·exact cV (jO (by simp) ⟨_,rfl⟩)
  refine aA _ rfl<|aA _ (Hr (σ:=σ) (r:=(bf e7.ct 0 36000000)) rfl)<|aA _ rfl<|fZ (AV.ah e7.time) (λhg=>rfl)<|fZ (AV.bool ((bf e7.time 0 36000000))) (λhg=>by(try rw[hg]);exact(eT (Hr (σ:=σ) (r:=(bf e7.time 0 36000000)) rfl)))<|fZ (AV.bool (!((bf e7.time 0 36000000)))) (λhg=>by(try rw[hg]);exact rfl)<|aA _ (sj _ _) ?_;refine kV (c:=((!((bf e7.ct 0 36000000)))||(!((bf e7.time 0 36000000))))) (λkn=>?_) (λkn=>?_)
  ·exact cV (jO (by simp) ⟨_,rfl⟩)
  refine aA _ rfl<|fE (sl 8 gZ a0) (λhg=>rfl)<|fE (AV.ah (i8:Int)) (λhg=>rfl)<|fE (AV.ah (IntKind.i64.wrap ((i8:Int) -1))) (λhg=>by(try rw[hg]);exact rfl) ?_;refine Bd (ω:=gQ) (λbX=>(AV.rp (gZ bX))) (λhg bX ael=>by(try rw[hg]);exact D6 ael) (λbX ael=>?_);refine fE (AV.rp (gZ bX)) (λhg=>by(try rw[hg]);exact rfl)<|fE (AV.agg (aT bX.key)) (λhg=>by(try rw[hg]);exact rfl)<|fE (AV.agg (aT e7.key)) (λhg=>rfl) ?_;refine Bd (ω:=Int) (λey=>(AV.ah ey)) (λhg ey Lg=>by(try rw[hg]);exact(eT (aha Lg))) (λey Lg=>?_);refine fE (AV.bool (decide (0≤ey))) (λhg=>by(try rw[hg]);exact rfl)<|aA _ (uQ _ _) ?_;refine kV (c:=((decide (0<(i8:Int)))&&(decide (0≤ey)))) (λfJ=>?_) (λfJ=>?_)
  ·exact cV (jO (by simp) ⟨_,rfl⟩)
  refine aA _ (gY qQ CN) ?_;exact cV (tP ⟨rfl,rfl⟩)
 ·intro hl s1 v w3 hI;obtain⟨rfl,rfl⟩:=hI;refine aA _ (kS _)<|tU ?_;exact cV ⟨by simp,⟨_,_,rfl⟩⟩
 ·intro hl b2 q hq;obtain⟨u2,u7,rfl⟩:=hq;refine l7 rfl ?_;exact fW _ (bP _ _) ⟨rfl,rfl⟩
 ·intro hl b2 q hq;obtain⟨u7,rfl⟩:=hq;refine yC rfl<|l7 rfl ?_;exact fW _ (bP _ _) ⟨rfl,rfl⟩
noncomputable def HF (a0:(List bz)):Option Int:=
 if 300<(a0.length:Int)then
  some 2
 else
 mY a0 (λ(i8:Nat)e7(s1:Int)=>(show Option (Lr Int Int Int)from
   if(!(bf e7.aC 1 9999999))=true then
    some (.ret 1)
   else
   (if decide (0<(i8:Int))=true then xW a0 (IntKind.i64.wrap ((i8:Int) -1))else some default).bind λx9=>
   if((decide (0<(i8:Int)))&&(decide (e7.aC≤x9.aC)))=true then
    some (.ret 7)
   else
   (if decide (¬(e7.title=(⟨#[]⟩:ByteArray)))=true then tq (kO e7.title) (Ku e7.title)else some default).bind λlR=>
   if((decide (¬(e7.title=(⟨#[]⟩:ByteArray))))&&(!lR))=true then
    some (.ret 3)
   else
   if(((((!((bf e7.ct 0 36000000)))||(!((bf e7.up 0 36000000))))||(!((bf e7.down 0 36000000))))||(!((bf e7.other 0 36000000))))||(!(bf e7.eA (-1) 36000000)))=true then
    some (.ret 1)
   else
   if ¬((rq e7.fB)=0)then
    some (.ret (rq e7.fB))
   else
   if 2000<(e7.dW.length:Int)then
    some (.ret 2)
   else
   (Hg e7.dW).bind λey=>
   if ¬(ey=0)then
    some (.ret ey)
   else
   some (.go (IntKind.i64.wrap (s1+(e7.dW.length:Int)))))) (λs1=>some s1) 0 (λb2=>
  some (if(decide (10000<b2))=true then 2 else 0)) (λb2=>
  some b2)
theorem YV{a0:(List bz)}{σ:Heap}{r:Int}(h:HF a0=some r):JQ [(sl 11 br a0)] σ=some ((AV.ah r),σ):=by
 refine AZ (f:=Sg) (y0:=(sl 11 br a0)) (enc:=λr:Int=>(AV.ah r)) (T:=HF a0) (kI (xy (λ_=>rfl) _) rfl) rfl ?_ r h;unfold Sg HF;refine aA _ (gH _ _ _)<|aA _ rfl ?_;refine ng (p:=300<(a0.length:Int)) (λiM=>?_) (λiM=>?_)
 ·exact fW _ (bP _ _) ⟨rfl,rfl⟩
 refine aA _ (gH _ _ _) ?_;refine tO (B:=Int) (R:=Int) (λ(i8:Nat)(s1:Int)v w3=>v=[(AV.ah 0),(AV.ah s1),(AV.ah (i8:Int))]∧σ=w3) (λ(b2:Int)(q:LS)=>∃u2 AK,q=((AX.exit 0),([u2,(AV.ah b2),AK]:au),σ)) (λ(b2:Int)(q:LS)=>∃u3 AK,q=(AX.ret,([(AV.ah b2),u3,AK]:au),σ)) ?_ ?_ ⟨rfl,rfl⟩ ?_ ?_
 ·intro CN i8 e7 s1 v w3 qQ hI;obtain⟨rfl,rfl⟩:=hI;refine aA _ (kU qQ)<|tV<|aA _ (jG qQ)<|aA _ rfl<|aA _ rfl<|aA _ (Km _ _ rfl)<|aA _ rfl<|aA _ (lZ e7.aC 1 9999999 σ)<|aA _ rfl ?_;refine kV (c:=(!(bf e7.aC 1 9999999))) (λjm=>?_) (λjm=>?_)
  ·exact cV (jO (by simp) ⟨_,_,rfl⟩)
  refine aA _ rfl<|fE (AV.ah e7.aC) (λhg=>rfl)<|fE (sl 11 br a0) (λhg=>rfl)<|fE (AV.ah (i8:Int)) (λhg=>rfl)<|fE (AV.ah (IntKind.i64.wrap ((i8:Int) -1))) (λhg=>by(try rw[hg]);exact rfl) ?_;refine Bd (ω:=bz) (λx9=>(AV.rp (br x9))) (λhg x9 L3=>by(try rw[hg]);exact D6 L3) (λx9 L3=>?_);refine fE (AV.rp (br x9)) (λhg=>by(try rw[hg]);exact rfl)<|fE (AV.ah x9.aC) (λhg=>by(try rw[hg]);exact rfl)<|fE (AV.bool (decide (e7.aC≤x9.aC))) (λhg=>by(try rw[hg]);exact rfl)<|aA _ (uQ _ _) ?_;refine kV (c:=((decide (0<(i8:Int)))&&(decide (e7.aC≤x9.aC)))) (λpq=>?_) (λpq=>?_)
  ·exact cV (jO (by simp) ⟨_,_,rfl⟩)
  refine aA _ rfl<|aA _ (Uv _ _)<|fE (AV.str e7.title) (λhg=>rfl) ?_;refine Bd (ω:=Bool) (λlR=>(AV.bool lR)) (λhg lR aed=>by(try rw[hg]);exact(eT ((zF (e:=λr:Bool=>((AV.bool r),σ)) (λhs=>aai e7.title hs σ)) aed))) (λlR aed=>?_);refine fE (AV.bool (!lR)) (λhg=>by(try rw[hg]);exact rfl)<|aA _ (uQ _ _) ?_;refine kV (c:=((decide (¬(e7.title=(⟨#[]⟩:ByteArray))))&&(!lR))) (λpg=>?_) (λpg=>?_)
  ·exact cV (jO (by simp) ⟨_,_,rfl⟩)
  refine aA _ rfl<|aA _ (Hr (σ:=σ) (r:=(bf e7.ct 0 36000000)) rfl)<|aA _ rfl<|fZ (AV.ah e7.up) (λhg=>rfl)<|fZ (AV.bool ((bf e7.up 0 36000000))) (λhg=>by(try rw[hg]);exact(eT (Hr (σ:=σ) (r:=(bf e7.up 0 36000000)) rfl)))<|fZ (AV.bool (!((bf e7.up 0 36000000)))) (λhg=>by(try rw[hg]);exact rfl)<|aA _ (sj _ _)<|fZ (AV.ah e7.down) (λhg=>rfl)<|fZ (AV.bool ((bf e7.down 0 36000000))) (λhg=>by(try rw[hg]);exact(eT (Hr (σ:=σ) (r:=(bf e7.down 0 36000000)) rfl)))<|fZ (AV.bool (!((bf e7.down 0 36000000)))) (λhg=>by(try rw[hg]);exact rfl)<|aA _ (sj _ _)<|fZ (AV.ah e7.other) (λhg=>rfl)<|fZ (AV.bool ((bf e7.other 0 36000000))) (λhg=>by(try rw[hg]);exact(eT (Hr (σ:=σ) (r:=(bf e7.other 0 36000000)) rfl)))<|fZ (AV.bool (!((bf e7.other 0 36000000)))) (λhg=>by(try rw[hg]);exact rfl)<|aA _ (sj _ _)<|fZ (AV.ah e7.eA) (λhg=>rfl)<|fZ (AV.bool (bf e7.eA (-1) 36000000)) (λhg=>by(try rw[hg]);exact(eT (lZ e7.eA (-1) 36000000 σ)))<|fZ (AV.bool (!(bf e7.eA (-1) 36000000))) (λhg=>by(try rw[hg]);exact rfl)<|aA _ (sj _ _) ?_;refine kV (c:=(((((!((bf e7.ct 0 36000000)))||(!((bf e7.up 0 36000000))))||(!((bf e7.down 0 36000000))))||(!((bf e7.other 0 36000000))))||(!(bf e7.eA (-1) 36000000)))) (λmV=>?_) (λmV=>?_)
  ·exact cV (jO (by simp) ⟨_,_,rfl⟩)
  refine aA _ rfl<|aA _ (XT e7.fB σ)<|aA _ (ij _ _ _) ?_;refine ng (p:=¬((rq e7.fB)=0)) (λlz=>?_) (λlz=>?_)
  ·exact cV (jO (by simp) ⟨_,_,rfl⟩)
  refine aA (sl 8 gZ e7.dW) rfl<|aA _ (gH _ _ _)<|aA _ rfl ?_;refine ng (p:=2000<(e7.dW.length:Int)) (λkn=>?_) (λkn=>?_)
  ·exact cV (jO (by simp) ⟨_,_,rfl⟩)
  refine aA (sl 8 gZ e7.dW) rfl ?_;refine nh (λey:Int=>((AV.ah ey),σ)) (λey Lg=>agn Lg) (λey Lg=>?_);refine aA _ (ij _ _ _) ?_;refine ng (p:=¬(ey=0)) (λfJ=>?_) (λfJ=>?_)
  ·exact cV (jO (by simp) ⟨_,_,rfl⟩)
  refine aA (sl 8 gZ e7.dW) rfl<|aA _ (gH _ _ _)<|aA _ rfl<|aA _ (gY qQ CN) ?_;exact cV (tP ⟨rfl,rfl⟩)
 ·intro hl s1 v w3 hI;obtain⟨rfl,rfl⟩:=hI;refine aA _ (kS _)<|tU ?_;exact cV ⟨by simp,⟨_,_,rfl⟩⟩
 ·intro hl b2 q hq;obtain⟨u2,AK,rfl⟩:=hq;refine l7 rfl<|aA _ rfl<|aA _ (wR (decide (10000<b2)) 2 σ) ?_;exact fW _ (bP _ _) ⟨rfl,rfl⟩
 ·intro hl b2 q hq;obtain⟨u3,AK,rfl⟩:=hq;refine yC rfl<|l7 rfl ?_;exact fW _ (bP _ _) ⟨rfl,rfl⟩
noncomputable def HA (a0:je):Option (List (aG×Bool)):=
 (tq (D9 a0) (((if mg a0=0 then pX a0 else[]:List aG),mg a0))).bind λr1=>
 mY r1.1 (λ(xT:Nat)mF(s4:(List (aG×Bool)))=>(show Option (Lr (List (aG×Bool)) (List (aG×Bool)) Unit)from
   some (.go (eH mF true s4)))) (λs4=>some s4) ([]:List (aG×Bool)) (λb5=>
  some b5) (λb5=>
  none)
theorem aif{a0:je}{σ:Heap}{r:(List (aG×Bool))}(h:HA a0=some r):RG [(AV.agg (lV a0))] σ=some ((xM (λx=>(AV.agg (aT x))) (λx=>(AV.bool x)) r),σ):=by
 refine AZ (f:=RS) (y0:=(AV.agg (lV a0))) (enc:=λr:(List (aG×Bool))=>(xM (λx=>(AV.agg (aT x))) (λx=>(AV.bool x)) r)) (T:=HA a0) rfl rfl ?_ r h;unfold RS HA;refine aA _ rfl<|aA _ rfl ?_;refine nh (λr1:((List aG)×Int)=>((AV.aM [(sl 2 aT r1.1),(AV.ah r1.2)]),σ)) (λr1 mH=>(zF (e:=λr:((List aG)×Int)=>((AV.aM [(sl 2 aT r.1),(AV.ah r.2)]),σ)) (λhs=>Tg a0 hs σ)) mH) (λr1 mH=>?_);refine aA (sl 2 aT r1.1) rfl<|aA _ rfl ?_;have hp2:Hp σ σ []:=TQ σ;have hp3:Hp σ (σ++[aS.map []]) [((AV.om σ.length),(Ct.m (List.map (λp=>((λx=>(AV.agg (aT x))) p.1,(λx=>(AV.bool x)) p.2)) ([]:List (aG×Bool)))))]:=Uc hp2;refine aA _ (gH _ _ _) ?_;refine tO (B:=(List (aG×Bool))) (R:=Unit) (λ(xT:Nat)(s4:(List (aG×Bool)))v w6=>v=[(AV.ah (xT:Int))]∧Hp σ w6 [((AV.om σ.length),(Ct.m (List.map (λp=>((λx=>(AV.agg (aT x))) p.1,(λx=>(AV.bool x)) p.2)) s4)))]) (λ(b5:(List (aG×Bool)))(q:LS)=>∃u16 w7,q=((AX.exit 0),([u16]:au),w7)∧Hp σ w7 [((AV.om σ.length),(Ct.m (List.map (λp=>((λx=>(AV.agg (aT x))) p.1,(λx=>(AV.bool x)) p.2)) b5)))]) (λ(b5:Unit)(q:LS)=>False) ?_ ?_ ⟨rfl,hp3⟩ ?_ ?_
 ·intro T9 xT mF s4 v w6 FZ hI;obtain⟨rfl,yW⟩:=hI;refine aA _ (kU FZ)<|tV<|aA _ (jG FZ)<|aA _ rfl<|aA _ rfl<|aA _ (H8 _ _ rfl)<|aA _ rfl ?_;obtain⟨w12,e14,aeb⟩:=Tt (ek:=(.s [0,2])) (eK:=(λx=>(AV.agg (aT x)))) (eV:=(λx=>(AV.bool x))) yW 0 rfl tL mF true rfl;change Hp σ w12 [((AV.om σ.length),(Ct.m (List.map (λp=>((λx=>(AV.agg (aT x))) p.1,(λx=>(AV.bool x)) p.2)) (eH mF true s4))))]at aeb;refine aA w12 e14<|aA _ (gY FZ T9) ?_;exact cV (tP ⟨rfl,aeb⟩)
 ·intro hl s4 v w6 hI;obtain⟨rfl,yW⟩:=hI;refine aA _ (kS _)<|tU ?_;exact cV ⟨by simp,⟨_,_,rfl,yW⟩⟩
 ·intro hl b5 q hq;obtain⟨u16,w7,rfl,hp9⟩:=hq;refine l7 rfl ?_;exact fW _ (OO hp9 (acy hp9 (k:=0) rfl (by intro p hp;obtain⟨x,_,rfl⟩:=gB.1 hp;exact⟨(wV (BZ _)),(A8 _)⟩))) ⟨rfl,rfl⟩
 ·intro hl b5 q hq;exact False.elim hq
noncomputable def Hq (a0:aG) (a1:aG):Option Bool:=
 if ¬(a0.unit=a1.unit)then
  some (decide (a0.unit<a1.unit))
 else
 some (decide ((Lib.compareBytes a0.param.data.toList a1.param.data.toList)<0))
theorem ahc{a0:aG}{a1:aG}{σ:Heap}{r:Bool}(h:Hq a0 a1=some r):Re [(AV.agg (aT a0)),(AV.agg (aT a1))] σ=some ((AV.bool r),σ):=by
 refine yl (f:=Rj) (y0:=(AV.agg (aT a0))) (y1:=(AV.agg (aT a1))) (enc:=λr:Bool=>(AV.bool r)) (T:=Hq a0 a1) rfl rfl ?_ r h;unfold Rj Hq;refine aA _ rfl<|aA _ rfl<|aA _ rfl<|aA _ rfl<|aA _ (ij _ _ _) ?_;refine ng (p:=¬(a0.unit=a1.unit)) (λc1=>?_) (λc1=>?_)
 ·refine aA _ rfl<|aA _ rfl<|aA _ rfl ?_;exact fW _ (bP _ _) ⟨rfl,rfl⟩
 refine aA _ rfl<|aA _ rfl<|aA _ rfl<|aA _ rfl ?_;exact fW _ (bP _ _) ⟨rfl,rfl⟩
noncomputable def EP (a0:je) (a1:(List l5)):Option Int:=
 (tq (D9 a0) (mg a0)).bind λr1=>
 (tq (([r1,(if(decide (200<(a1.length:Int)))=true then 2 else 0)]:(List Int)).length≤bg) ((([r1,(if(decide (200<(a1.length:Int)))=true then 2 else 0)]:(List Int)).find? λn=>decide (¬n=0)).getD 0)).bind λr2=>
 if ¬(r2=0)then
  some r2
 else
 (HA a0).bind λr3=>
 mY a1 (λ(xT:Nat)mF(s4:Unit)=>(show Option (Lr Unit Unit Int)from
   if(!(bf mF.aC 1 999))=true then
    some (.ret 1)
   else
   (if decide (0<(xT:Int))=true then xW a1 (IntKind.i64.wrap ((xT:Int) -1))else some default).bind λdS=>
   if((decide (0<(xT:Int)))&&(decide (mF.aC≤dS.aC)))=true then
    some (.ret 7)
   else
   (tq (kO mF.title) (Fm mF.title)).bind λuB=>
   if(!uB)=true then
    some (.ret 3)
   else
   if 2000<(mF.lS.length:Int)then
    some (.ret 2)
   else
   mY mF.lS (λ(i21:Nat)C8(AH:Unit)=>(show Option (Lr Unit Unit Int)from
     if(!((dM C8.key r3).getD false))=true then
      some (.ret 8)
     else
     if(!(bf C8.level 0 65535))=true then
      some (.ret 1)
     else
     (if decide (0<(i21:Int))=true then xW mF.lS (IntKind.i64.wrap ((i21:Int) -1))else some default).bind λeu=>
     (if decide (0<(i21:Int))=true then Hq eu.key C8.key else some default).bind λqh=>
     if((decide (0<(i21:Int)))&&(!qh))=true then
      some (.ret 7)
     else
     some (.go ()))) (λAH=>some ()) () (λGh=>
    some (.go ())) (λGh=>
    some (.ret Gh)))) (λs4=>some ()) () (λb5=>
  some 0) (λb5=>
  some b5)
theorem Xl{a0:je}{a1:(List l5)}{σ:Heap}{r:Int}(h:EP a0 a1=some r):MK [(AV.agg (lV a0)),(sl 3 ff a1)] σ=some ((AV.ah r),σ):=by
 refine yl (f:=Qt) (y0:=(AV.agg (lV a0))) (y1:=(sl 3 ff a1)) (enc:=λr:Int=>(AV.ah r)) (T:=EP a0 a1) rfl rfl ?_ r h;unfold Qt EP;refine aA _ rfl<|aA _ rfl ?_;refine nh (λr1:Int=>((AV.ah r1),σ)) (λr1 mH=>(zF (e:=λr:Int=>((AV.ah r),σ)) (λhs=>RE a0 hs σ)) mH) (λr1 mH=>?_);refine aA _ (gH _ _ _)<|aA _ rfl<|aA _ (wR (decide (200<(a1.length:Int))) 2 σ)<|aA (sl 1 nV ([r1,(if(decide (200<(a1.length:Int)))=true then 2 else 0)]:(List Int))) rfl ?_;refine nh (λr2:Int=>((AV.ah r2),σ)) (λr2 vw=>(zF (e:=λr:Int=>((AV.ah r),σ)) (λhs=>DG ([r1,(if(decide (200<(a1.length:Int)))=true then 2 else 0)]:(List Int)) hs σ)) vw) (λr2 vw=>?_);refine aA _ (ij _ _ _) ?_;refine ng (p:=¬(r2=0)) (λyO=>?_) (λyO=>?_)
 ·exact fW _ (bP _ _) ⟨rfl,rfl⟩
 refine aA _ rfl ?_;refine nh (λr3:(List (aG×Bool))=>((xM (λx=>(AV.agg (aT x))) (λx=>(AV.bool x)) r3),σ)) (λr3 Je=>aif Je) (λr3 Je=>?_);refine aA _ (gH _ _ _) ?_;refine tO (B:=Unit) (R:=Int) (λ(xT:Nat)(s4:Unit)v w6=>∃u4,v=[u4,(AV.ah (xT:Int))]∧σ=w6) (λ(b5:Unit)(q:LS)=>∃u4 Mj,q=((AX.exit 0),([u4,Mj]:au),σ)) (λ(b5:Int)(q:LS)=>∃Mj,q=(AX.ret,([(AV.ah b5),Mj]:au),σ)) ?_ ?_ ⟨_,rfl,rfl⟩ ?_ ?_
 ·intro T9 xT mF s4 v w6 FZ hI;obtain⟨u4,rfl,rfl⟩:=hI;refine aA _ (kU FZ)<|tV<|aA _ (jG FZ)<|aA _ rfl<|aA _ rfl<|aA _ (Zm _ _ rfl)<|aA _ rfl<|aA _ (lZ mF.aC 1 999 σ)<|aA _ rfl ?_;refine kV (c:=(!(bf mF.aC 1 999))) (λvi=>?_) (λvi=>?_)
  ·exact cV (jO (by simp) ⟨_,rfl⟩)
  refine aA _ rfl<|fE (AV.ah mF.aC) (λhg=>rfl)<|fE (sl 3 ff a1) (λhg=>rfl)<|fE (AV.ah (xT:Int)) (λhg=>rfl)<|fE (AV.ah (IntKind.i64.wrap ((xT:Int) -1))) (λhg=>by(try rw[hg]);exact rfl) ?_;refine Bd (ω:=l5) (λdS=>(AV.rp (ff dS))) (λhg dS aen=>by(try rw[hg]);exact D6 aen) (λdS aen=>?_);refine fE (AV.rp (ff dS)) (λhg=>by(try rw[hg]);exact rfl)<|fE (AV.ah dS.aC) (λhg=>by(try rw[hg]);exact rfl)<|fE (AV.bool (decide (mF.aC≤dS.aC))) (λhg=>by(try rw[hg]);exact rfl)<|aA _ (uQ _ _) ?_;refine kV (c:=((decide (0<(xT:Int)))&&(decide (mF.aC≤dS.aC)))) (λum=>?_) (λum=>?_)
  ·exact cV (jO (by simp) ⟨_,rfl⟩)
  refine aA _ rfl ?_;refine nh (λuB:Bool=>((AV.bool uB),σ)) (λuB aef=>(zF (e:=λr:Bool=>((AV.bool r),σ)) (λhs=>aln mF.title hs σ)) aef) (λuB aef=>?_);refine aA _ rfl ?_;refine kV (c:=(!uB)) (λlM=>?_) (λlM=>?_)
  ·exact cV (jO (by simp) ⟨_,rfl⟩)
  refine aA (sl 3 fD mF.lS) rfl<|aA _ (gH _ _ _)<|aA _ rfl ?_;refine ng (p:=2000<(mF.lS.length:Int)) (λko=>?_) (λko=>?_)
  ·exact cV (jO (by simp) ⟨_,rfl⟩)
  refine aA (sl 3 fD mF.lS) rfl<|aA _ (gH _ _ _) ?_;refine tO (B:=Unit) (R:=Int) (λ(i21:Nat)(AH:Unit)v WU=>∃u4,v=[u4,(AV.lbx (ff mF)),(AV.ah (i21:Int))]∧σ=WU) (λ(Gh:Unit)(q:LS)=>∃u4 u8 Mp,q=((AX.exit 3),([u4,u8,Mp]:au),σ)) (λ(Gh:Int)(q:LS)=>∃u8 Mp,q=(AX.ret,([(AV.ah Gh),u8,Mp]:au),σ)) ?_ ?_ ⟨_,rfl,rfl⟩ ?_ ?_
  ·intro apZ i21 C8 AH v WU UW hI;obtain⟨u4,rfl,rfl⟩:=hI;refine aA _ (kU UW)<|tV<|aA _ (jG UW)<|aA _ rfl<|aA _ rfl<|aA _ (YG _ _ rfl)<|aA _ rfl<|aA _ (alT (ek:=(.s [0,2])) (eK:=(λx=>(AV.agg (aT x)))) (eV:=(λx=>(AV.bool x))) tL C8.key false rfl)<|aA _ rfl ?_;refine kV (c:=(!((dM C8.key r3).getD false))) (λiC=>?_) (λiC=>?_)
   ·exact cV (jO (by simp) ⟨_,_,rfl⟩)
   refine aA _ rfl<|aA _ (Yv C8.level σ)<|aA _ rfl ?_;refine kV (c:=(!(bf C8.level 0 65535))) (λgE=>?_) (λgE=>?_)
   ·exact cV (jO (by simp) ⟨_,_,rfl⟩)
   refine aA _ rfl<|aA _ rfl<|fE (sl 3 fD mF.lS) (λhg=>rfl)<|fE (AV.ah (i21:Int)) (λhg=>rfl)<|fE (AV.ah (IntKind.i64.wrap ((i21:Int) -1))) (λhg=>by(try rw[hg]);exact rfl) ?_;refine Bd (ω:=nP) (λeu=>(AV.rp (fD eu))) (λhg eu aeo=>by(try rw[hg]);exact D6 aeo) (λeu aeo=>?_);refine fE (AV.rp (fD eu)) (λhg=>by(try rw[hg]);exact rfl)<|fE (AV.agg (aT eu.key)) (λhg=>by(try rw[hg]);exact rfl)<|fE (AV.agg (aT C8.key)) (λhg=>rfl) ?_;refine Bd (ω:=Bool) (λqh=>(AV.bool qh)) (λhg qh aeg=>by(try rw[hg]);exact(eT (ahc aeg))) (λqh aeg=>?_);refine fE (AV.bool (!qh)) (λhg=>by(try rw[hg]);exact rfl)<|aA _ (uQ _ _) ?_;refine kV (c:=((decide (0<(i21:Int)))&&(!qh))) (λiB=>?_) (λiB=>?_)
   ·exact cV (jO (by simp) ⟨_,_,rfl⟩)
   refine aA _ (gY UW apZ) ?_;exact cV (tP ⟨_,rfl,rfl⟩)
  ·intro hl AH v WU hI;obtain⟨u4,rfl,rfl⟩:=hI;refine aA _ (kS _)<|tU ?_;exact cV ⟨by simp,⟨_,_,_,rfl⟩⟩
  ·intro hl Gh q hq;obtain⟨u4,u8,Mp,rfl⟩:=hq;refine l7 rfl<|aA _ (gY FZ T9) ?_;exact cV (tP ⟨_,rfl,rfl⟩)
  ·intro hl Gh q hq;obtain⟨u8,Mp,rfl⟩:=hq;refine yC rfl<|l7 rfl ?_;exact cV (jO (by simp) ⟨_,rfl⟩)
 ·intro hl s4 v w6 hI;obtain⟨u4,rfl,rfl⟩:=hI;refine aA _ (kS _)<|tU ?_;exact cV ⟨by simp,⟨_,_,rfl⟩⟩
 ·intro hl b5 q hq;obtain⟨u4,Mj,rfl⟩:=hq;refine l7 rfl ?_;exact fW _ (bP _ _) ⟨rfl,rfl⟩
 ·intro hl b5 q hq;obtain⟨Mj,rfl⟩:=hq;refine yC rfl<|l7 rfl ?_;exact fW _ (bP _ _) ⟨rfl,rfl⟩
noncomputable def Hv (a0:(List l5)) (a1:aG) (a2:ow):Option (Int×Int):=
 if((decide (¬(a2.level=0)))&&(decide (¬(a2.iY=0))))=true then
  some (0,3)
 else
 if(!(bf a2.level 0 65535))=true then
  some (0,1)
 else
 if a2.iY=0 then
  some (a2.level,0)
 else
 mY a0 (λ(i8:Nat)e7(s1:Unit)=>(show Option (Lr Unit Unit Int)from
   if ¬(e7.aC=a2.iY)then
    some (.go ())
   else
   mY e7.lS (λ(i16:Nat)Pz(s9:Unit)=>(show Option (Lr Unit Unit Int)from
     if Pz.key=a1 then
      some (.ret Pz.level)
     else
     some (.go ()))) (λs9=>some ()) () (λGf=>
    some (.brk ())) (λGf=>
    some (.ret Gf)))) (λs1=>some ()) () (λb2=>
  some (0,8)) (λb2=>
  some (b2,0))
theorem X8{a0:(List l5)}{a1:aG}{a2:ow}{σ:Heap}{r:(Int×Int)}(h:Hv a0 a1 a2=some r):E3 [(sl 3 ff a0),(AV.agg (aT a1)),(AV.agg (yp a2))] σ=some ((AV.aM [(AV.ah r.1),(AV.ah r.2)]),σ):=by
 refine aa7 (f:=Ru) (y0:=(sl 3 ff a0)) (y1:=(AV.agg (aT a1))) (y2:=(AV.agg (yp a2))) (enc:=λr:(Int×Int)=>(AV.aM [(AV.ah r.1),(AV.ah r.2)])) (T:=Hv a0 a1 a2) rfl rfl ?_ r h;unfold Ru Hv;refine aA _ rfl<|aA _ rfl<|aA _ rfl<|aA _ (ij _ _ _)<|fE (AV.ah a2.iY) (λhg=>rfl)<|fE (AV.bool (decide (¬(a2.iY=0)))) (λhg=>by(try rw[hg]);exact(ij _ _ _))<|aA _ (uQ _ _) ?_;refine kV (c:=((decide (¬(a2.level=0)))&&(decide (¬(a2.iY=0))))) (λlB=>?_) (λlB=>?_)
 ·exact fW _ (bP _ _) ⟨rfl,rfl⟩
 refine aA _ rfl<|aA _ (Yv a2.level σ)<|aA _ rfl ?_;refine kV (c:=(!(bf a2.level 0 65535))) (λjR=>?_) (λjR=>?_)
 ·exact fW _ (bP _ _) ⟨rfl,rfl⟩
 refine aA _ rfl<|aA _ (jQ _ _ _) ?_;refine ng (p:=a2.iY=0) (λiM=>?_) (λiM=>?_)
 ·refine aA _ rfl ?_;exact fW _ (bP _ _) ⟨rfl,rfl⟩
 refine aA _ (gH _ _ _) ?_;refine tO (B:=Unit) (R:=Int) (λ(i8:Nat)(s1:Unit)v w3=>v=[(AV.lbx (aT a1)),(AV.lbx (yp a2)),(AV.ah 0),(AV.ah 0),(AV.ah (i8:Int))]∧σ=w3) (λ(b2:Unit)(q:LS)=>∃u4 u5 u6 u7 Ml,q=((AX.exit 0),([u4,u5,u6,u7,Ml]:au),σ)) (λ(b2:Int)(q:LS)=>∃u4 u5 Ml,q=(AX.ret,([u4,u5,(AV.ah b2),(AV.ah 0),Ml]:au),σ)) ?_ ?_ ⟨rfl,rfl⟩ ?_ ?_
 ·intro CN i8 e7 s1 v w3 qQ hI;obtain⟨rfl,rfl⟩:=hI;refine aA _ (kU qQ)<|tV<|aA _ (jG qQ)<|aA _ rfl<|aA _ rfl<|aA _ (Zm _ _ rfl)<|aA _ rfl<|aA _ rfl<|aA _ rfl<|aA _ (ij _ _ _) ?_;refine ng (p:=¬(e7.aC=a2.iY)) (λjm=>?_) (λjm=>?_)
  ·refine aA _ (gY qQ CN) ?_;exact cV (tP ⟨rfl,rfl⟩)
  refine aA (sl 3 fD e7.lS) rfl<|aA _ (gH _ _ _) ?_;refine tO (B:=Unit) (R:=Int) (λ(i16:Nat)(s9:Unit)v WR=>v=[(AV.lbx (aT a1)),(AV.ah 0),(AV.ah 0),(AV.ah (i16:Int))]∧σ=WR) (λ(Gf:Unit)(q:LS)=>∃u4 u6 u7 Mm,q=((AX.exit 2),([u4,u6,u7,Mm]:au),σ)) (λ(Gf:Int)(q:LS)=>∃u4 Mm,q=(AX.ret,([u4,(AV.ah Gf),(AV.ah 0),Mm]:au),σ)) ?_ ?_ ⟨rfl,rfl⟩ ?_ ?_
  ·intro apX i16 Pz s9 v WR UT hI;obtain⟨rfl,rfl⟩:=hI;refine aA _ (kU UT)<|tV<|aA _ (jG UT)<|aA _ rfl<|aA _ rfl<|aA _ (YG _ _ rfl)<|aA _ rfl<|aA _ rfl<|aA _ (acp _ _) ?_;refine ng (p:=Pz.key=a1) (λpq=>?_) (λpq=>?_)
   ·refine aA _ rfl ?_;exact cV (jO (by simp) ⟨_,_,rfl⟩)
   refine aA _ (gY UT apX) ?_;exact cV (tP ⟨rfl,rfl⟩)
  ·intro hl s9 v WR hI;obtain⟨rfl,rfl⟩:=hI;refine aA _ (kS _)<|tU ?_;exact cV ⟨by simp,⟨_,_,_,_,rfl⟩⟩
  ·intro hl Gf q hq;obtain⟨u4,u6,u7,Mm,rfl⟩:=hq;refine l7 rfl ?_;exact cV (aoc (by simp) ⟨_,_,_,_,_,rfl⟩)
  ·intro hl Gf q hq;obtain⟨u4,Mm,rfl⟩:=hq;refine yC rfl<|l7 rfl ?_;exact cV (jO (by simp) ⟨_,_,_,rfl⟩)
 ·intro hl s1 v w3 hI;obtain⟨rfl,rfl⟩:=hI;refine aA _ (kS _)<|tU ?_;exact cV ⟨by simp,⟨_,_,_,_,_,rfl⟩⟩
 ·intro hl b2 q hq;obtain⟨u4,u5,u6,u7,Ml,rfl⟩:=hq;refine l7 rfl ?_;exact fW _ (bP _ _) ⟨rfl,rfl⟩
 ·intro hl b2 q hq;obtain⟨u4,u5,Ml,rfl⟩:=hq;refine yC rfl<|l7 rfl ?_;exact fW _ (bP _ _) ⟨rfl,rfl⟩
noncomputable def Hi (a0:je) (a1:(List l5)) (a2:(List bz)):Option Int:=
 (EP a0 a1).bind λr1=>
 (HF a2).bind λr2=>
 (tq (([r1,r2]:(List Int)).length≤bg) ((([r1,r2]:(List Int)).find? λn=>decide (¬n=0)).getD 0)).bind λr3=>
 if ¬(r3=0)then
  some r3
 else
 (tq (D9 a0) (((if mg a0=0 then pX a0 else[]:List aG),mg a0))).bind λr4=>
 mY r4.1 (λ(Ww:Nat)Py(s7:(List (aG×Bool)))=>(show Option (Lr (List (aG×Bool)) (List (aG×Bool)) Unit)from
   some (.go (eH Py true s7)))) (λs7=>some s7) ([]:List (aG×Bool)) (λb8=>
  mY a2 (λ(Wy:Nat)LA(zb:Unit)=>(show Option (Lr Unit Unit Int)from
    mY LA.dW (λ(i33:Nat)I3(P3:Unit)=>(show Option (Lr Unit Unit Int)from
      if(!((dM I3.key b8).getD false))=true then
       some (.ret 8)
      else
      (Hv a1 I3.key I3.value).bind λqi=>
      if ¬(qi.2=0)then
       some (.ret qi.2)
      else
      some (.go ()))) (λP3=>some ()) () (λGk=>
     some (.go ())) (λGk=>
     some (.ret Gk)))) (λzb=>some ()) () (λGj=>
   some 0) (λGj=>
   some Gj)) (λb8=>
  none)
theorem agx{a0:je}{a1:(List l5)}{a2:(List bz)}{σ:Heap}{r:Int}(h:Hi a0 a1 a2=some r):QU [(AV.agg (lV a0)),(sl 3 ff a1),(sl 11 br a2)] σ=some ((AV.ah r),σ):=by
 refine aa7 (f:=QW) (y0:=(AV.agg (lV a0))) (y1:=(sl 3 ff a1)) (y2:=(sl 11 br a2)) (enc:=λr:Int=>(AV.ah r)) (T:=Hi a0 a1 a2) (kI (sL (kI (xy (λ_=>(kI rfl (kI rfl (kI (xy (λ_=>rfl) _) It)))) _) (kI rfl It))) (kI (xy (λ_=>rfl) _) (kI (xy (λ_=>rfl) _) rfl))) rfl ?_ r h;unfold QW Hi;refine aA _ rfl<|aA _ rfl ?_;refine nh (λr1:Int=>((AV.ah r1),σ)) (λr1 mH=>Xl mH) (λr1 mH=>?_);refine nh (λr2:Int=>((AV.ah r2),σ)) (λr2 vw=>YV vw) (λr2 vw=>?_);refine aA (sl 1 nV ([r1,r2]:(List Int))) rfl ?_;refine nh (λr3:Int=>((AV.ah r3),σ)) (λr3 Je=>(zF (e:=λr:Int=>((AV.ah r),σ)) (λhs=>DG ([r1,r2]:(List Int)) hs σ)) Je) (λr3 Je=>?_);refine aA _ (ij _ _ _) ?_;refine ng (p:=¬(r3=0)) (λiu=>?_) (λiu=>?_)
 ·exact fW _ (bP _ _) ⟨rfl,rfl⟩
 refine aA _ rfl ?_;refine nh (λr4:((List aG)×Int)=>((AV.aM [(sl 2 aT r4.1),(AV.ah r4.2)]),σ)) (λr4 Wq=>(zF (e:=λr:((List aG)×Int)=>((AV.aM [(sl 2 aT r.1),(AV.ah r.2)]),σ)) (λhs=>Tg a0 hs σ)) Wq) (λr4 Wq=>?_);refine aA (sl 2 aT r4.1) rfl<|aA _ rfl ?_;have hp5:Hp σ σ []:=TQ σ;have hp6:Hp σ (σ++[aS.map []]) [((AV.om σ.length),(Ct.m (List.map (λp=>((λx=>(AV.agg (aT x))) p.1,(λx=>(AV.bool x)) p.2)) ([]:List (aG×Bool)))))]:=Uc hp5;refine aA _ (gH _ _ _) ?_;refine tO (B:=(List (aG×Bool))) (R:=Unit) (λ(Ww:Nat)(s7:(List (aG×Bool)))v w9=>v=[(AV.ah (Ww:Int))]∧Hp σ w9 [((AV.om σ.length),(Ct.m (List.map (λp=>((λx=>(AV.agg (aT x))) p.1,(λx=>(AV.bool x)) p.2)) s7)))]) (λ(b8:(List (aG×Bool)))(q:LS)=>∃u37 WQ,q=((AX.exit 0),([u37]:au),WQ)∧Hp σ WQ [((AV.om σ.length),(Ct.m (List.map (λp=>((λx=>(AV.agg (aT x))) p.1,(λx=>(AV.bool x)) p.2)) b8)))]) (λ(b8:Unit)(q:LS)=>False) ?_ ?_ ⟨rfl,hp6⟩ ?_ ?_
 ·intro apW Ww Py s7 v w9 US hI;obtain⟨rfl,U7⟩:=hI;refine aA _ (kU US)<|tV<|aA _ (jG US)<|aA _ rfl<|aA _ rfl<|aA _ (H8 _ _ rfl)<|aA _ rfl ?_;obtain⟨w15,mG,Pm⟩:=Tt (ek:=(.s [0,2])) (eK:=(λx=>(AV.agg (aT x)))) (eV:=(λx=>(AV.bool x))) U7 0 rfl tL Py true rfl;change Hp σ w15 [((AV.om σ.length),(Ct.m (List.map (λp=>((λx=>(AV.agg (aT x))) p.1,(λx=>(AV.bool x)) p.2)) (eH Py true s7))))]at Pm;refine aA w15 mG<|aA _ (gY US apW) ?_;exact cV (tP ⟨rfl,Pm⟩)
 ·intro hl s7 v w9 hI;obtain⟨rfl,U7⟩:=hI;refine aA _ (kS _)<|tU ?_;exact cV ⟨by simp,⟨_,_,rfl,U7⟩⟩
 ·intro hl b8 q hq;obtain⟨u37,WQ,rfl,arU⟩:=hq;refine l7 rfl<|aA _ (gH _ _ _) ?_;refine tO (B:=Unit) (R:=Int) (λ(Wy:Nat)(zb:Unit)v WW=>∃u6,v=[u6,(AV.ah (Wy:Int))]∧Hp σ WW [((AV.om σ.length),(Ct.m (List.map (λp=>((λx=>(AV.agg (aT x))) p.1,(λx=>(AV.bool x)) p.2)) b8)))]) (λ(Gj:Unit)(q:LS)=>∃u6 Mn GU,q=((AX.exit 2),([u6,Mn]:au),GU)∧Hp σ GU [((AV.om σ.length),(Ct.m (List.map (λp=>((λx=>(AV.agg (aT x))) p.1,(λx=>(AV.bool x)) p.2)) b8)))]) (λ(Gj:Int)(q:LS)=>∃Mn GU,q=(AX.ret,([(AV.ah Gj),Mn]:au),GU)∧Hp σ GU []) ?_ ?_ ⟨_,rfl,arU⟩ ?_ ?_
  ·intro ap0 Wy LA zb v WW UY hI;obtain⟨u6,rfl,U8⟩:=hI;refine aA _ (kU UY)<|tV<|aA _ (jG UY)<|aA _ rfl<|aA _ rfl<|aA _ (Km _ _ rfl)<|aA (sl 8 gZ LA.dW) rfl<|aA _ (gH _ _ _) ?_;refine tO (B:=Unit) (R:=Int) (λ(i33:Nat)(P3:Unit)v P7=>∃u6,v=[u6,(AV.ah (i33:Int))]∧Hp σ P7 [((AV.om σ.length),(Ct.m (List.map (λp=>((λx=>(AV.agg (aT x))) p.1,(λx=>(AV.bool x)) p.2)) b8)))]) (λ(Gk:Unit)(q:LS)=>∃u6 Mo GV,q=((AX.exit 4),([u6,Mo]:au),GV)∧Hp σ GV [((AV.om σ.length),(Ct.m (List.map (λp=>((λx=>(AV.agg (aT x))) p.1,(λx=>(AV.bool x)) p.2)) b8)))]) (λ(Gk:Int)(q:LS)=>∃Mo GV,q=(AX.ret,([(AV.ah Gk),Mo]:au),GV)∧Hp σ GV []) ?_ ?_ ⟨_,rfl,U8⟩ ?_ ?_
   ·intro ap1 i33 I3 P3 v P7 UZ hI;obtain⟨u6,rfl,II⟩:=hI;refine aA _ (kU UZ)<|tV<|aA _ (jG UZ)<|aA _ rfl<|aA _ rfl<|aA _ (Oh _ _ rfl)<|aA _ rfl<|aA _ (alY (ek:=(.s [0,2])) (eK:=(λx=>(AV.agg (aT x)))) (eV:=(λx=>(AV.bool x))) II 0 rfl tL I3.key false rfl)<|aA _ rfl ?_;refine kV (c:=(!((dM I3.key b8).getD false))) (λjJ=>?_) (λjJ=>?_)
    ·exact cV (jO (by simp) ⟨_,_,rfl,(Tu II)⟩)
    refine aA _ rfl<|aA _ rfl ?_;refine nh (λqi:(Int×Int)=>((AV.aM [(AV.ah qi.1),(AV.ah qi.2)]),P7)) (λqi aei=>X8 aei) (λqi aei=>?_);refine aA _ rfl<|aA _ rfl<|aA _ (ij _ _ _) ?_;refine ng (p:=¬(qi.2=0)) (λgr=>?_) (λgr=>?_)
    ·exact cV (jO (by simp) ⟨_,_,rfl,(Tu II)⟩)
    refine aA _ (gY UZ ap1) ?_;exact cV (tP ⟨_,rfl,II⟩)
   ·intro hl P3 v P7 hI;obtain⟨u6,rfl,II⟩:=hI;refine aA _ (kS _)<|tU ?_;exact cV ⟨by simp,⟨_,_,_,rfl,II⟩⟩
   ·intro hl Gk q hq;obtain⟨u6,Mo,GV,rfl,U9⟩:=hq;refine l7 rfl<|aA _ (gY UY ap0) ?_;exact cV (tP ⟨_,rfl,U9⟩)
   ·intro hl Gk q hq;obtain⟨Mo,GV,rfl,U9⟩:=hq;refine yC rfl<|l7 rfl ?_;exact cV (jO (by simp) ⟨_,_,rfl,(Tu U9)⟩)
  ·intro hl zb v WW hI;obtain⟨u6,rfl,U8⟩:=hI;refine aA _ (kS _)<|tU ?_;exact cV ⟨by simp,⟨_,_,_,rfl,U8⟩⟩
  ·intro hl Gj q hq;obtain⟨u6,Mn,GU,rfl,IG⟩:=hq;refine l7 rfl ?_;exact fW _ (OO IG (acw (dA _ _))) ⟨rfl,rfl⟩
  ·intro hl Gj q hq;obtain⟨Mn,GU,rfl,IG⟩:=hq;refine yC rfl<|l7 rfl ?_;exact fW _ (OO IG (acw (dA _ _))) ⟨rfl,rfl⟩
 ·intro hl b8 q hq;exact False.elim hq
end
section
set_option maxRecDepth 100000
noncomputable def Q2 (a0:kL) (a1:Int):Option Bool:=some (decide (a0.aC=a1))
theorem agz{a0:kL}{a1:Int}{σ:Heap}{r:Bool}(h:Q2 a0 a1=some r):Jx [(AV.agg (fA a0)),(AV.rp [(AV.ah a1)])] σ=some ((AV.bool r),σ):=by refine yl (f:=QZ) (y0:=(AV.agg (fA a0))) (y1:=(AV.rp [(AV.ah a1)])) (enc:=λr:Bool=>(AV.bool r)) (T:=Q2 a0 a1) rfl rfl ?_ r h;unfold QZ Q2;refine aA _ rfl<|aA _ rfl<|aA _ rfl<|aA _ (jQ _ _ _) ?_;exact fW _ (bP _ _) ⟨rfl,rfl⟩
noncomputable def HB (a0:iQ) (a1:Int):Option (kL×Bool):=
 (tq (a0.cM.length≤bg) (lg (λx=>(decide (x.aC=a1))) a0.cM)).bind λr1=>
 if r1<0 then
  some ((⟨0,[]⟩:kL),false)
 else
 (xW a0.cM r1).bind λx2=>
 some (x2,true)
theorem Yu{a0:iQ}{a1:Int}{σ:Heap}{r:(kL×Bool)}(h:HB a0 a1=some r):DC [(AV.agg (bK a0)),(AV.ah a1)] σ=some ((AV.aM [(AV.agg (fA r.1)),(AV.bool r.2)]),σ):=by
 refine yl (f:=Ns) (y0:=(AV.agg (bK a0))) (y1:=(AV.ah a1)) (enc:=λr:(kL×Bool)=>(AV.aM [(AV.agg (fA r.1)),(AV.bool r.2)])) (T:=HB a0 a1) rfl rfl ?_ r h;unfold Ns HB;refine aA _ rfl<|aA _ rfl<|aA (sl 2 fA a0.cM) rfl ?_;refine nh (λr1:Int=>((AV.ah r1),σ)) (λr1 mH=>(zF (e:=λr:Int=>((AV.ah r),σ)) (λhs=>aeO _ a0.cM hs _ _ (λx=>(decide (x.aC=a1))) σ (λx hx=>agz (σ:=σ) (r:=(decide (x.aC=a1))) rfl))) mH) (λr1 mH=>?_);refine aA _ rfl ?_;refine ng (p:=r1<0) (λc3=>?_) (λc3=>?_)
 ·refine aA [(AV.ah 0),AV.az] rfl<|aA [(AV.ah 0),AV.az] rfl<|aA _ rfl ?_;exact fW _ (bP _ _) ⟨(aet (kI (sL (kI rfl (kI (by first|rfl|exact anV _ _) It))) (kI rfl It))),rfl⟩
 refine aA (sl 2 fA a0.cM) rfl ?_;refine nh (λx2:kL=>(AV.rp (fA x2))) (λx2 hx2=>D6 hx2) (λx2 hx2=>?_);refine aA _ rfl<|aA _ rfl<|aA _ (Og _ _ rfl)<|aA _ rfl ?_;exact fW _ (bP _ _) ⟨(aet (kI (sL (kI rfl (kI (xy (λ_=>rfl) _) It))) (kI rfl It))),rfl⟩
noncomputable def Jv (a0:iQ):Option Int:=
 (EP a0.aZ a0.cq).bind λr1=>
 (tq (([r1,(if(decide (30<(a0.cM.length:Int)))=true then 2 else 0)]:(List Int)).length≤bg) ((([r1,(if(decide (30<(a0.cM.length:Int)))=true then 2 else 0)]:(List Int)).find? λn=>decide (¬n=0)).getD 0)).bind λr2=>
 if ¬(r2=0)then
  some r2
 else
 mY a0.cM (λ(xS:Nat)e9(s3:Unit)=>(show Option (Lr Unit Unit Int)from
   if(!(bf e9.aC 1 999))=true then
    some (.ret 1)
   else
   (if decide (0<(xS:Int))=true then xW a0.cM (IntKind.i64.wrap ((xS:Int) -1))else some default).bind λdJ=>
   if((decide (0<(xS:Int)))&&(decide (e9.aC≤dJ.aC)))=true then
    some (.ret 7)
   else
   (Hi a0.aZ a0.cq e9.bH).bind λjk=>
   if ¬(jk=0)then
    some (.ret jk)
   else
   some (.go ()))) (λs3=>some ()) () (λb4=>
  if 40<(a0.bU.length:Int)then
   some 2
  else
  mY a0.bU (λ(i23:Nat)yR(mL:Unit)=>(show Option (Lr Unit Unit Int)from
    if(!(bf yR.aC 1 40))=true then
     some (.ret 1)
    else
    (if decide (0<(i23:Int))=true then xW a0.bU (IntKind.i64.wrap ((i23:Int) -1))else some default).bind λx24=>
    if((decide (0<(i23:Int)))&&(decide (yR.aC≤x24.aC)))=true then
     some (.ret 7)
    else
    (HB a0 yR.list).bind λnA=>
    if(!nA.2)=true then
     some (.ret 8)
    else
    if(!(bf yR.kH 0 100))=true then
     some (.ret 1)
    else
    some (.go ()))) (λmL=>some ()) () (λGi=>
   some 0) (λGi=>
   some Gi)) (λb4=>
  some b4)
theorem Xv{a0:iQ}{σ:Heap}{r:Int}(h:Jv a0=some r):MV [(AV.agg (bK a0))] σ=some ((AV.ah r),σ):=by
 refine AZ (f:=QI) (y0:=(AV.agg (bK a0))) (enc:=λr:Int=>(AV.ah r)) (T:=Jv a0) rfl rfl ?_ r h;unfold QI Jv;refine aA _ rfl<|aA _ rfl<|aA (sl 3 ff a0.cq) rfl ?_;refine nh (λr1:Int=>(AV.ah r1)) (λr1 mH=>(eT (Xl mH))) (λr1 mH=>?_);refine aA (sl 2 fA a0.cM) rfl<|aA _ (gH _ _ _)<|aA _ rfl<|aA _ (eT (wR (decide (30<(a0.cM.length:Int))) 2 σ))<|aA (sl 1 nV ([r1,(if(decide (30<(a0.cM.length:Int)))=true then 2 else 0)]:(List Int))) rfl ?_;refine nh (λr2:Int=>(AV.ah r2)) (λr2 vw=>(eT ((zF (e:=λr:Int=>((AV.ah r),σ)) (λhs=>DG ([r1,(if(decide (30<(a0.cM.length:Int)))=true then 2 else 0)]:(List Int)) hs σ)) vw))) (λr2 vw=>?_);refine aA _ (ij _ _ _) ?_;refine ng (p:=¬(r2=0)) (λyO=>?_) (λyO=>?_)
 ·exact fW _ (bP _ _) ⟨rfl,rfl⟩
 refine aA (sl 2 fA a0.cM) rfl<|aA _ (gH _ _ _) ?_;refine tO (B:=Unit) (R:=Int) (λ(xS:Nat)(s3:Unit)v w5=>v=[(AV.lbx (bK a0)),(AV.ah 0),(AV.ah (xS:Int))]∧σ=w5) (λ(b4:Unit)(q:LS)=>∃u2 Mk,q=((AX.exit 0),([(AV.lbx (bK a0)),u2,Mk]:au),σ)) (λ(b4:Int)(q:LS)=>∃u1 Mk,q=(AX.ret,([u1,(AV.ah b4),Mk]:au),σ)) ?_ ?_ ⟨rfl,rfl⟩ ?_ ?_
 ·intro U4 xS e9 s3 v w5 Gu hI;obtain⟨rfl,rfl⟩:=hI;refine aA _ (kU Gu)<|tV<|aA _ (jG Gu)<|aA _ rfl<|aA _ rfl<|aA _ (Og _ _ rfl)<|aA _ rfl<|aA _ (lZ e9.aC 1 999 σ)<|aA _ rfl ?_;refine kV (c:=(!(bf e9.aC 1 999))) (λmV=>?_) (λmV=>?_)
  ·exact cV (jO (by simp) ⟨_,_,rfl⟩)
  refine aA _ rfl<|fE (AV.ah e9.aC) (λhg=>rfl)<|aA _ rfl<|fE (sl 2 fA a0.cM) (λhg=>rfl)<|fE (AV.ah (xS:Int)) (λhg=>rfl)<|fE (AV.ah (IntKind.i64.wrap ((xS:Int) -1))) (λhg=>by(try rw[hg]);exact rfl) ?_;refine Bd (ω:=kL) (λdJ=>(AV.rp (fA dJ))) (λhg dJ aem=>by(try rw[hg]);exact D6 aem) (λdJ aem=>?_);refine fE (AV.rp (fA dJ)) (λhg=>by(try rw[hg]);exact rfl)<|fE (AV.ah dJ.aC) (λhg=>by(try rw[hg]);exact rfl)<|fE (AV.bool (decide (e9.aC≤dJ.aC))) (λhg=>by(try rw[hg]);exact rfl)<|aA _ (uQ _ _) ?_;refine kV (c:=((decide (0<(xS:Int)))&&(decide (e9.aC≤dJ.aC)))) (λlz=>?_) (λlz=>?_)
  ·exact cV (jO (by simp) ⟨_,_,rfl⟩)
  refine aA _ rfl<|aA _ rfl<|aA _ rfl<|aA (sl 3 ff a0.cq) rfl<|aA (sl 11 br e9.bH) rfl ?_;refine nh (λjk:Int=>((AV.ah jk),σ)) (λjk aee=>agx aee) (λjk aee=>?_);refine aA _ (ij _ _ _) ?_;refine ng (p:=¬(jk=0)) (λkn=>?_) (λkn=>?_)
  ·exact cV (jO (by simp) ⟨_,_,rfl⟩)
  refine aA _ (gY Gu U4) ?_;exact cV (tP ⟨rfl,rfl⟩)
 ·intro hl s3 v w5 hI;obtain⟨rfl,rfl⟩:=hI;refine aA _ (kS _)<|tU ?_;exact cV ⟨by simp,⟨_,_,rfl⟩⟩
 ·intro hl b4 q hq;obtain⟨u2,Mk,rfl⟩:=hq;refine l7 rfl<|aA _ rfl<|aA (sl 3 dh a0.bU) rfl<|aA _ (gH _ _ _)<|aA _ rfl ?_;refine ng (p:=40<(a0.bU.length:Int)) (λvi=>?_) (λvi=>?_)
  ·exact fW _ (bP _ _) ⟨rfl,rfl⟩
  refine aA _ rfl<|aA (sl 3 dh a0.bU) rfl<|aA _ (gH _ _ _) ?_;refine tO (B:=Unit) (R:=Int) (λ(i23:Nat)(mL:Unit)v WV=>∃u2,v=[(AV.lbx (bK a0)),u2,(AV.ah (i23:Int))]∧σ=WV) (λ(Gi:Unit)(q:LS)=>∃u1 u2 Mq,q=((AX.exit 2),([u1,u2,Mq]:au),σ)) (λ(Gi:Int)(q:LS)=>∃u1 Mq,q=(AX.ret,([u1,(AV.ah Gi),Mq]:au),σ)) ?_ ?_ ⟨_,rfl,rfl⟩ ?_ ?_
  ·intro hle22 i23 yR mL v WV UX hI;obtain⟨u2,rfl,rfl⟩:=hI;refine aA _ (kU UX)<|tV<|aA _ (jG UX)<|aA _ rfl<|aA _ rfl<|aA _ (Yg _ _ rfl)<|aA _ rfl<|aA _ (lZ yR.aC 1 40 σ)<|aA _ rfl ?_;refine kV (c:=(!(bf yR.aC 1 40))) (λum=>?_) (λum=>?_)
   ·exact cV (jO (by simp) ⟨_,_,rfl⟩)
   refine aA _ rfl<|fE (AV.ah yR.aC) (λhg=>rfl)<|aA _ rfl<|fE (sl 3 dh a0.bU) (λhg=>rfl)<|fE (AV.ah (i23:Int)) (λhg=>rfl)<|fE (AV.ah (IntKind.i64.wrap ((i23:Int) -1))) (λhg=>by(try rw[hg]);exact rfl) ?_;refine Bd (ω:=nO) (λx24=>(AV.rp (dh x24))) (λhg x24 aep=>by(try rw[hg]);exact D6 aep) (λx24 aep=>?_);refine fE (AV.rp (dh x24)) (λhg=>by(try rw[hg]);exact rfl)<|fE (AV.ah x24.aC) (λhg=>by(try rw[hg]);exact rfl)<|fE (AV.bool (decide (yR.aC≤x24.aC))) (λhg=>by(try rw[hg]);exact rfl)<|aA _ (uQ _ _) ?_;refine kV (c:=((decide (0<(i23:Int)))&&(decide (yR.aC≤x24.aC)))) (λlM=>?_) (λlM=>?_)
   ·exact cV (jO (by simp) ⟨_,_,rfl⟩)
   refine aA _ rfl<|aA _ rfl ?_;refine nh (λnA:(kL×Bool)=>((AV.aM [(AV.agg (fA nA.1)),(AV.bool nA.2)]),σ)) (λnA aeh=>Yu aeh) (λnA aeh=>?_);refine aA _ rfl<|aA _ rfl<|aA _ rfl<|aA _ (Og _ _ rfl)<|aA _ rfl ?_;refine kV (c:=(!nA.2)) (λko=>?_) (λko=>?_)
   ·exact cV (jO (by simp) ⟨_,_,rfl⟩)
   refine aA _ rfl<|aA _ (lZ yR.kH 0 100 σ)<|aA _ rfl ?_;refine kV (c:=(!(bf yR.kH 0 100))) (λiC=>?_) (λiC=>?_)
   ·exact cV (jO (by simp) ⟨_,_,rfl⟩)
   refine aA _ (gY UX hle22) ?_;exact cV (tP ⟨_,rfl,rfl⟩)
  ·intro hl mL v WV hI;obtain⟨u2,rfl,rfl⟩:=hI;refine aA _ (kS _)<|tU ?_;exact cV ⟨by simp,⟨_,_,_,rfl⟩⟩
  ·intro hl Gi q hq;obtain⟨u1,u2,Mq,rfl⟩:=hq;refine l7 rfl ?_;exact fW _ (bP _ _) ⟨rfl,rfl⟩
  ·intro hl Gi q hq;obtain⟨u1,Mq,rfl⟩:=hq;refine yC rfl<|l7 rfl ?_;exact fW _ (bP _ _) ⟨rfl,rfl⟩
 ·intro hl b4 q hq;obtain⟨u1,Mk,rfl⟩:=hq;refine yC rfl<|l7 rfl ?_;exact fW _ (bP _ _) ⟨rfl,rfl⟩
end
section
section
variable {κ ν : Type} [DecidableEq κ]
theorem Zq(k a:κ)(v:ν):∀(l:List (κ×ν)),dM k (eH a v l)=if k=a then some v else dM k l
 |[]=>by simp [eH,dM]
 |(b,w)::l=>by
  rw[eH];by_cases h:a=b
  ·subst h;rw[aQ rfl,dM,dM];split<;>rfl
  ·rw[aP h,dM,dM,Zq k a v l];by_cases h2:k=b
   ·subst h2;rw[aQ rfl,aQ rfl,aP (λe=>h e.symm)]
   ·rw[aP h2,aP h2]
theorem SP(k:κ):∀(l:List κ)(s:List (κ×Bool)),(dM k (l.foldl (λs x=>eH x true s) s)).getD false=(decide (k∈l)||(dM k s).getD false)
 |[],s=>by simp
 |x::l,s=>by
  rw[List.foldl_cons,SP k l,Zq];by_cases h:k=x
  ·simp [h]
  ·simp [h]
end
theorem aiK{l:List Int}{n:Int}(h:l.Pairwise (·<·))(k:F1 l n=false):(l++[n]).Pairwise (·<·):=by
 rw[List.pairwise_append];refine⟨h,by simp,λa ha b hb=>?_⟩;simp at hb;subst hb;unfold F1 at k;cases hl:l.getLast? with
 |none=>rw[List.getLast?_eq_none_iff]at hl;subst hl;simp at ha
 |some m=>
  rw[hl]at k;simp at k;obtain⟨ys,rfl⟩:=List.getLast?_eq_some_iff.1 hl;rw[List.pairwise_append]at h;rcases kM.1 ha with ha|ha
  ·have:=h.2.2 a ha m (by simp);omega
  ·simp at ha;omega
theorem Yl{jq:List dZ}:∀(rest pre:List jH),IA jq pre rest=0→(pre.map (·.aC)).Pairwise (·<·)→((pre++rest).map (·.aC)).Pairwise (·<·)
 |[],pre,_,h=>by simpa using h
 |u::rest,pre,hc,h=>by
  rw[IA]at hc;split at hc
  ·cases hc
  split at hc
  ·cases hc
  rename_i ho;split at hc
  ·cases hc
  split at hc
  ·cases hc
  split at hc
  ·cases hc
  have:=Yl rest (pre++[u]) hc (by rw[List.map_append];exact aiK h (by simpa using ho));simpa using this
theorem aiA{r:je}(h:mg r=0):(r.dB.map (·.aC)).Pairwise (·<·):=by
 unfold mg at h;split at h
 ·split at h
  ·cases h
  ·simpa using Yl r.dB [] h (by simp)
 ·rename_i h2;exact absurd h h2
theorem ajC(p:dZ)(nm:ByteArray):(TW p nm).2=true↔∃x∈p.params,x.name=nm:=by
 unfold TW;cases h:p.params.find? λx=>decide (x.name=nm)with
 |none=>simp only[Option.elim_none,Bool.false_eq_true,false_iff];rintro⟨x,hx,e⟩;have:=List.find?_eq_none.1 h x hx;simp [e]at this
 |some x=>simp only[Option.elim_some,true_iff];exact⟨x,Cq h,by simpa using List.find?_some h⟩
theorem ali{l:List jH}(h:(l.map (·.aC)).Pairwise (·<·)){u v:jH}(hu:u∈l)(hv:v∈l)(e:u.aC=v.aC):u=v:=by
 induction l with
 |nil=>simp at hu
 |cons x l ih=>
  rw[ef,List.pairwise_cons]at h;rcases jY.1 hu with GA|GA<;>rcases jY.1 hv with LZ|LZ
  ·rw[GA,LZ]
  ·have:=h.1 v.aC (gB.2 ⟨v,LZ,rfl⟩);rw[←GA]at this;omega
  ·have:=h.1 u.aC (gB.2 ⟨u,GA,rfl⟩);rw[←LZ]at this;omega
  ·exact ih h.2 GA LZ
def El(r:je)(k:aG):Bool:=(abR r k).2
theorem aaJ{r:je}(h:mg r=0)(k:aG):El r k=decide (k∈pX r):=by
 rw[p4,decide_eq_true_iff];unfold El abR pX;rw[List.mem_flatMap];cases hf:r.dB.find? λu=>decide (u.aC=k.unit)with
 |none=>simp only[Option.elim_none,Bool.false_eq_true,false_iff];rintro⟨u,hu,hk⟩;obtain⟨x,_,rfl⟩:=gB.1 hk;have:=List.find?_eq_none.1 hf u hu;simp at this
 |some u=>
  have hu:=Cq hf;have hn:u.aC=k.unit:=by simpa using List.find?_some hf
  simp only[Option.elim_some,ajC];constructor
  ·rintro⟨x,hx,e⟩;exact⟨u,hu,gB.2 ⟨x,hx,by rw[hn,e]⟩⟩
  ·rintro⟨v,hv,hk⟩;obtain⟨x,hx,rfl⟩:=gB.1 hk;obtain rfl:=ali (aiA h) hu hv hn;exact⟨x,hx,rfl⟩
theorem S2{r:je}(h:mg r=0):(pX r).length≤16000:=by have h1:=RD h r.dB;have h2:=Zb h;show(r.dB.flatMap (uN r.bw)).length≤_;omega
theorem al0{α:Type}{p:Prop}[Decidable p](a b:α):(if p then some a else some b)=some (if p then a else b):=by split<;>rfl
theorem Sq{α β:Type}{p:Prop}[Decidable p](a b:α)(f:α→Option β):(if p then some a else some b).bind f=f (if p then a else b):=by split<;>rfl
theorem before_eq(a b:aG):Hq a b=some (gI a b):=by
 unfold Hq gI;by_cases h:a.unit=b.unit
 ·simp [h,Oi,Tn]
 ·by_cases h2:a.unit<b.unit<;>simp [h,h2]
theorem compare_eq(a b:aG):Ho a b=some (yG a b):=by
 unfold Ho yG;by_cases h:a.unit=b.unit
 ·simp [h]
 ·by_cases h2:a.unit<b.unit<;>simp [h,h2]
def O7(has:aG→Bool)(l:List nP)(i:Nat)(x:nP):Int:=
 if(!has x.key)=true then 8
 else if(!(bf x.level 0 65535))=true then 1
 else if(decide (0<(i:Int))&&!gI (pv l i).key x.key)=true then 7 else 0
def OF(has:aG→Bool)(l:List l5)(i:Nat)(p:l5):Int:=
 if(!(bf p.aC 1 999))=true then 1
 else if(decide (0<(i:Int))&&decide (p.aC≤(pv l i).aC))=true then 7
 else if(!(Fm p.title))=true then 3
 else if 2000<(p.lS.length:Int)then 2
 else jZ (O7 has p.lS) p.lS 0
def uL(r:je)(l:List l5):Int:=
 if ¬(mg r=0)then mg r else if 200<(l.length:Int)then 2 else jZ (OF (El r) l) l 0
theorem ahz(c:Bool)(a b:aG):(c&&!(if c=true then gI a b else(default:Bool)))=(c&&!gI a b):=by cases c<;>rfl
theorem akA(c:Bool)(a b:aG):(c&&decide (0≤(if c=true then yG a b else(default:Int))))=(c&&!gI a b):=by
 cases c
 ·rfl
 ·simp only[if_true,Bool.true_and];exact am2 a b
theorem aid(s:ByteArray):(decide (¬(s=(⟨#[]⟩:ByteArray)))&&!(if decide (¬(s=(⟨#[]⟩:ByteArray)))=true then Ku s else(default:Bool)))=!Fm s:=by unfold Fm;by_cases h:s=⟨#[]⟩<;>simp [h]
theorem XM(r:je)(l:List l5)(hr:D9 r)(hl:gu BV l):EP r l=some (uL r l):=by
 unfold EP uL;simp only[yu hr,aX];rw[yu (by show 2≤bg;unfold bg;omega)];simp only[T7,aX];by_cases h0:mg r=0;case neg=>simp [h0]
 by_cases h1:200<(l.length:Int)
 ·simp [h0,h1]
 have hk:HA r=some ((pX r).foldl (λs x=>eH x true s) []):=by unfold HA;have:=S2 h0;simp only[yu hr,aX,h0,if_true];rw[NL (λs x=>eH x true s) (λ_ _=>True) (by unfold bg;omega) trivial (λ_ _ _ _ _=>trivial) (λ_ _ _ _ _=>rfl)];rfl
 simp only[h0,h1,not_true_eq_false,if_false,decide_false,Bool.false_eq_true,hk,aX]
 have has:∀k,(dM k ((pX r).foldl (λs x=>eH x true s) [])).getD false=El r k:=by intro k;rw[SP,aaJ h0];simp [dM]
 rw[DH (f:=OF (El r) l) hl.1 ?_]
 ·split
  ·rename_i h;rw[h]
  ·rfl
 intro i p hp;have Wn:=hl.2 p (cS hp);obtain⟨_,ht,hs⟩:=Wn;simp only[H7 hp hl.1,aX,yu ht,has];rw[DH (f:=O7 (El r) p.lS) hs.1 ?_]
 ·unfold OF;repeat first|exact aav _|exact go_ret|refine HZ (by decide) ?_
 intro j x hx;simp only[H7 hx hs.1,aX,before_eq,Sq,ahz];unfold O7;repeat first|exact go_ret|refine HZ (by decide) ?_
def zw(l:List l5)(k:aG)(v:ow):Int×Int:=
 if(decide (¬(v.level=0))&&decide (¬(v.iY=0)))=true then(0,3)
 else if(!(bf v.level 0 65535))=true then(0,1)
 else if v.iY=0 then(v.level,0)
 else match l.find? λp=>decide (p.aC=v.iY)with
  |none=>(0,8)
  |some p=>match p.lS.find? λs=>decide (s.key=k)with|none=>(0,8)|some s=>(s.level,0)
theorem ai9{α γ R:Type}{p:α→Bool}{l:List α}{body:Nat→α→Unit→Option (Lr Unit Unit R)}{r:α→Option R}{fin:Unit→Option Unit}{s:Unit}{K1:Unit→Option γ}{K2:R→Option γ}(hl:l.length≤bg)(hb:∀i x,l[i]? =some x→body i x ()=if p x=true then some (match r x with|some q=>.ret q|none=>.brk ())else some (.go ()))(hf:fin ()=some ():=by rfl):mY l body fin s K1 K2=match l.find? p with|some x=>(match r x with|some q=>K2 q|none=>K1 ())|none=>K1 ():=by
 rw[Kf hl]
 have key:∀(rest pre:List α),l=pre++rest→oR body fin rest pre.length ()=some (match rest.find? p with|some x=>(match r x with|some q=>.inr q|none=>.inl ())|none=>.inl ()):=by
  intro rest;induction rest with
  |nil=>intro pre _;simp [oR,hf]
  |cons x rest ih=>
   intro pre hp;rw[oR,hb pre.length x (by rw[hp];simp),List.find?_cons];cases h:p x
   ·simp only[Bool.false_eq_true,if_false,aX];have:=ih (pre++[x]) (by simpa using hp);simpa using this
   ·simp only[if_true,aX];cases r x<;>rfl
 have k:=key l [] rfl;rw[List.length_nil]at k;rw[show s=()from rfl,k,aX];cases l.find? p with
 |none=>rfl
 |some x=>simp only;cases r x<;>rfl
theorem abk(l:List l5)(hl:gu BV l)(k:aG)(v:ow):Hv l k v=some (zw l k v):=by
 unfold Hv zw;split
 ·rfl
 split
 ·rfl
 split
 ·rfl
 rw[ai9 (p:=λp=>decide (p.aC=v.iY)) (r:=λp=>(p.lS.find? λs=>decide (s.key=k)).map (·.level)) hl.1 ?_]
 ·cases hf:l.find? λp=>decide (p.aC=v.iY)with
  |none=>rfl
  |some p=>simp only;cases p.lS.find? λs=>decide (s.key=k)<;>rfl
 intro i p hp;have Wn:=hl.2 p (cS hp);by_cases hn:p.aC=v.iY
 ·simp only[hn,not_true_eq_false,if_false,decide_true,if_true];rw[ZD (p:=λs=>decide (s.key=k)) (r:=λs=>s.level) Wn.2.2.1 (by intro i x _;simp only[decide_eq_true_eq,al0])];cases p.lS.find? λs=>decide (s.key=k)<;>rfl
 ·simp [hn]
def Is(l:List gQ)(i:Nat)(m:gQ):Int:=
 if(!(bf m.key.unit 1 9999))=true then 1
 else if(!(w8 m.key.param))=true then 5
 else if((m.release&&(decide (¬(m.value=(⟨0,0⟩:ow)))))||((decide (¬(m.value.level=0)))&&(decide (¬(m.value.iY=0)))))=true then 3
 else if((!(bf m.value.level 0 65535))||(!(bf m.value.iY 0 999)))=true then 1
 else if((!m.Bk)&&((decide (¬(m.ct=0)))||(decide (¬(m.time=0)))))=true then 3
 else if((!(bf m.ct 0 36000000))||(!(bf m.time 0 36000000)))=true then 1
 else if(decide (0<(i:Int))&&!gI (pv l i).key m.key)=true then 7 else 0
def DV(l:List gQ):Int:=jZ (Is l) l 0
theorem ahw(l:List gQ)(hl:gu OR l):Hg l=some (DV l):=by
 unfold Hg DV;rw[DH (f:=Is l) hl.1 ?_]
 ·split
  ·rename_i h;rw[h]
  ·rfl
 intro i m hm;have hmm:=hl.2 m (cS hm);simp only[H7 hm hl.1,aX,yu hmm.1.2,compare_eq,Sq,akA];unfold Is;repeat first|exact go_ret|refine HZ (by decide) ?_
def zR(l:List bz)(i:Nat)(c:bz):Int:=
 if(!(bf c.aC 1 9999999))=true then 1
 else if(decide (0<(i:Int))&&decide (c.aC≤(pv l i).aC))=true then 7
 else if(!(Fm c.title))=true then 3
 else if(((((!(bf c.ct 0 36000000))||(!(bf c.up 0 36000000)))||(!(bf c.down 0 36000000)))||(!(bf c.other 0 36000000)))||(!(bf c.eA (-1) 36000000)))=true then 1
 else if ¬(rq c.fB=0)then rq c.fB
 else if 2000<(c.dW.length:Int)then 2
 else DV c.dW
def Uh(l:List bz):Int:=l.foldl (λs c=>IntKind.i64.wrap (s+(c.dW.length:Int))) 0
def rY(l:List bz):Int:=
 if 300<(l.length:Int)then 2 else if ¬(jZ (zR l) l 0=0)then jZ (zR l) l 0 else if 10000<Uh l then 2 else 0
theorem akv{α γ S B:Type}{f:Nat→α→Int}{g:S→α→S}{l:List α}{body:Nat→α→S→Option (Lr S B Int)}{fin:S→Option B}{s:S}{K1:B→Option γ}{K2:Int→Option γ}(hl:l.length≤bg)(hb:∀i x s,l[i]? =some x→body i x s=some (if f i x=0 then .go (g s x)else .ret (f i x))):mY l body fin s K1 K2=if jZ f l 0=0 then(fin (l.foldl g s)).bind K1 else K2 (jZ f l 0):=by
 rw[Kf hl]
 have key:∀(rest pre:List α)(s:S),l=pre++rest→oR body fin rest pre.length s=if jZ f rest pre.length=0 then(fin (rest.foldl g s)).map .inl else some (.inr (jZ f rest pre.length)):=by
  intro rest;induction rest with
  |nil=>intro pre s _;simp [oR,jZ]
  |cons x rest ih=>
   intro pre s hp;rw[oR,hb pre.length x s (by rw[hp];simp),aX,jZ];by_cases h:f pre.length x=0
   ·simp only[h,if_true];have:=ih (pre++[x]) (g s x) (by simpa using hp);simpa using this
   ·simp only[h,if_false]
 have k:=key l [] s rfl;rw[List.length_nil]at k;rw[k];split
 ·cases fin (l.foldl g s)<;>rfl
 ·rfl
theorem al1{S B:Type}{p:Prop}[Decidable p]{k f:Int}{t:S}{Y:Option (Lr S B Int)}(hk:k≠0)(h:Y=some (if f=0 then .go t else .ret f)):(if p then some (.ret k)else Y)=some (if(if p then k else f)=0 then .go t else .ret (if p then k else f)):=by
 by_cases hp:p
 ·simp [hp,hk]
 ·simp [hp,h]
theorem akD{S B:Type}{k f:Int}{t:S}{Y:Option (Lr S B Int)}(h:Y=some (if f=0 then .go t else .ret f)):(if ¬(k=0)then some (.ret k)else Y)=some (if(if ¬(k=0)then k else f)=0 then .go t else .ret (if ¬(k=0)then k else f)):=by
 by_cases hp:k=0
 ·simp [hp,h]
 ·simp [hp]
theorem SD{S B:Type}{k:Int}{t:S}:(if ¬(k=0)then some (.ret k)else some (.go t):Option (Lr S B Int))=some (if k=0 then .go t else .ret k):=by by_cases hp:k=0<;>simp [hp]
theorem acu(l:List bz)(hl:gu D8 l):HF l=some (rY l):=by
 unfold HF rY;split
 ·rfl
 rw[akv (f:=zR l) (g:=λs c=>IntKind.i64.wrap (s+(c.dW.length:Int))) hl.1 ?_]
 ·show(if jZ (zR l) l 0=0 then some (if decide (10000<Uh l)=true then(2:Int)else 0)else some (jZ (zR l) l 0))=_;by_cases h:jZ (zR l) l 0=0
  ·by_cases h2:10000<Uh l<;>simp [h,h2]
  ·simp [h]
 intro i c s hc;obtain⟨_,ht,_,_,_,_,_,_,hm⟩:=hl.2 c (cS hc);simp only[H7 hc hl.1,aX,yu ht,ahw _ hm,Sq,aid];unfold zR;repeat first|exact SD|refine al1 (by decide) ?_|refine akD ?_
def Pt(r:je)(cq:List l5)(m:gQ):Int:=
 if(!El r m.key)=true then 8 else(zw cq m.key m.value).2
def Uq(r:je)(cq:List l5)(l:List bz):Int:=jZ (λ_ c=>jZ (λ_ m=>Pt r cq m) c.dW 0) l 0
def O3(r:je)(cq:List l5)(l:List bz):Int:=
 if ¬(uL r cq=0)then uL r cq else if ¬(rY l=0)then rY l else Uq r cq l
theorem Rr{r:je}{l:List l5}(h:uL r l=0):mg r=0:=by
 unfold uL at h;by_cases h0:mg r=0
 ·exact h0
 ·rw[aQ h0]at h;exact h
theorem Yz{c:bz}(h:D8 c):gu OR c.dW:=by obtain⟨_,_,_,_,_,_,_,_,hm⟩:=h;exact hm
theorem ahZ(r:je)(cq:List l5)(l:List bz)(hr:D9 r)(hp:gu BV cq)(hl:gu D8 l):Hi r cq l=some (O3 r cq l):=by
 unfold Hi O3;simp only[XM r cq hr hp,acu l hl,aX];rw[yu (by show 2≤bg;unfold bg;omega)];simp only[T7,aX];by_cases h0:uL r cq=0;case neg=>simp [h0]
 by_cases h1:rY l=0;case neg=>simp [h0,h1]
 have Vb:=Rr h0;have Ar:=S2 Vb;simp only[h0,h1,not_true_eq_false,if_false,yu hr,aX,Vb,if_true];rw[NL (λs x=>eH x true s) (λ_ _=>True) (by unfold bg;omega) trivial (λ_ _ _ _ _=>trivial) (λ_ _ _ _ _=>rfl)];simp only[aX]
 have has:∀k,(dM k ((pX r).foldl (λs x=>eH x true s) [])).getD false=El r k:=by intro k;rw[SP,aaJ Vb];simp [dM]
 rw[DH (f:=λ_ c=>jZ (λ_ m=>Pt r cq m) c.dW 0) hl.1 ?_]
 ·show(if Uq r cq l=0 then some (0:Int)else some (Uq r cq l))=_;split
  ·rename_i h;rw[h]
  ·rfl
 intro i c hc;rw[DH (f:=λ_ m=>Pt r cq m) (Yz (hl.2 c (cS hc))).1 ?_]
 ·exact aav _
 intro j m hm;simp only[has,abk cq hp,aX];unfold Pt;repeat first|exact SD|refine HZ (by decide) ?_
def vR(l:List kL)(n:Int):kL×Bool:=match l.find? λx=>decide (x.aC=n)with|some x=>(x,true)|none=>(⟨0,[]⟩,false)
theorem acH(s:iQ)(hl:s.cM.length≤bg)(n:Int):HB s n=some (vR s.cM n):=by
 unfold HB vR;rw[yu hl,aX];rcases zj (λx:kL=>decide (x.aC=n)) s.cM with⟨h1,_,h3⟩|⟨k,x,h1,h2,h3,h4,_⟩
 ·rw[h1,h3];rfl
 ·rw[h3,h4,aP (by omega),TI (x:=x) (by omega) (by simpa using h1)];rfl
def Fu(s:iQ)(i:Nat)(x:kL):Int:=
 if(!(bf x.aC 1 999))=true then 1
 else if(decide (0<(i:Int))&&decide (x.aC≤(pv s.cM i).aC))=true then 7
 else O3 s.aZ s.cq x.bH
def O4(s:iQ)(i:Nat)(p:nO):Int:=
 if(!(bf p.aC 1 40))=true then 1
 else if(decide (0<(i:Int))&&decide (p.aC≤(pv s.bU i).aC))=true then 7
 else if(!(vR s.cM p.list).2)=true then 8
 else if(!(bf p.kH 0 100))=true then 1 else 0
def DY(s:iQ):Int:=
 if ¬(uL s.aZ s.cq=0)then uL s.aZ s.cq
 else if 30<(s.cM.length:Int)then 2
 else if ¬(jZ (Fu s) s.cM 0=0)then jZ (Fu s) s.cM 0
 else if 40<(s.bU.length:Int)then 2
 else jZ (O4 s) s.bU 0
theorem X2(s:iQ)(hs:B4 s):Jv s=some (DY s):=by
 obtain⟨hr,hp,hl,hb⟩:=hs;unfold Jv DY;simp only[XM _ _ hr hp,aX];rw[yu (by show 2≤bg;unfold bg;omega)];simp only[T7,aX];by_cases h0:uL s.aZ s.cq=0;case neg=>simp [h0]
 by_cases h1:30<(s.cM.length:Int)
 ·simp [h0,h1]
 simp only[h0,h1,not_true_eq_false,if_false,decide_false,Bool.false_eq_true];rw[DH (f:=Fu s) hl.1 ?_]
 ·by_cases h2:jZ (Fu s) s.cM 0=0;case neg=>simp [h2]
  simp only[h2,if_true,not_true_eq_false,if_false];split
  ·rfl
  rw[DH (f:=O4 s) hb.1 ?_]
  ·split
   ·rename_i h;rw[h]
   ·rfl
  intro i p Jc;simp only[H7 Jc hb.1,aX,acH s hl.1];unfold O4;repeat first|exact go_ret|refine HZ (by decide) ?_
 intro i x hx;simp only[H7 hx hl.1,aX,ahZ _ _ _ hr hp (hl.2 x (cS hx)).2];unfold Fu;repeat first|exact SD|refine HZ (by decide) ?_
end
section
set_option maxRecDepth 100000
noncomputable def Q1 (a0:bz) (a1:Int):Option Int:=some (IntKind.i64.wrap (a0.aC-a1))
theorem agy{a0:bz}{a1:Int}{σ:Heap}{r:Int}(h:Q1 a0 a1=some r):EV [(AV.agg (br a0)),(AV.ah a1)] σ=some ((AV.ah r),σ):=by refine yl (f:=QX) (y0:=(AV.agg (br a0))) (y1:=(AV.ah a1)) (enc:=λr:Int=>(AV.ah r)) (T:=Q1 a0 a1) (kI (sL rfl) rfl) rfl ?_ r h;unfold QX Q1;refine aA _ rfl<|aA _ rfl<|aA _ rfl ?_;exact fW _ (bP _ _) ⟨rfl,rfl⟩
noncomputable def JN (a0:(List bz)):Option (List (aG×bB)):=
 mY a0 (λ(xS:Nat)e9(s3:(List (aG×bB)))=>(show Option (Lr (List (aG×bB)) (List (aG×bB)) Unit)from
   mY e9.dW (λ(Wx:Nat)mG(wI:(List (aG×bB)))=>(show Option (Lr (List (aG×bB)) (List (aG×bB)) Unit)from
     (show Option (List (aG×bB))from
       if mG.release=true then
        some (sN mG.key wI)
       else
       some (eH mG.key (⟨(⟨mG.key.unit,mG.key.param⟩:aG),(⟨mG.value.level,mG.value.iY⟩:ow),e9.aC⟩:bB) wI)).bind λPT=>
     some (.go PT))) (λwI=>some wI) s3 (λGg=>
    some (.go Gg)) (λGg=>
    none))) (λs3=>some s3) ([]:List (aG×bB)) (λb4=>
  some b4) (λb4=>
  none)
theorem aie{a0:(List bz)}{σ:Heap}{r:(List (aG×bB))}(h:JN a0=some r):JJ [(sl 11 br a0)] σ=some ((xM (λx=>(AV.agg (aT x))) (λx=>(AV.agg (dP x))) r),σ):=by
 refine AZ (f:=RR) (y0:=(sl 11 br a0)) (enc:=λr:(List (aG×bB))=>(xM (λx=>(AV.agg (aT x))) (λx=>(AV.agg (dP x))) r)) (T:=JN a0) (kI (xy (λ_=>rfl) _) rfl) rfl ?_ r h;unfold RR JN;have hp1:Hp σ σ []:=TQ σ;have hp2:Hp σ (σ++[aS.map []]) [((AV.om σ.length),(Ct.m (List.map (λp=>((λx=>(AV.agg (aT x))) p.1,(λx=>(AV.agg (dP x))) p.2)) ([]:List (aG×bB)))))]:=Uc hp1;refine aA _ (gH _ _ _) ?_;refine tO (B:=(List (aG×bB))) (R:=Unit) (λ(xS:Nat)(s3:(List (aG×bB)))v w5=>v=[(AV.ah (xS:Int))]∧Hp σ w5 [((AV.om σ.length),(Ct.m (List.map (λp=>((λx=>(AV.agg (aT x))) p.1,(λx=>(AV.agg (dP x))) p.2)) s3)))]) (λ(b4:(List (aG×bB)))(q:LS)=>∃u11 w6,q=((AX.exit 0),([u11]:au),w6)∧Hp σ w6 [((AV.om σ.length),(Ct.m (List.map (λp=>((λx=>(AV.agg (aT x))) p.1,(λx=>(AV.agg (dP x))) p.2)) b4)))]) (λ(b4:Unit)(q:LS)=>False) ?_ ?_ ⟨rfl,hp2⟩ ?_ ?_
 ·intro U4 xS e9 s3 v w5 Gu hI;obtain⟨rfl,Wl⟩:=hI;refine aA _ (kU Gu)<|tV<|aA _ (jG Gu)<|aA _ rfl<|aA _ rfl<|aA _ (Km _ _ rfl)<|aA (sl 8 gZ e9.dW) rfl<|aA _ (gH _ _ _) ?_;refine tO (B:=(List (aG×bB))) (R:=Unit) (λ(Wx:Nat)(wI:(List (aG×bB)))v WS=>v=[(AV.lbx (br e9)),(AV.ah (Wx:Int))]∧Hp σ WS [((AV.om σ.length),(Ct.m (List.map (λp=>((λx=>(AV.agg (aT x))) p.1,(λx=>(AV.agg (dP x))) p.2)) wI)))]) (λ(Gg:(List (aG×bB)))(q:LS)=>∃u5 u18 WT,q=((AX.exit 2),([u5,u18]:au),WT)∧Hp σ WT [((AV.om σ.length),(Ct.m (List.map (λp=>((λx=>(AV.agg (aT x))) p.1,(λx=>(AV.agg (dP x))) p.2)) Gg)))]) (λ(Gg:Unit)(q:LS)=>False) ?_ ?_ ⟨rfl,Wl⟩ ?_ ?_
  ·intro apY Wx mG wI v WS UU hI;obtain⟨rfl,Pk⟩:=hI;refine aA _ (kU UU)<|tV<|aA _ (jG UU)<|aA _ rfl<|aA _ rfl<|aA _ (Oh _ _ rfl)<|aA _ rfl ?_
   refine Pr (ω:=(List (aG×bB))) (λPT a=>∃WX,a=(([(AV.lbx (br e9))]:au),WX)∧Hp σ WX [((AV.om σ.length),(Ct.m (List.map (λp=>((λx=>(AV.agg (aT x))) p.1,(λx=>(AV.agg (dP x))) p.2)) PT)))]) (
     by
      refine kV (c:=mG.release) (λgE=>?_) (λgE=>?_)
      ·refine aA _ rfl ?_;obtain⟨w19,e21,aec⟩:=anA (ek:=(.s [0,2])) (eK:=(λx=>(AV.agg (aT x)))) (eV:=(λx=>(AV.agg (dP x)))) Pk 0 rfl tL mG.key rfl;change Hp σ w19 [((AV.om σ.length),(Ct.m (List.map (λp=>((λx=>(AV.agg (aT x))) p.1,(λx=>(AV.agg (dP x))) p.2)) (sN mG.key wI))))]at aec;refine aA w19 e21 ?_;exact cV ⟨_,rfl,aec⟩
      refine aA _ rfl<|aA _ rfl<|aA _ rfl<|aA _ rfl<|aA _ rfl<|aA (AV.agg (dP (⟨(⟨mG.key.unit,mG.key.param⟩:aG),(⟨mG.value.level,mG.value.iY⟩:ow),e9.aC⟩:bB))) rfl ?_;obtain⟨w22,LA,IG⟩:=Tt (ek:=(.s [0,2])) (eK:=(λx=>(AV.agg (aT x)))) (eV:=(λx=>(AV.agg (dP x)))) Pk 0 rfl tL mG.key (⟨(⟨mG.key.unit,mG.key.param⟩:aG),(⟨mG.value.level,mG.value.iY⟩:ow),e9.aC⟩:bB) rfl;change Hp σ w22 [((AV.om σ.length),(Ct.m (List.map (λp=>((λx=>(AV.agg (aT x))) p.1,(λx=>(AV.agg (dP x))) p.2)) (eH mG.key (⟨(⟨mG.key.unit,mG.key.param⟩:aG),(⟨mG.value.level,mG.value.iY⟩:ow),e9.aC⟩:bB) wI))))]at IG;refine aA w22 LA ?_;exact cV ⟨_,rfl,IG⟩
     ) (λPT a ha=>?_)
   obtain⟨WX,rfl,arV⟩:=ha;refine aA _ (gY UU apY) ?_;exact cV (tP ⟨rfl,arV⟩)
  ·intro hl wI v WS hI;obtain⟨rfl,Pk⟩:=hI;refine aA _ (kS _)<|tU ?_;exact cV ⟨by simp,⟨_,_,_,rfl,Pk⟩⟩
  ·intro hl Gg q hq;obtain⟨u5,u18,WT,rfl,Pm⟩:=hq;refine l7 rfl<|aA _ (gY Gu U4) ?_;exact cV (tP ⟨rfl,Pm⟩)
  ·intro hl Gg q hq;exact False.elim hq
 ·intro hl s3 v w5 hI;obtain⟨rfl,Wl⟩:=hI;refine aA _ (kS _)<|tU ?_;exact cV ⟨by simp,⟨_,_,rfl,Wl⟩⟩
 ·intro hl b4 q hq;obtain⟨u11,w6,rfl,yW⟩:=hq;refine l7 rfl ?_;exact fW _ (OO yW (acy yW (k:=0) rfl (by intro p hp;obtain⟨x,_,rfl⟩:=gB.1 hp;exact⟨(wV (BZ _)),(wV (ZL _))⟩))) ⟨rfl,rfl⟩
 ·intro hl b4 q hq;exact False.elim hq
end
theorem abA{i j:Nat}(h:i+j<9223372036854775808):A.shr (.int .u64 ((i+j:Nat):Int)) (.int .u64 1)=some (.int .u64 (((i+j) / 2:Nat):Int)):=by simp only[A.shr];rw[aP (by decide)];congr 2;rw[show(2:Int) ^ (min (Int.toNat 1) IntKind.u64.bits)=2 from rfl,Int.fdiv_eq_ediv_of_nonneg _ (by decide)];omega
theorem ack{n:Nat}(h:n<9223372036854775808):A.conv .u64 (.ah (n:Int))=some (.int .u64 (n:Int)):=by simp only[A.conv];congr 2;unfold IntKind.wrap;simp [IntKind.bits,IntKind.signed];omega
theorem acj{n:Nat}(h:n<9223372036854775808):A.conv .i64 (.int .u64 (n:Int))=some (.ah (n:Int)):=by simp only[A.conv];rw[cL (by unfold aV;omega)]
theorem Vs{a b:Nat}(h:a+b<9223372036854775808):A.add (.ah (a:Int)) (.ah (b:Int))=some (.ah ((a+b:Nat):Int)):=by rw[mz,cL (by unfold aV;omega)];simp
theorem Pa{a:Nat}(h:a+1<9223372036854775808):A.add (.ah (a:Int)) (.ah 1)=some (.ah ((a+1:Nat):Int)):=Vs (b:=1) h
theorem IY(a b:Nat):A.lss (.ah (a:Int)) (.ah (b:Int))=some (.bool (decide (a<b))):=by rw[l8];have:((a:Int)<(b:Int))=(a<b):=propext ⟨λh=>by omega,λh=>by omega⟩;simp only[this]
theorem adR(a:Int):A.lss (.ah a) (.ah 0)=some (.bool (decide (a<0))):=by rw[l8]
theorem VZ{α:Type}{X Y:α}:(bif (AX.exit 0==AX.exit 0)then X else Y)=X:=rfl
theorem amU{f:au→Heap→Option (AX×au×Heap)}{σ:Heap}(pv:Nat→Nat→au){v0:au}{n p:Nat}(hp:p≤n)(h0:v0=pv 0 n)
  (hs:∀i j,i<j→j≤n→f (pv i j) σ=some (.normal,if(i+j) / 2<p then pv ((i+j) / 2+1) j else pv i ((i+j) / 2),σ))
  (he:∀i,i≤n→f (pv i i) σ=some (.exit 0,pv i i,σ)):A.loop f v0 σ=some (.exit 0,pv p p,σ):=by
 subst h0
 have key:∀k i j,j-i≤k→i≤p→p≤j→j≤n→∃m,A.iter f m (pv i j) σ=some (.exit 0,pv p p,σ):=by
  intro k;induction k with
  |zero=>
   intro i j hk h1 h2 h3;have:i=p:=by omega
   have:j=p:=by omega
   subst i;subst j;exact yf (he p h3) (by simp)
  |succ k ih=>
   intro i j hk h1 h2 h3;by_cases hij:i<j
   ·have hstep:=hs i j hij h3;by_cases hh:(i+j) / 2<p
    ·rw[aQ hh]at hstep;exact E8 hstep (ih _ _ (by omega) (by omega) h2 h3)
    ·rw[aP hh]at hstep;exact E8 hstep (ih _ _ (by omega) h1 (by omega) (by omega))
   ·have:i=p:=by omega
    have:j=p:=by omega
    subst i;subst j;exact yf (he p h3) (by simp)
 obtain⟨m,hm⟩:=key n 0 n (by omega) (by omega) hp (bD _);exact E1 hm
theorem bsC{dyn:Nat→au→Heap→aH}{l:List bz}{fn:Nat}{k:Int}{cv:bz→Int}{p:Nat}{σ:Heap}(hl:l.length<4611686018427387904)(hp:p≤l.length)
  (hd:∀x∈l,dyn fn [.agg (br x),.ah k] σ=some (.ah (cv x),σ)) (hc:∀h x,l[h]? =some x→(cv x<0↔h<p)):
  GX dyn [sl 11 br l,.ah k,.fn fn []] σ=some (.aM [.ah (p:Int),.bool ((l[p]?).any λx=>decide (cv x=0))],σ):=by
 refine wrap_eq rfl ?_ rfl;show GY dyn (sl 11 br l) (.ah k) (.fn fn []) σ=_;unfold GY;rw[gH,aX];rw[amU (v0:=[.ah 0,.ah (l.length:Int)]) (λi j=>[.ah (i:Int),.ah (j:Int)]) hp rfl ?_ ?_,aX]
 ·simp only[VZ,cA,bW];rw[IY,aX];by_cases hpl:p<l.length
  ·have hx:l[p]? =some l[p]:=bT hpl;have qP:=hd _ (cS hx);have lP:=nQ 11 br l hx;have hq:=eT (by show A.lJ dyn (.fn fn []) [.agg (br l[p]),.ah k] σ=_;simp only[A.lJ,List.append_nil];exact qP);simp only[cz hpl,A.guard,beq_self_eq_true,ck,aX,cA,bW,lP,A.deref,Kk,A.lb,A.ak,A.aB,A.pick,hx,Option.any_some];show((A.quiet (A.lJ dyn (.fn fn []) [.agg (br l[p]),.ah k] σ) σ).bind _)=_;rw[hq,aX,jQ];exact bP _ _
  ·have hx:l[p]? =none:=qt (by omega);simp only[cD hpl,A.guard,aX,A.pick,hx,Option.any_none];exact bP _ _
 ·intro i j hij hj;have hlt:(i+j) / 2<l.length:=by omega
  have hx:l[(i+j) / 2]? =some l[(i+j) / 2]:=bT hlt;have qP:=hd _ (cS hx);have lP:=nQ 11 br l hx;have hq:A.lJ dyn (.fn fn []) [.agg (br l[(i+j) / 2]),.ah k] σ=some (.ah (cv l[(i+j) / 2]),σ):=by simp only[A.lJ,List.append_nil];exact qP
  simp only[cA,bW];rw[IY,aX,cz hij];simp only[A.cond,ck];rw[Vs (by omega),aX,ack (by omega),aX,abA (by omega),aX,acj (by omega),aX,lP,aX];simp only[A.deref,aX,Kk,A.lb];rw[hq,aX,adR,aX];by_cases hh:(i+j) / 2<p
  ·have:=(hc _ _ hx).2 hh;rw[cz this,aQ hh];simp only[ck,Pa (show(i+j) / 2+1<9223372036854775808 by omega),aX];rfl
  ·have:¬(cv l[(i+j) / 2]<0):=λe=>hh ((hc _ _ hx).1 e)
   rw[cD this,aP hh];rfl
 ·intro i hi;simp only[cA,bW];rw[IY,aX,cD (Nat.lt_irrefl i)];rfl
def Vo(l:List gQ):Prop:=l.Pairwise λa b=>gI a.key b.key=true
structure Good (l : List bz) : Prop where
 len:l.length≤300
 num:∀c∈l,1≤c.aC∧c.aC≤9999999
 Mh:l.Pairwise λa b=>a.aC<b.aC
 mv:∀c∈l,c.dW.length≤2000∧Vo c.dW
 pts:∀c∈l,c.fB.bL.length≤20
theorem RZ{α:Type}[Inhabited α]{r:α→α→Prop}(tr:∀a b c,r a b→r b c→r a c):∀(l:List α),(∀i x,l[i+1]? =some x→r (l[i]?.getD default) x)→l.Pairwise r
 |[],_=>List.Pairwise.nil
 |[a],_=>by simp
 |a::b::l,h=>by
  have ih:=RZ tr (b::l) (λi x hx=>h (i+1) x hx);have hab:r a b:=h 0 b rfl;refine List.pairwise_cons.2 ⟨λx hx=>?_,ih⟩;rcases jY.1 hx with rfl|hx
  ·exact hab
  ·exact tr _ _ _ hab ((List.pairwise_cons.1 ih).1 x hx)
section
theorem abV{α:Type}[Inhabited α](l:List α)(i:Nat):pv l (i+1)=l[i]?.getD default:=by simp [pv,List.getD_eq_getElem?_getD]
theorem ajc{l:List gQ}(h:DV l=0):Vo l:=by
 unfold DV at h;refine RZ (r:=λa b:gQ=>gI a.key b.key=true) (λa b c=>E9) l λi x hx=>?_
 have:=(AR l 0).1 h (i+1) x hx;rw[Nat.zero_add]at this;unfold Is at this;rw[←abV];by_cases hq:gI (pv l (i+1)).key x.key=true
 ·exact hq
 ·exfalso
  have e:(decide (0<((i+1:Nat):Int))&&!gI (pv l (i+1)).key x.key)=true:=by rw[jI];exact⟨cz (by omega),by simpa using hq⟩
  rw[e]at this;repeat (first|(split at this;· cases this)|(simp at this;done)|(rename_i q;exact q rfl))
theorem Oy{l:List bz}(h:rY l=0):Good l:=by
 unfold rY at h;by_cases h1:300<(l.length:Int)
 ·simp [h1]at h
 rw[aP h1]at h;by_cases h2:jZ (zR l) l 0=0;case neg=>rw[aQ h2]at h;exact absurd h h2
 have hc:∀i x,l[i]? =some x→(1≤x.aC∧x.aC≤9999999)∧(0<i→(pv l i).aC<x.aC)∧x.dW.length≤2000∧DV x.dW=0∧x.fB.bL.length≤20:=by
  intro i x hx;have:=(AR l 0).1 h2 i x hx;rw[Nat.zero_add]at this;unfold zR at this;split at this
  ·cases this
  rename_i a1;split at this
  ·cases this
  rename_i a2;split at this
  ·cases this
  split at this
  ·cases this
  split at this
  ·rename_i a5;exact absurd this a5
  rename_i a5;split at this
  ·cases this
  rename_i a6
  have hpt:x.fB.bL.length≤20:=by
   have a5:rq x.fB=0:=by simpa using a5
   unfold rq at a5;split at a5
   ·cases a5
   split at a5
   ·split at a5
    ·cases a5
    split at a5
    ·cases a5
    omega
   ·split at a5
    ·cases a5
    omega
  refine⟨by simpa [bf]using a1,λhi=>?_,by omega,this,hpt⟩;have hi':decide (0<(i:Int))=true:=cz (by omega);rw[hi',Bool.true_and,decide_eq_true_eq]at a2;omega
 refine⟨by omega,λc qO=>?_,?_,λc qO=>?_,λc qO=>?_⟩
 ·obtain⟨i,hi⟩:=tX.1 qO;exact(hc i c hi).1
 ·refine RZ (r:=λa b:bz=>a.aC<b.aC) (λa b c=>Int.lt_trans) l λi x hx=>?_
  rw[←abV];exact(hc (i+1) x hx).2.1 (by omega)
 ·obtain⟨i,hi⟩:=tX.1 qO;exact⟨(hc i c hi).2.2.1,ajc (hc i c hi).2.2.2.1⟩
 ·obtain⟨i,hi⟩:=tX.1 qO;exact(hc i c hi).2.2.2.2
def nJ(l:List bz)(n:Int):Nat:=(l.takeWhile λc=>decide (c.aC<n)).length
def zU(l:List bz)(n:Int):Bool:=l.any λc=>decide (c.aC=n)
theorem abT(l:List bz)(n:Int):nJ l n≤l.length:=(List.takeWhile_prefix _).length_le
theorem TC{l:List bz}{n:Int}(h:l.Pairwise λa b=>a.aC<b.aC):∀{i:Nat}{x:bz},l[i]? =some x→(x.aC<n↔i<nJ l n):=by
 induction l with
 |nil=>intro i x hx;simp at hx
 |cons a l ih=>
  intro i x hx;have hs:=List.pairwise_cons.1 h;unfold nJ;rw[List.takeWhile_cons];by_cases ha:a.aC<n
  ·rw[cz ha];simp only[if_true,List.length_cons];cases i with
   |zero=>simp at hx;subst hx;simp [ha]
   |succ i=>simp only[List.getElem?_cons_succ]at hx;rw[ih hs.2 hx];unfold nJ;omega
  ·rw[cD ha];simp only[Bool.false_eq_true,if_false,List.length_nil,Nat.not_lt_zero,iff_false];cases i with
   |zero=>simp at hx;subst hx;exact ha
   |succ i=>simp only[List.getElem?_cons_succ]at hx;have:=hs.1 x (cS hx);omega
theorem an6{l:List bz}{n:Int}(h:l.Pairwise λa b=>a.aC<b.aC) {i:Nat} {x:bz} (hx:l[i]? =some x) (hn:x.aC=n):nJ l n=i:=by
 have h1:¬i<nJ l n:=λq=>by have:=(TC h hx).2 q;omega
 have h2:¬nJ l n<i:=λq=>by
  have hp:nJ l n<l.length:=Nat.lt_trans q (bM.1 hx).1;have hy:l[nJ l n]? =some l[nJ l n]:=bT hp;have h3:¬l[nJ l n].aC<n:=λq'=>Nat.lt_irrefl _ ((TC h hy).1 q')
  have h4:=List.pairwise_iff_getElem.1 h (nJ l n) i hp (bM.1 hx).1 q;rw[(bM.1 hx).2,hn]at h4;exact h3 h4
 omega
theorem aaY{l:List bz}{n:Int}(h:l.Pairwise λa b=>a.aC<b.aC):((l[nJ l n]?).any λx=>decide (x.aC=n))=zU l n:=by
 rw[p4];constructor
 ·intro e;cases hx:l[nJ l n]? with
  |none=>rw[hx]at e;cases e
  |some x=>rw[hx]at e;exact List.any_eq_true.2 ⟨x,cS hx,e⟩
 ·intro e;obtain⟨x,hm,hk⟩:=List.any_eq_true.1 e;have hk:=of_decide_eq_true hk;obtain⟨i,hi⟩:=tX.1 hm;rw[an6 h hi hk,hi];simp [hk]
theorem amV{f:au→Heap→Option (AX×au×Heap)}{σ:Heap}(pv:Nat→Nat→au){v0:au}{n:Nat}(h0:v0=pv 0 n)(q:Nat→Bool)
  (hs:∀i j,i<j→j≤n→f (pv i j) σ=some (.normal,if q ((i+j) / 2)=true then pv ((i+j) / 2+1) j else pv i ((i+j) / 2),σ))
  (he:∀i,i≤n→f (pv i i) σ=some (.exit 0,pv i i,σ)):∃p,p≤n∧A.loop f v0 σ=some (.exit 0,pv p p,σ):=by
 subst h0
 have key:∀k i j,j-i≤k→i≤j→j≤n→∃p,p≤n∧∃m,A.iter f m (pv i j) σ=some (.exit 0,pv p p,σ):=by
  intro k;induction k with
  |zero=>
   intro i j hk h1 h3;have:i=j:=by omega
   subst i;exact⟨j,h3,yf (he j h3) (by simp)⟩
  |succ k ih=>
   intro i j hk h1 h3;by_cases hij:i<j
   ·have hstep:=hs i j hij h3;by_cases hh:q ((i+j) / 2)=true
    ·rw[aQ hh]at hstep;obtain⟨p,hp,hm⟩:=ih _ _ (by omega) (show(i+j) / 2+1≤j by omega) h3;exact⟨p,hp,E8 hstep hm⟩
    ·rw[aP hh]at hstep;obtain⟨p,hp,hm⟩:=ih i ((i+j) / 2) (by omega) (by omega) (by omega);exact⟨p,hp,E8 hstep hm⟩
   ·have:i=j:=by omega
    subst i;exact⟨j,h3,yf (he j h3) (by simp)⟩
 obtain⟨p,hp,m,hm⟩:=key n 0 n (by omega) (by omega) (bD _);exact⟨p,hp,E1 hm⟩
theorem amT{β:Type}{f:au→Heap→Option (AX×au×Heap)}{σ:Heap}{K:AX×au×Heap→Option β}{r:Nat→β}(pv:Nat→Nat→au){v0:au}{n:Nat}(h0:v0=pv 0 n)(q:Nat→Bool)
  (hs:∀i j,i<j→j≤n→f (pv i j) σ=some (.normal,if q ((i+j) / 2)=true then pv ((i+j) / 2+1) j else pv i ((i+j) / 2),σ))
  (he:∀i,i≤n→f (pv i i) σ=some (.exit 0,pv i i,σ)) (hK:∀p,p≤n→K (.exit 0,pv p p,σ)=some (r p)):∃p,p≤n∧(A.loop f v0 σ).bind K=some (r p):=by
 obtain⟨p,hp,h⟩:=amV pv h0 q hs he;exact⟨p,hp,by rw[h,aX,hK p hp]⟩
theorem aoK{dyn:Nat→au→Heap→aH}{l:List bz}{fn:Nat}{k:Int}{cv:bz→Int}{σ:Heap}(hl:l.length<4611686018427387904)
  (hd:∀x∈l,dyn fn [.agg (br x),.ah k] σ=some (.ah (cv x),σ)) (hc:∀x∈l,cv x≠0):
  ∃p:Nat,p≤l.length∧GX dyn [sl 11 br l,.ah k,.fn fn []] σ=some (.aM [.ah (p:Int),.bool false],σ):=by
 suffices h:∃p:Nat,p≤l.length∧GY dyn (sl 11 br l) (.ah k) (.fn fn []) σ=some (.aM [.ah (p:Int),.bool false],σ) by obtain⟨p,hp,h⟩:=h;exact⟨p,hp,wrap_eq rfl h rfl⟩
 unfold GY;rw[gH,aX];refine amT (v0:=[.ah 0,.ah (l.length:Int)]) (r:=λp=>((AV.aM [.ah (p:Int),.bool false],σ):AV×Heap)) (λi j=>[.ah (i:Int),.ah (j:Int)]) rfl (λh=>((l[h]?).any λx=>decide (cv x<0))) (λi j hij hj=>?_) (λi hi=>?_) (λp hp=>?_)
 ·have hlt:(i+j) / 2<l.length:=by omega
  have hx:l[(i+j) / 2]? =some l[(i+j) / 2]:=bT hlt;have qP:=hd _ (cS hx);have lP:=nQ 11 br l hx;have hq:A.lJ dyn (.fn fn []) [.agg (br l[(i+j) / 2]),.ah k] σ=some (.ah (cv l[(i+j) / 2]),σ):=by simp only[A.lJ,List.append_nil];exact qP
  simp only[cA,bW];rw[IY,aX,cz hij];simp only[A.cond,ck];rw[Vs (by omega),aX,ack (by omega),aX,abA (by omega),aX,acj (by omega),aX,lP,aX];simp only[A.deref,aX,Kk,A.lb];rw[hq,aX,adR,aX];simp only[hx,Option.any_some];by_cases hh:cv l[(i+j) / 2]<0
  ·rw[cz hh];simp only[ck,if_true,Pa (show(i+j) / 2+1<9223372036854775808 by omega),aX];rfl
  ·rw[cD hh];rfl
 ·simp only[cA,bW];rw[IY,aX,cD (Nat.lt_irrefl i)];rfl
 ·simp only[VZ,cA,bW];rw[IY,aX];by_cases hpl:p<l.length
  ·have hx:l[p]? =some l[p]:=bT hpl;have qP:=hd _ (cS hx);have hne:=hc _ (cS hx);have lP:=nQ 11 br l hx;have hq:=eT (by show A.lJ dyn (.fn fn []) [.agg (br l[p]),.ah k] σ=_;simp only[A.lJ,List.append_nil];exact qP);simp only[cz hpl,A.guard,beq_self_eq_true,ck,aX,cA,bW,lP,A.deref,Kk,A.lb,A.ak,A.aB,A.pick];show((A.quiet (A.lJ dyn (.fn fn []) [.agg (br l[p]),.ah k] σ) σ).bind _)=_;rw[hq,aX,jQ,cD hne];exact bP _ _
  ·simp only[cD hpl,A.guard,aX,A.pick];exact bP _ _
structure ac8 (l : List bz) : Prop where
 len:l.length≤300
 num:∀c∈l,1≤c.aC∧c.aC≤9999999
 Mh:l.Pairwise λa b=>a.aC<b.aC
theorem Good.n{l:List bz}(h:Good l):ac8 l:=⟨h.len,h.num,h.Mh⟩
theorem an4{l:List bz}(hg:ac8 l){n:Int}(hn:aV n)(σ:Heap):∃p:Nat,Hy [sl 11 br l,.ah n] σ=some (.aM [.ah (p:Int),.bool (zU l n)],σ)∧p≤l.length∧((1≤n∨zU l n=true)→p=nJ l n):=by
 have hlen:l.length<4611686018427387904:=by have:=hg.len;omega
 have hd:∀x∈l,A.tab (λ_ _=>none) [(177,EV)] 177 [.agg (br x),.ah n] σ=some (.ah (IntKind.i64.wrap (x.aC-n)),σ):=λx _=>agy (r:=IntKind.i64.wrap (x.aC-n)) rfl
 have wr:∀{p:Nat}{b:Bool},GX (A.tab (λ_ _=>none) [(177,EV)]) [sl 11 br l,.ah n,.fn 177 []] σ=some (.aM [.ah (p:Int),.bool b],σ)→
   Hy [sl 11 br l,.ah n] σ=some (.aM [.ah (p:Int),.bool b],σ):=by
  intro p b h;refine wrap_eq rfl ?_ rfl;rw[show A.cG [Sh.e 11 [.k,.k,.k,.k,.k,.k,.k,.s 2,.k,.k,.s 8]] [sl 11 br l,.ah n]=[sl 11 br l,.ah n]from kI (xy (λ_=>rfl) _) rfl];show Nq (sl 11 br l) (.ah n) σ=_;unfold Nq;rw[h,aX];exact bP _ _
 by_cases at9:-4611686018427387904≤n
 ·refine⟨nJ l n,wr ?_,abT _ _,λ_=>rfl⟩
  have hw:∀x∈l,IntKind.i64.wrap (x.aC-n)=x.aC-n:=λx hx=>by have:=hg.num x hx;unfold aV at hn;exact cL (by unfold aV;omega)
  rw[bsC (cv:=λx=>IntKind.i64.wrap (x.aC-n)) (p:=nJ l n) hlen (abT _ _) hd ?_]
  ·rw[←aaY hg.Mh];congr 4;cases hx:l[nJ l n]? with
   |none=>rfl
   |some x=>simp only[Option.any_some];rw[hw x (cS hx),show decide (x.aC-n=0)=decide (x.aC=n)from decide_eq_decide.2 (by omega)]
  ·intro h x hx;rw[hw x (cS hx),←TC hg.Mh hx];omega
 ·have hno:zU l n=false:=by rw[Bool.eq_false_iff];intro e;obtain⟨x,hx,hk⟩:=List.any_eq_true.1 e;have:=hg.num x hx;have:=of_decide_eq_true hk;omega
  obtain⟨p,hp,h⟩:=aoK hlen hd (λx hx e=>by
   have aub:=hg.num x hx;unfold aV at hn
   have h2:IntKind.i64.wrap (x.aC-n)=x.aC-n∨IntKind.i64.wrap (x.aC-n)=x.aC-n-18446744073709551616:=by
    by_cases hh:x.aC-n<9223372036854775808
    ·exact .inl (cL (by unfold aV;omega))
    ·right;unfold IntKind.wrap;simp [IntKind.bits,IntKind.signed];omega
   rcases h2 with h2|h2<;>rw[h2]at e<;>omega)
  exact⟨p,by rw[hno];exact wr h,hp,λq=>by
   rcases q with q|q
   ·omega
   ·rw[hno]at q;cases q⟩
theorem an5{l:List bz}(hg:Good l){n:Int}(hn:aV n)(σ:Heap):∃p:Nat,Hy [sl 11 br l,.ah n] σ=some (.aM [.ah (p:Int),.bool (zU l n)],σ)∧p≤l.length∧((1≤n∨zU l n=true)→p=nJ l n):=an4 hg.n hn σ
section
variable {α R γ S B : Type}
end
end
section
open HP
def Lt(σ:Heap)(sh:Sh)(v t:AV):Prop:=(∃v',A.bG σ 0 8 v=some v'∧A.own v'=false∧A.nn sh v'=A.nn sh t)∧A.own t=false∧(A.own v=false→A.nn sh v=A.nn sh t)
def Pw(σ:Heap):List Sh→au→au→Prop
 |_,[],[]=>True
 |[],a::dG,t::ts=>Lt σ .k a t∧Pw σ [] dG ts
 |s::ss,a::dG,t::ts=>Lt σ s a t∧Pw σ ss dG ts
 |_,_,_=>False
theorem jC(v:AV):A.nn .k v=v:=by simp [A.nn]
theorem WA{σ:Heap}:∀{ss:List Sh}{dG ts:au},Pw σ ss dG ts→(∃Ec,A.ga σ 0 8 dG=some Ec∧Ec.any A.own=false∧A.cG ss Ec=A.cG ss ts)∧ts.any A.own=false∧(dG.any A.own=false→A.cG ss dG=A.cG ss ts)
 |ss,[],[],_=>⟨⟨[],by simp [A.ga],rfl,rfl⟩,rfl,λ_=>rfl⟩
 |[],a::dG,t::ts,h=>by obtain⟨⟨⟨v',h1,h2,h3⟩,h4,h5⟩,h6⟩:=h;obtain⟨⟨Ec,k1,k2,k3⟩,k4,k5⟩:=WA h6;rw[jC,jC]at h3;simp only[A.cG]at k3 k5;refine⟨⟨v'::Ec,by simp [A.ga,h1,k1],by simp [h2,k2],by simp [A.cG,h3,k3]⟩,by simp [h4,k4],λh=>?_⟩;simp only[List.any_cons,oP]at h;have:=h5 h.1;rw[jC,jC]at this;simp [A.cG,this,k5 h.2]
 |s::ss,a::dG,t::ts,h=>by obtain⟨⟨⟨v',h1,h2,h3⟩,h4,h5⟩,h6⟩:=h;obtain⟨⟨Ec,k1,k2,k3⟩,k4,k5⟩:=WA h6;refine⟨⟨v'::Ec,by simp [A.ga,h1,k1],by simp [h2,k2],by simp [A.cG,h3,k3]⟩,by simp [h4,k4],λh=>?_⟩;simp only[List.any_cons,oP]at h;simp [A.cG,h5 h.1,k5 h.2]
 |_,[],_::_,h=>by cases h
 |[],_::_,[],h=>by cases h
 |_::_,_::_,[],h=>by cases h
theorem zY{gD:List Sh}{ig:Sh}{r:au→Heap→aH}{dG ts:au}{σ:Heap}{v:AV}(h:Pw σ gD dG ts)(e:∀σ,A.wrap true gD ig r ts σ=some (v,σ))(hs:A.F5 v=true):A.wrap true gD ig r dG σ=some (v,σ):=by
 obtain⟨⟨Ec,k1,k2,k3⟩,k4,k5⟩:=WA h;cases ho:dG.any A.own
 ·rw[TJ (k5 ho) ho k4];exact e σ
 ·exact abi ho k1 k2 (by rw[TJ k3 k2 k4];exact e []) hs
theorem KC{σ:Heap}{sh:Sh}{v:AV}(h:Fz v)(ho:A.own v=false):Lt σ sh v v:=⟨⟨v,h σ 0 8,ho,rfl⟩,ho,λ_=>rfl⟩
theorem TS{σ:Heap}(n:Int):Lt σ .k (.ah n) (.ah n):=KC (dA _ _) rfl
section
variable {α : Type} {c : α → au} {sz : Nat} {B : aS → Prop} {aK σ : Heap} {R : HP} {v : AV} {l : List α}
theorem wP(H:Hs B aK σ (Sl (fl c) sz v l*R)):(l=[]∧(v=.az∨v=.ez)∧Hs B aK σ R)∨∃id g,v=.os id g sz 0 l.length∧Hs B aK σ (blk id (.arr g sz (l.map c))*R):=by
 rcases BX H with h|⟨id,g,seg,rfl,hl,H⟩
 ·exact .inl h
 ·have K:=OM.1 (dw (show _=els (fl c) seg l*(blk id (.arr g sz seg)*R) by ac_rfl) H);obtain⟨rfl,K⟩:=K;exact .inr ⟨id,g,rfl,K⟩
theorem OT{id g:Nat}{n:Nat}(H:Hs B aK σ (blk id (.arr g sz (l.map c))*R))(hn:n=l.length:=by rfl):Hs B aK σ (Sl (fl c) sz (.os id g sz 0 n) l*R):=
 O9 (id:=id) (g:=g) (seg:=l.map c) (dw (show els (fl c) (l.map c) l*(blk id (.arr g sz (l.map c))*R)=_ by ac_rfl) (OM.2 ⟨rfl,H⟩)) hn
theorem Kt(hc:∀x,jP (c x)){id g:Nat}(h:σ[id]? =some (.arr g sz (l.map c))){n:Nat}(hn:¬id<n)(d:Nat):A.bG σ n (d+1) (.os id g sz 0 l.length)=some (sl sz c l):=by simp only[A.bG,aP hn,h];rw[aQ (by simp),List.drop_zero,yF (by simp),HM,UN hc];rfl
theorem Fy(H:Hs B aK σ (Sl (fl c) sz v l*R))(hc:∀x,jP (c x)){n:Nat}(hn:n≤aK.length)(d:Nat):∃v',A.bG σ n (d+1) v=some v'∧A.Vh v'=false∧A.nn (.s sz) v'=sl sz c l:=by
 rcases wP H with⟨rfl,rfl|rfl,_⟩|⟨id,g,rfl,K⟩
 ·exact⟨.az,by simp [A.bG],rfl,rfl⟩
 ·exact⟨.ez,by simp [A.bG],rfl,rfl⟩
 ·obtain⟨h1,h2⟩:=jx K;exact⟨_,Kt hc h2 (by omega) d,rfl,rfl⟩
theorem TR{P:HP}(H:Hs B aK σ P):Hs bY aK σ P:=⟨by obtain⟨bs,h,_⟩:=H.pre;exact⟨bs,h,λ_ _=>trivial⟩,H.own⟩
end
section
variable {α : Type} {E : au → α → HP} {sz : Nat} {aK σ : Heap} {R : HP} {v : AV} {l : List α}
end
def apJ(x:bz)(vp vm:AV):au:=[.ah x.aC,.str x.title,.ah x.ct,.ah x.up,.ah x.down,.ah x.other,.ah x.fB.kind,vp,.bool x.block,.ah x.eA,vm]
def Iu:List Sh:=[.k,.k,.k,.k,.k,.k,.k,.s 2,.k,.k,.s 8]
section
variable {B : aS → Prop} {aK σ : Heap} {R : HP} {M : AV → List gQ → HP} {e : au} {x : bz}
variable {v : AV} {l : List bz}
theorem ahI(l:List bz):A.nn (.e 11 Iu) (sl 11 br l)=sl 11 br l:=xy (λ_=>rfl) l
end
end
section
open HP
theorem Ih{β:Type}{f:au→Heap→Option LS}{K:LS→Option β}{v0:au}{σ:Heap}{P:β→Prop}{Q:LS→Prop}(h:∃q,A.loop f v0 σ=some q∧Q q)(k:∀q,Q q→∃b,K q=some b∧P b):∃b,(A.loop f v0 σ).bind K=some b∧P b:=by obtain⟨q,h1,h2⟩:=h;obtain⟨b,h3,h4⟩:=k q h2;exact⟨b,by rw[h1];exact h3,h4⟩
section
variable {α : Type} {c : α → au} {sz : Nat} {B : aS → Prop} {aK σ : Heap} {R : HP} {v : AV} {l : List α}
theorem Tl{most:Nat}{m r:au→Heap→aH}{r0:AV→Heap→aH}(hm:m=A.tM (A.wrap true [(.s sz)] .k (A.dH r0)))(hr:∀a σ,r0 a σ=(A.sY a .az).bind λx1=>A.cond x1 (some (.az,σ)) ((A.append sz most .ez a σ).bind λr2=>some (r2.1,r2.2)))
  (hl:l.length≤most) (hB:∀g g' seg,(seg=[]∨B (.arr g sz seg))→B (.arr g' sz (seg++l.map c))) (H:Hs B aK σ R):∃v σ',m [sl sz c l] σ=some (v,σ')∧A.cell v=some v∧Hs B aK σ' (Sl (fl c) sz v l*R):=by
 subst hm;cases l with
 |nil=>exact⟨.ez,σ,rfl,rfl,td H (.inr rfl)⟩
 |cons x l=>
  obtain⟨v',σ',e1,H2⟩:=Im (B:=B) (E:=fl c) (sz:=sz) (v:=.ez) (l:=[]) (ys:=(x::l).map c) (xs:=x::l) (most:=most) (td (OM.2 ⟨rfl,H⟩) (.inr rfl)) (by simpa using hl) hB
  have hv:A.cell v'=some v':=by
   rcases wP H2 with⟨h,_,_⟩|⟨id,g,rfl,_⟩
   ·cases h
   ·rfl
  refine⟨v',σ',?_,hv,H2⟩;show A.wrap true [(.s sz)] .k (A.dH r0) [sl sz c (x::l)] σ=_;refine wrap_eq rfl ?_ rfl;show r0 (sl sz c (x::l)) σ=_;rw[hr,show A.sY (sl sz c (x::l)) .az=some (.bool false)from rfl,aX,cR,show sl sz c (x::l)=.sl sz ((x::l).map c)from rfl,e1];rfl
end
section
variable {aK σ : Heap} {R : HP}
theorem ark{l:List bz}(hl:l.length≤1099511627776)(H:Hs bY aK σ R):∃v σ',EO [sl 11 br l] σ=some (v,σ')∧A.cell v=some v∧Hs bY aK σ' (Sl (fl br) 11 v l*R):=
 Tl (most:=140737488355328 / 128) (r:=λ_ _=>none) rfl (λ_ _=>rfl) (by simpa using hl) (λ_ _ _ _=>trivial) H
end
end
section
open HP
theorem ou{f:au→Heap→Option LS}{Q:LS→Prop}(I:Nat→au→Heap→Prop)(hstep:∀n v σ,I n v σ→(∃m v' σ',m<n∧f v σ=some (.normal,v',σ')∧I m v' σ')∨∃q,f v σ=some q∧q.1≠.normal∧Q q){n:Nat}{v0:au}{σ:Heap}(h0:I n v0 σ):∃q,A.loop f v0 σ=some q∧Q q:=by
 have key:∀(k n:Nat)v σ,n≤k→I n v σ→∃q,(∃m,A.iter f m v σ=some q)∧Q q:=by
  intro k;induction k with
  |zero=>
   intro n v σ hn hI;rcases hstep n v σ hI with⟨m,_,_,hm,_⟩|⟨q,h1,h2,h3⟩
   ·omega
   ·exact⟨q,yf h1 h2,h3⟩
  |succ k ih=>
   intro n v σ hn hI;rcases hstep n v σ hI with⟨m,v',σ',hm,h1,h2⟩|⟨q,h1,h2,h3⟩
   ·obtain⟨q,hq,hQ⟩:=ih m v' σ' (by omega) h2;exact⟨q,E8 h1 hq,hQ⟩
   ·exact⟨q,yf h1 h2,h3⟩
 obtain⟨q,⟨m,hm⟩,hQ⟩:=key n n v0 σ (bD _) h0;exact⟨q,E1 hm,hQ⟩
theorem gT(X d:Option AV):A.guard (.bool true) true X d=X:=by have h:A.guard (.bool true) true X d=X:=rfl;exact h.trans (Eq.refl X)
theorem gF(X d:Option AV):A.guard (.bool false) false X d=X:=by have h:A.guard (.bool false) false X d=X:=rfl;exact h.trans (Eq.refl X)
theorem wA(X d:Option AV):A.guard (.bool false) true X d=d:=by have h:A.guard (.bool false) true X d=d:=rfl;exact h.trans (Eq.refl d)
theorem Bz(X d:Option AV):A.guard (.bool true) false X d=d:=by have h:A.guard (.bool true) false X d=d:=rfl;exact h.trans (Eq.refl d)
theorem bS{α β:Type}(a:α)(f:α→Option β):(some a).bind f=f a:=by have h:(some a).bind f=f a:=rfl;exact h.trans (Eq.refl (f a))
theorem oD(cs:au)(σ:Heap):A.deref (.rp cs) σ=some cs:=by have h:A.deref (.rp cs) σ=some cs:=rfl;exact h.trans (Eq.refl _)
theorem oa(n:Nat){α:Type}{X Y:α}:(bif (AX.exit n==AX.exit n)then X else Y)=X:=by rw[show(AX.exit n==AX.exit n)=true from beq_self_eq_true _];rfl
theorem pM(x y:AV):A.pick (.bool false) x y=some y:=rfl
theorem nw(x y:AV):A.pick (.bool true) x y=some x:=rfl
theorem asf:A.not (.bool true)=some (.bool false):=rfl
end
section
open HP
section
variable {aK σ : Heap} {R : HP}
theorem Kq{v v':AV}(H:Hs bY aK σ R)(h:A.bG σ aK.length 8 v=some v')(hv:σ=aK→v'=v):A.fin aK v σ=some (v',aK):=by
 obtain⟨⟨bs,rfl,_⟩,_⟩:=H;by_cases vr:bs=[]
 ·subst vr;rw[List.append_nil]at h ⊢;rw[bP,hv (by simp)]
 ·unfold A.fin;rw[aP (by simpa using vr),aQ (by simp),h];rfl
end
end
section
open HP
def Inv(k:Nat)(l:List bz):Prop:=l.length≤1000∧∀c∈l,Vo c.dW∧c.dW.length≤2000+k
section
variable {aK σ : Heap} {R : HP}
end
end
section
open HP
section
variable {α β : Type} {E : au → β → HP} {f : α → β} {B : aS → Prop} {aK σ : Heap} {R : HP} {sz : Nat} {v : AV}
end
section
variable {aK σ : Heap} {R : HP} {v : AV}
theorem ao6{α:Type}{c:α→au}{sz:Nat}{l:List α}{vm:AV}(hc:∀x,jP (c x))(H:Hs bY aK σ (Sl (fl c) sz vm l*R)):Lt σ (.s sz) vm (sl sz c l):=by
 obtain⟨v',h1,h2,h3⟩:=Fy H hc (kY _) 7;refine⟨⟨v',h1,?_,by rw[h3];rfl⟩,rfl,λho=>?_⟩
 ·rcases wP H with⟨rfl,rfl|rfl,_⟩|⟨id,g,rfl,K⟩
  ·simp [A.bG]at h1;subst h1;rfl
  ·simp [A.bG]at h1;subst h1;rfl
  ·cases v'<;>first|rfl|(cases h2;done)|(simp only[A.nn]at h3;cases h3)
 ·rcases wP H with⟨rfl,rfl|rfl,_⟩|⟨id,g,rfl,K⟩
  ·rfl
  ·rfl
  ·cases ho
end
end
section
open HP
theorem anz{l:List bz}{n:Int}(hg:Good l)(h:zU l n=true):∃x,l[nJ l n]? =some x∧x.aC=n:=by
 rw[←aaY hg.Mh]at h;cases hx:l[nJ l n]? with
 |none=>rw[hx]at h;cases h
 |some x=>rw[hx]at h;exact⟨x,rfl,by simpa using h⟩
theorem lW(a b:AV):A.ext 0 (.aM [a,b])=some a:=rfl
theorem ext1(a b:AV):A.ext 1 (.aM [a,b])=some b:=rfl
theorem anU(l:List bz)(dG:au):A.cG [Sh.e 11 Iu] (sl 11 br l::dG)=sl 11 br l::dG:=kI (ahI l) rfl
theorem adZ(a:Int):A.neq .i (.ah a) (.ah 0)=some (.bool (decide (¬(a=0)))):=by rw[ij]
end
section
open HP
section
variable {α : Type} {c : α → au} {sz : Nat} {aK σ : Heap} {R : HP}
theorem ao2{B:aS→Prop}(H:Hs B aK σ R)(bs:Heap)(vr:∀b∈bs,B b):Hs B aK (σ++bs) R:=by obtain⟨⟨b0,rfl,hb0⟩,h,hr,h2⟩:=H;exact⟨⟨b0++bs,by simp,λb hb=>(kM.1 hb).elim (hb0 b) (vr b)⟩,h,hr,λi b hb=>⟨(h2 i b hb).1,by rw[jg (bM.1 (h2 i b hb).2).1];exact(h2 i b hb).2⟩⟩
end
def oT(l:List bB):Prop:=l.Pairwise λa b=>gI a.key b.key=true
def qz(l:List bB)(k:aG):Nat:=(l.takeWhile λm=>gI m.key k).length
def Ld(l:List bB)(k:aG):Bool:=l.any λm=>decide (m.key=k)
theorem an7(l:List bB)(k:aG):qz l k≤l.length:=(List.takeWhile_prefix _).length_le
theorem OE{l:List bB}{k:aG}(h:oT l):∀{i:Nat}{x:bB},l[i]? =some x→(gI x.key k=true↔i<qz l k):=by
 induction l with
 |nil=>intro i x hx;simp at hx
 |cons a l ih=>
  intro i x hx;have hs:=List.pairwise_cons.1 h;unfold qz;rw[List.takeWhile_cons];cases ha:gI a.key k
  ·simp only[Bool.false_eq_true,if_false,List.length_nil,Nat.not_lt_zero,iff_false,Bool.not_eq_true];cases i with
   |zero=>simp at hx;subst hx;exact ha
   |succ i=>
    simp only[List.getElem?_cons_succ]at hx;have:=hs.1 x (cS hx);cases hq:gI x.key k
    ·rfl
    ·rw[E9 this hq]at ha;cases ha
  ·simp only[if_true,List.length_cons];cases i with
   |zero=>simp at hx;subst hx;simp [ha]
   |succ i=>simp only[List.getElem?_cons_succ]at hx;rw[ih hs.2 hx];unfold qz;omega
theorem OD{l:List bB}{k:aG}(h:oT l){i:Nat}{x:bB}(hi:l[i]? =some x)(hk:x.key=k):qz l k=i:=by
 have h1:¬i<qz l k:=λq=>by have:=(OE h hi).2 q;rw[hk,B0]at this;cases this
 have h2:¬qz l k<i:=λq=>by
  have hp:qz l k<l.length:=Nat.lt_trans q (bM.1 hi).1;have hy:l[qz l k]? =some l[qz l k]:=bT hp;have h3:¬gI l[qz l k].key k=true:=λq'=>Nat.lt_irrefl _ ((OE h hy).1 q')
  have h4:=List.pairwise_iff_getElem.1 h (qz l k) i hp (bM.1 hi).1 q;rw[(bM.1 hi).2,hk]at h4;exact h3 h4
 omega
theorem aaZ{l:List bB}{k:aG}(h:oT l):((l[qz l k]?).any λx=>decide (x.key=k))=Ld l k:=by
 rw[p4];constructor
 ·intro e;cases hx:l[qz l k]? with
  |none=>rw[hx]at e;cases e
  |some x=>rw[hx]at e;exact List.any_eq_true.2 ⟨x,cS hx,e⟩
 ·intro e;obtain⟨x,hm,hk⟩:=List.any_eq_true.1 e;have hk:=of_decide_eq_true hk;obtain⟨i,hi⟩:=tX.1 hm;rw[OD h hi hk,hi];simp [hk]
def yE(n:Int)(st:List bB)(m:gQ):List bB:=
 let st1:=if Ld st m.key=true then st.eraseIdx (qz st m.key)else st
 if m.release=true then st1 else st1.take (qz st m.key)++[⟨m.key,m.value,n⟩]++st1.drop (qz st m.key)
def H9(st:List bB)(c:bz):List bB:=c.dW.foldl (yE c.aC) st
def DI(l:List bz):List bB:=l.foldl H9 []
def nG(st:List bB)(k:aG):Option bB:=st.find? λe=>decide (e.key=k)
theorem Zn{n:Int}{st:List bB}(h:oT st)(m:gQ):oT (yE n st m)∧(∀k,nG (yE n st m) k=if k=m.key then(if m.release=true then none else some ⟨m.key,m.value,n⟩)else nG st k)∧(yE n st m).length≤st.length+1:=by
 obtain⟨p,hp⟩:∃p,p=qz st m.key:=⟨_,rfl⟩
 obtain⟨st1,IK⟩:∃st1,st1=if Ld st m.key=true then st.eraseIdx p else st:=⟨_,rfl⟩
 have aud:p≤st.length:=by rw[hp];exact an7 _ _
 have e1:st1.take p=st.take p:=by
  rw[IK];split
  ·rw[List.eraseIdx_eq_take_drop_succ,List.take_append_of_le_length (by simp;omega),List.take_take,Nat.min_self]
  ·rfl
 have e2:st1.drop p=if Ld st m.key=true then st.drop (p+1)else st.drop p:=by
  rw[IK];split
  ·rw[List.eraseIdx_eq_take_drop_succ,List.drop_append_of_le_length (by simp;omega),List.drop_of_length_le (by simp;omega),List.nil_append]
  ·rfl
 have hlt:∀x∈st.take p,gI x.key m.key=true:=λx hx=>by
  obtain⟨i,hi⟩:=tX.1 hx;rw[List.getElem?_take]at hi;split at hi
  ·rename_i q;exact(OE h hi).2 (by omega)
  ·cases hi
 have hgt:∀x∈st1.drop p,gI m.key x.key=true:=λx hx=>by
  rw[e2]at hx
  have key:∀i,p≤i→st[i]? =some x→x.key≠m.key→gI m.key x.key=true:=by
   intro i hpi hi hne;cases hq:gI m.key x.key
   ·exfalso
    have h1:gI x.key m.key=false:=by
     cases yX:gI x.key m.key
     ·rfl
     ·have:=(OE h hi).1 yX;omega
    exact hne (Tx h1 hq)
   ·rfl
  split at hx
  ·rename_i hh;obtain⟨i,hi⟩:=tX.1 hx;rw[List.getElem?_drop]at hi;refine key _ (by omega) hi λe=>?_
   have:=OD h hi e;omega
  ·rename_i hh;obtain⟨i,hi⟩:=tX.1 hx;rw[List.getElem?_drop]at hi;refine key _ (by omega) hi λe=>?_
   exact hh (List.any_eq_true.2 ⟨x,cS hi,by simp [e]⟩)
 have hs1:oT st1:=by
  rw[IK];split
  ·exact h.sublist (List.eraseIdx_sublist _ _)
  ·exact h
 have xP:st1.length≤st.length:=by
  rw[IK];split
  ·exact List.length_eraseIdx_le _ _
  ·exact bD _
 have hno:∀k,k=m.key→nG st1 k=none:=by
  rintro k rfl;unfold nG;rw[List.find?_eq_none];intro x hx hk;have hk:=of_decide_eq_true hk;rw[←List.take_append_drop p st1,kM]at hx;rcases hx with hx|hx
  ·rw[e1]at hx;have:=hlt x hx;rw[hk,B0]at this;cases this
  ·have:=hgt x hx;rw[hk,B0]at this;cases this
 have aea:∀k,k≠m.key→nG st1 k=nG st k:=by
  intro k hk;rw[IK];split
  ·rename_i hh;unfold nG;rw[List.eraseIdx_eq_take_drop_succ]
   have hx:st[p]? ≠none:=λe=>by have:=aaZ (k:=m.key) h;rw[hh,←hp,e]at this;cases this
   obtain⟨x,hx⟩:=Option.ne_none_iff_exists'.1 hx
   have hxk:x.key=m.key:=by have:=aaZ (k:=m.key) h;rw[hh,←hp,hx]at this;simpa using this
   have e:st=st.take p++x::st.drop (p+1):=by rw[←(bM.1 hx).2,List.getElem_cons_drop,List.take_append_drop]
   conv=>rhs;rw[e]
   rw[List.find?_append,List.find?_append,List.find?_cons,cD (λq=>hk (by rw[←q,hxk]))]
  ·rfl
 have arI:yE n st m=if m.release=true then st1 else st1.take p++[⟨m.key,m.value,n⟩]++st1.drop p:=by unfold yE;rw[←hp,←IK]
 rw[arI];split
 ·rename_i hr;refine⟨hs1,λk=>?_,by omega⟩;by_cases hk:k=m.key
  ·rw[aQ hk];exact hno k hk
  ·rw[aP hk];exact aea k hk
 ·rename_i hr;refine⟨?_,λk=>?_,by simp;omega⟩
  ·unfold oT;rw[lU,List.pairwise_append];refine⟨hs1.sublist (List.take_sublist _ _),?_,λx hx y hy=>?_⟩
   ·rw[List.singleton_append,List.pairwise_cons];exact⟨λy hy=>hgt y hy,hs1.sublist (List.drop_sublist _ _)⟩
   ·rw[e1]at hx;rcases kM.1 hy with hy|hy
    ·simp at hy;subst hy;exact hlt x hx
    ·exact E9 (hlt x hx) (hgt y hy)
  ·by_cases hk:k=m.key
   ·rw[aQ hk];subst hk;unfold nG;rw[lU,List.find?_append]
    have:(st1.take p).find? (λe=>decide (e.key=m.key))=none:=by rw[List.find?_eq_none];intro x hx q;rw[e1]at hx;have:=hlt x hx;rw[of_decide_eq_true q,B0]at this;cases this
    rw[this];simp
   ·rw[aP hk,←aea k hk];unfold nG;rw[lU,List.find?_append,List.singleton_append,List.find?_cons,cD (λq=>hk q.symm)];conv=>rhs;rw[←List.take_append_drop p st1,List.find?_append]
end
section
open HP
section
variable {B : aS → Prop} {aK σ : Heap} {R : HP}
theorem ai8{n:Int}(ms:List gQ):∀{st:List bB},oT st→oT (ms.foldl (yE n) st)∧(ms.foldl (yE n) st).length≤st.length+ms.length:=by
 induction ms with
 |nil=>intro st h;exact⟨h,bD _⟩
 |cons m ms ih=>intro st h;obtain⟨h1,_,h3⟩:=Zn (n:=n) h m;obtain⟨h4,h5⟩:=ih h1;exact⟨h4,by simp only[List.foldl_cons,List.length_cons];omega⟩
theorem aiU{l:List bz}(hl:∀c∈l,c.dW.length≤2000000):∀(k:Nat)(st:List bB),oT st→st.length≤k*2000000→oT (l.foldl H9 st)∧(l.foldl H9 st).length≤(k+l.length)*2000000:=by
 induction l with
 |nil=>intro k st h1 h2;exact⟨h1,h2⟩
 |cons c l ih=>intro k st h1 h2;obtain⟨h3,h4⟩:=ai8 (n:=c.aC) c.dW h1;have hc:=hl c (by simp);obtain⟨h5,h6⟩:=ih (λx hx=>hl x (by simp [hx])) (k+1) (H9 st c) h3 (by show(c.dW.foldl _ st).length≤_;omega);refine⟨h5,?_⟩;rw[List.length_cons,show k+(l.length+1)=k+1+l.length from by omega];exact h6
end
def sk(n:Int)(s:List (aG×bB))(m:gQ):List (aG×bB):=if m.release=true then sN m.key s else eH m.key ⟨m.key,m.value,n⟩ s
def FB(l:List bz):List (aG×bB):=l.foldl (λs c=>c.dW.foldl (sk c.aC) s) []
def sM(s:List (aG×bB)):Prop:=(s.map (·.1)).Nodup
theorem aah{ν:Type}(k k':aG)(v:ν):∀s:List (aG×ν),dM k (eH k' v s)=if k=k' then some v else dM k s
 |[]=>by by_cases h:k=k'<;>simp [eH,dM,h]
 |(a,b)::s=>by
  rw[eH];by_cases h1:k'=a
  ·subst h1;simp only[if_true,dM];by_cases h:k=k'<;>simp [h]
  ·rw[aP h1,dM,dM,aah k k' v s];by_cases h2:k=a
   ·have:k≠k':=λe=>h1 (by rw[←e,h2])
    simp [h2,this];intro e;exact absurd (e.symm) h1
   ·simp [h2]
theorem Ty{ν:Type}{k:aG}:∀{s:List (aG×ν)}{x:aG×ν},x∈sN k s→x∈s
 |[],x,h=>h
 |(a,b)::s,x,h=>by
  rw[sN]at h;split at h
  ·exact rE _ h
  ·rcases jY.1 h with rfl|h
   ·exact List.mem_cons_self
   ·exact rE _ (Ty h)
theorem Zp{ν:Type}{k:aG}:∀{s:List (aG×ν)},(∀p∈s,p.1≠k)→dM k s=none
 |[],_=>rfl
 |(a,b)::s,h=>by rw[dM,aP (λe=>h (a,b) (by simp) e.symm)];exact Zp (λp hp=>h p (by simp [hp]))
theorem aag(k k':aG):∀{s:List (aG×bB)},sM s→dM k (sN k' s)=if k=k' then none else dM k s
 |[],_=>by simp [sN,dM]
 |(a,b)::s,h=>by
  unfold sM at h;rw[ef,sx]at h;rw[sN];by_cases h1:k'=a
  ·subst h1;rw[aQ rfl];by_cases h2:k=k'
   ·subst h2;rw[aQ rfl];exact Zp λp hp e=>h.1 (gB.2 ⟨p,hp,e⟩)
   ·rw[aP h2,dM,aP h2]
  ·rw[aP h1,dM,dM,aag k k' (s:=s) h.2];by_cases h2:k=a
   ·have:k≠k':=λe=>h1 (by rw[←e,h2])
    rw[aQ h2,aQ h2,aP this]
   ·rw[aP h2,aP h2]
theorem abI{k:aG}{v:bB}:∀{s:List (aG×bB)},sM s→sM (eH k v s)∧∀x∈(eH k v s).map (·.1),x∈s.map (·.1)∨x=k
 |[],_=>⟨by simp [sM,eH],by simp [eH]⟩
 |(a,b)::s,h=>by
  unfold sM at h;rw[ef,sx]at h;rw[eH];split
  ·rename_i e;subst e;exact⟨by unfold sM;rw[ef,sx];exact h,λx hx=>.inl hx⟩
  ·rename_i e;obtain⟨h1,h2⟩:=abI (k:=k) (v:=v) h.2;refine⟨?_,λx hx=>?_⟩
   ·unfold sM;rw[ef,sx];refine⟨λhm=>?_,h1⟩;rcases h2 _ hm with h3|h3
    ·exact h.1 h3
    ·exact e h3.symm
   ·rw[ef]at hx ⊢;rcases jY.1 hx with rfl|hx
    ·exact .inl List.mem_cons_self
    ·rcases h2 x hx with h3|h3
     ·exact .inl (rE _ h3)
     ·exact .inr h3
theorem abH{k:aG}:∀{s:List (aG×bB)},sM s→sM (sN k s)
 |[],h=>h
 |(a,b)::s,h=>by
  unfold sM at h;rw[ef,sx]at h;rw[sN];split
  ·exact h.2
  ·unfold sM;rw[ef,sx];refine⟨λhm=>?_,abH h.2⟩;obtain⟨p,hp,e⟩:=gB.1 hm;exact h.1 (gB.2 ⟨p,Ty hp,e⟩)
def Ci(s:List (aG×bB))(st:List bB):Prop:=sM s∧oT st∧∀k,dM k s=nG st k
theorem ak8{n:Int}{s:List (aG×bB)}{st:List bB}(h:Ci s st)(m:gQ):Ci (sk n s m) (yE n st m):=by
 obtain⟨h1,h2,h3⟩:=h;obtain⟨k1,k2,_⟩:=Zn (n:=n) h2 m;unfold sk;refine⟨?_,k1,λk=>?_⟩
 ·split
  ·exact abH h1
  ·exact(abI h1).1
 ·rw[k2 k];split
  ·rw[aag k m.key h1,h3 k]
  ·rw[aah,h3 k]
theorem Z2{n:Int}:∀(ms:List gQ){s:List (aG×bB)}{st:List bB},Ci s st→Ci (ms.foldl (sk n) s) (ms.foldl (yE n) st)
 |[],_,_,h=>h
 |m::ms,_,_,h=>Z2 ms (ak8 h m)
theorem aba:∀(l:List bz){s:List (aG×bB)}{st:List bB},Ci s st→Ci (l.foldl (λs c=>c.dW.foldl (sk c.aC) s) s) (l.foldl H9 st)
 |[],_,_,h=>h
 |c::l,_,_,h=>aba l (Z2 c.dW h)
theorem ajT(l:List bz):Ci (FB l) (DI l):=aba l ⟨List.Pairwise.nil,List.Pairwise.nil,λk=>rfl⟩
theorem aop{l:List bz}(hl:l.length≤bg)(hm:∀c∈l,c.dW.length≤bg):JN l=some (FB l):=by
 unfold JN FB;rw[NL (g:=λs c=>c.dW.foldl (sk c.aC) s) (P:=λ_ _=>True) hl trivial (λ_ _ _ _ _=>trivial) ?_]
 ·rfl
 intro i c s hc _;rw[NL (g:=λs m=>sk c.aC s m) (P:=λ_ _=>True) (hm c (cS hc)) trivial (λ_ _ _ _ _=>trivial) ?_]
 ·rfl
 intro j m s hm _;unfold sk;by_cases hr:m.release=true<;>simp [hr]
end
section
open HP
def ao8(n:Int):bz:=⟨n,⟨#[]⟩,0,0,0,0,⟨1,[]⟩,false,-1,[]⟩
def newRow(n:Int):au:=apJ (ao8 n) .az .az
section
variable {aK σ : Heap} {R : HP}
end
end
section
open HP
section
variable {aK σ : Heap} {R : HP}
theorem ani{α:Type}{c:α→au}{sz:Nat}{B:aS→Prop}{v:AV}{l:List α}(hc:∀x,jP (c x))(H:Hs B aK σ (Sl (fl c) sz v l*R)):∃v',A.fin aK v σ=some (v',aK)∧A.nn (.s sz) v'=sl sz c l:=by
 obtain⟨v',h1,h2,h3⟩:=Fy H hc (bD _) 7;refine⟨v',Kq (TR H) h1 (λe=>?_),h3⟩;rcases wP H with⟨rfl,rfl|rfl,_⟩|⟨id,g,rfl,K⟩
 ·simp [A.bG]at h1;rw[h1]
 ·simp [A.bG]at h1;rw[h1]
 ·obtain⟨k1,k2⟩:=jx K;have:=(bM.1 k2).1;subst e;omega
end
end
section
open HP
theorem adx{f:Nat}{l:au}(h:jP l):Fz (.fn f l):=λσ n d=>by cases d<;>simp [A.bG,h σ n]
theorem ady{l:au}(h:jP l):Fz (.rp l):=λσ n d=>by cases d<;>simp [A.bG,h σ n]
def fmS(st:List (aG×bB)):AV:=xM (λx=>(AV.agg (aT x))) (λx=>(AV.agg (dP x))) st
section
variable {aK σ : Heap} {R : HP}
end
end
section
open HP
theorem al9{R:Type}{f:au→Heap→(AX×au×Heap→Option R)→Option R}{v:au}{σ:Heap}{K:AX×au×Heap→Option R}{r:R}(h:∃n,∀m,n≤m→A.zC f m v σ K=some r):A.Cn f v σ K=some r:=by
 have hx:∃r,∃n,∀m,n≤m→A.zC f m v σ K=some r:=⟨r,h⟩
 unfold A.Cn;rw[dif_pos hx];obtain⟨n,hn⟩:=h;obtain⟨n',hn'⟩:=Classical.choose_spec hx;have a:=hn (n+n') (by omega);have b:=hn' (n+n') (by omega);rw[a]at b;exact b.symm
theorem bounds{P:Nat→Nat→Prop}:∀(n:Nat),(∀j,j<n→∃N,∀m,N≤m→P j m)→∃N,∀j,j<n→∀m,N≤m→P j m
 |0,_=>⟨0,λj h=>by omega⟩
 |n+1,h=>by
  obtain⟨N,hN⟩:=bounds n (λj hj=>h j (by omega));obtain⟨M,hM⟩:=h n (by omega);refine⟨N+M,λj hj m hm=>?_⟩;by_cases e:j=n
  ·subst e;exact hM m (by omega)
  ·exact hN j (by omega) m (by omega)
theorem map_erase{α β:Type}(f:α→β)(l:List α)(j:Nat):(l.map f).eraseIdx j=(l.eraseIdx j).map f:=by rw[List.eraseIdx_eq_take_drop_succ,List.eraseIdx_eq_take_drop_succ,List.map_append,List.map_take,List.map_drop]
theorem an2{α:Type}{l:List α}{j:Nat}(hj:j<l.length):(l[j]::l.eraseIdx j).Perm l:=by
 have e:l=l.take j++l[j]::l.drop (j+1):=by rw[List.getElem_cons_drop,List.take_append_drop]
 rw[List.eraseIdx_eq_take_drop_succ];conv=>rhs;rw[e]
 exact List.perm_middle.symm
theorem Sk{α R:Type}{ex:Nat}{enc:α→AV×AV}{it:Nat}{f:au→Heap→(AX×au×Heap→Option R)→Option R}{K:AX×au×Heap→Option R}{r:R}{es:List α}
  (body:au→Heap→(AX×au×Heap→Option R)→Option R) (ev:au→au)
  (hf:∀v s k,f v s k=A.vU (.op it 0) s λx s'=>(A.ext 0 x).bind λc=>A.cond c (body v s' k) (k (.exit ex,ev v,s')))
  (I:List α→List α→au→Heap→Prop) (j0:∀d l v s,I d l v s→∃c,s[it]? =some (.it c (l.map enc)))
  (hstep:∀d l v s j p,(d++l).Perm es→I d l v s→l[j]? =some p→∃v' s',(∀k,body v (s.set it (.it [enc p] ((l.eraseIdx j).map enc))) k=k (.normal,v',s'))∧I (d++[p]) (l.eraseIdx j) v' s')
  (hend:∀d v s,d.Perm es→I d [] v s→K (.exit ex,ev v,s)=some r) {v0:au} {s0:Heap} (h0:I [] es v0 s0):A.Cn f v0 s0 K=some r:=by
 have key:∀(n:Nat)(d l:List α)v s,l.length=n→(d++l).Perm es→I d l v s→∃N,∀m,N≤m→A.zC f m v s K=some r:=by
  intro n;induction n with
  |zero=>
   intro d l v s hl hp hI;have:l=[]:=xh hl;subst this;refine⟨1,λm hm=>?_⟩;obtain⟨m',rfl⟩:∃m',m=m'+1:=⟨m-1,by omega⟩
   obtain⟨c,hc⟩:=j0 _ _ _ _ hI;rw[A.zC,hf];simp only[A.vU,hc,List.map_nil];exact hend d v s (by simpa using hp) hI
  |succ n ih=>
   intro d l v s hl hp hI;obtain⟨c,hc⟩:=j0 _ _ _ _ hI
   have hb:∀j,j<l.length→∃N,∀m,N≤m→∀p,l[j]? =some p→body v (s.set it (.it [enc p] ((l.eraseIdx j).map enc))) (λq=>match q.1 with|.normal=>A.zC f m q.2.1 q.2.2 K|_=>K q)=some r:=by
    intro j hj;have hx:l[j]? =some l[j]:=bT hj;obtain⟨v',s',h1,h2⟩:=hstep d l v s j _ hp hI hx
    have hp2:((d++[l[j]])++l.eraseIdx j).Perm es:=by rw[lU,List.singleton_append];exact((an2 hj).append_left d).trans hp
    obtain⟨N,hN⟩:=ih _ _ _ _ (by rw[List.length_eraseIdx,aQ hj];omega) hp2 h2;refine⟨N,λm hm p Jc=>?_⟩;rw[hx]at Jc;injection Jc with Jc;subst Jc
    rw[h1];exact hN m hm
   obtain⟨N,hN⟩:=bounds l.length hb;refine⟨N+1,λm hm=>?_⟩;obtain⟨m',rfl⟩:∃m',m=m'+1:=⟨m-1,by omega⟩
   rw[A.zC,hf];cases l with
   |nil=>simp at hl
   |cons e l=>
    simp only[A.vU,hc,ef];refine aoG 0 (by simp) λj hj=>?_
    have hj':j<(e::l).length:=by simpa using hj
    have hx:(e::l)[j]? =some (e::l)[j]:=bT hj'
    have hx2:(enc e::l.map enc)[j]? =some (enc (e::l)[j]):=by rw[←ef,sy,hx];rfl
    have:=hN j hj' m' (by omega) _ hx;simp only[hx2];rw[←ef,map_erase];exact this
 exact al9 (key _ [] es v0 s0 rfl (List.Perm.refl _) h0)
def zT(p:aG×bB):AV×AV:=(.agg (aT p.1),.agg (dP p.2))
section
variable {aK σ : Heap} {R : HP}
end
end
section
open HP
theorem abe{ν:Type}(k:aG)(v:ν):∀s:List (aG×ν),(eH k v s).length≤s.length+1
 |[]=>by simp [eH]
 |(a,b)::s=>by
  rw[eH];split
  ·simp
  ·have:=abe k v s;simp;omega
theorem abd{ν:Type}(k:aG):∀s:List (aG×ν),(sN k s).length≤s.length
 |[]=>by simp [sN]
 |(a,b)::s=>by
  rw[sN];split
  ·simp
  ·have:=abd k s;simp;omega
theorem alf(n:Int)(s:List (aG×bB))(m:gQ):(sk n s m).length≤s.length+1:=by
 unfold sk;split
 ·have:=abd m.key s;omega
 ·exact abe _ _ _
theorem Zo(n:Int):∀(ms:List gQ)(s:List (aG×bB)),(ms.foldl (sk n) s).length≤s.length+ms.length
 |[],s=>bD _
 |m::ms,s=>by rw[List.foldl_cons];have:=Zo n ms (sk n s m);have:=alf n s m;simp;omega
theorem ale{l:List bz}(hm:∀c∈l,c.dW.length≤2000):(FB l).length≤l.length*2000:=by
 unfold FB
 have key:∀(l:List bz)(s:List (aG×bB)),(∀c∈l,c.dW.length≤2000)→(l.foldl (λs c=>c.dW.foldl (sk c.aC) s) s).length≤s.length+l.length*2000:=by
  intro l;induction l with
  |nil=>intro s _;simp
  |cons c l ih=>intro s h;rw[List.foldl_cons];have h1:=ih (c.dW.foldl (sk c.aC) s) (λx hx=>h x (by simp [hx]));have h2:=Zo c.aC c.dW s;have h3:=h c (by simp);simp only[List.length_cons,gO];omega
 have:=key l [] hm;simpa using this
section
variable {aK σ : Heap} {R : HP}
end
end
section
open HP
section
variable {aK σ : Heap} {R : HP}
theorem alR{α:Type}{c:α→au}{sz:Nat}{B:aS→Prop}{v:AV}{l:List α}{e:Int}(hc:∀x,jP (c x))(H:Hs B aK σ (Sl (fl c) sz v l*R)):∃v',A.fin aK (.aM [v,.ah e]) σ=some (.aM [v',.ah e],aK)∧A.nn (.s sz) v'=sl sz c l:=by
 obtain⟨v',h1,h2,h3⟩:=Fy H hc (bD _) 7;refine⟨v',Kq (TR H) (by simp [A.bG,A.ga,h1]) (λe=>?_),h3⟩;rcases wP H with⟨rfl,rfl|rfl,_⟩|⟨id,g,rfl,K⟩
 ·simp [A.bG]at h1;rw[h1]
 ·simp [A.bG]at h1;rw[h1]
 ·obtain⟨k1,k2⟩:=jx K;have:=(bM.1 k2).1;subst e;omega
theorem OA{α:Type}{c:α→au}{sz:Nat}{v:AV}{l:List α}{e:Int}(h:A.nn (.s sz) v=sl sz c l):A.nn (.t [(.s sz),.k]) (.aM [v,.ah e])=.aM [sl sz c l,.ah e]:=by simp only[A.nn,A.cG]at h ⊢;rw[h]
def A0(l:List bz)(n:Int):List bB×Int:=
 if ¬(rY l=0)then([],rY l)else if zU l n=false then([],8)else(DI (l.take (nJ l n+1)),0)
theorem ag8{l:List bz}(hlen:l.length≤300)(hm:∀c∈l,c.dW.length≤2000):oT (DI l)∧(DI l).length≤600000000:=by obtain⟨b1,b2⟩:=aiU (l:=l) (λc hc=>by have:=hm c hc;omega) 0 [] List.Pairwise.nil (kY _);exact⟨b1,by unfold DI;omega⟩
end
end
section
open HP Go.Sort
theorem acU{α:Type}{r:α→α→Prop}(PR:∀x,¬r x x)(tr:∀x y z,r x y→r y z→r x z):∀{a b:List α},a.Pairwise r→b.Pairwise r→(∀x,x∈a↔x∈b)→a=b
 |[],[],_,_,_=>rfl
 |[],y::b,_,_,h=>by have:=(h y).2 (by simp);simp at this
 |x::a,[],_,_,h=>by have:=(h x).1 (by simp);simp at this
 |x::a,y::b,ha,hb,h=>by
  have ha':=List.pairwise_cons.1 ha;have hb':=List.pairwise_cons.1 hb
  have hxy:x=y:=by
   rcases jY.1 ((h x).1 (by simp))with e|m1
   ·exact e
   rcases jY.1 ((h y).2 (by simp))with e|m2
   ·exact e.symm
   exact(PR y (tr _ _ _ (hb'.1 x m1) (ha'.1 y m2))).elim
  subst hxy;congr 1;refine acU PR tr ha'.2 hb'.2 λz=>⟨λhz=>?_,λhz=>?_⟩
  ·rcases jY.1 ((h z).1 (by simp [hz]))with e|m
   ·exact(PR x (e▸ha'.1 z hz)).elim
   ·exact m
  ·rcases jY.1 ((h z).2 (by simp [hz]))with e|m
   ·exact(PR x (e▸hb'.1 z hz)).elim
   ·exact m
theorem DF{α:Type}[Inhabited α]{cf:α→α→Int}(hS:SWO (λx y=>decide (cf x y<0))) (l:List α):(oS cf l).Perm l∧(oS cf l).Pairwise λx y=>¬cf y x<0:=by
 obtain⟨⟨h1,_,h3⟩,h2⟩:=pdq_sorts (λx y=>decide (cf x y<0)) hS l.toArray 0 l.length (Lib.bitLen l.length) true true (kY _) (by simp) (Or.inl rfl);unfold oS;generalize pdq (λx y=>decide (cf x y<0)) l.toArray 0 l.length (Lib.bitLen l.length) true true=d' at h1 h2 h3;have hs:d'.size=l.length:=by simpa using h1
 refine⟨?_,?_⟩
 ·have e1:d'.extract 0 l.length=d':=by rw[←hs];simp
  have e2:l.toArray.extract 0 l.length=l.toArray:=by simp
  rw[e1,e2]at h3;exact h3
 ·rw[List.pairwise_iff_getElem];intro i j hi hj hij;simp only[Array.length_toList]at hi hj;have:=h2 i j (kY _) hij (by omega);simp only[getElem!_pos d' i hi,getElem!_pos d' j hj]at this;simpa using this
theorem S5{α:Type}[Inhabited α](f:α→aG){l:List α}(hn:∀x∈l,∀y∈l,f x=f y→x=y)(hd:l.Nodup):(oS (λa b=>mO (f a) (f b)) l).Pairwise λa b=>gI (f a) (f b)=true:=by
 obtain⟨h1,h2⟩:=DF (zx f) l;have hnd:(oS (λa b=>mO (f a) (f b)) l).Pairwise (λx y=>x≠y):=(h1.nodup_iff).2 hd;refine List.Pairwise.imp_of_mem (R:=λx y=>(¬mO (f y) (f x)<0)∧x≠y) ?_ (h2.and hnd);rintro x y hx hy ⟨q1,q2⟩;cases e:gI (f x) (f y)
 ·exfalso
  have e2:gI (f y) (f x)=false:=by
   cases e2:gI (f y) (f x)
   ·rfl
   ·exact absurd ((DD _ _).2 e2) q1
  exact q2 (hn x (h1.mem_iff.1 hx) y (h1.mem_iff.1 hy) (Tx e e2))
 ·rfl
theorem YY{l:List bB}(h:oT l){k:aG}{x:bB}:nG l k=some x↔x∈l∧x.key=k:=by
 constructor
 ·intro e;exact⟨Cq e,of_decide_eq_true (List.find?_some (p:=λm:bB=>decide (m.key=k)) e)⟩
 ·rintro⟨hm,hk⟩;cases e:nG l k with
  |none=>have:=List.find?_eq_none.1 e x hm;simp [hk]at this
  |some y=>have hy:=Cq e;have hyk:y.key=k:=of_decide_eq_true (List.find?_some (p:=λm:bB=>decide (m.key=k)) e);obtain⟨i,hi⟩:=tX.1 hm;obtain⟨j,hj⟩:=tX.1 hy;have e1:=OD h hi hk;have e2:=OD h hj hyk;rw[←e1,e2,hj]at hi;exact hi
theorem SO{k:aG}{v:bB}:∀{s:List (aG×bB)},sM s→(dM k s=some v↔(k,v)∈s)
 |[],_=>by simp [dM]
 |(a,b)::s,h=>by
  unfold sM at h;rw[ef,sx]at h;rw[dM];by_cases e:k=a
  ·subst e;rw[aQ rfl];constructor
   ·intro q;injection q with q;simp [q]
   ·intro q;rcases jY.1 q with q|q
    ·injection q with _ q;rw[q]
    ·exact(h.1 (gB.2 ⟨_,q,rfl⟩)).elim
  ·rw[aP e,SO h.2];constructor
   ·intro q;exact rE _ q
   ·intro q;rcases jY.1 q with q|q
    ·injection q with q _;exact(e q).elim
    ·exact q
def Et(s:List (aG×bB)):Prop:=∀p∈s,p.2.key=p.1
theorem aaT{ν:Type}{k:aG}{v:ν}:∀{s:List (aG×ν)}{x:aG×ν},x∈eH k v s→x∈s∨x=(k,v)
 |[],x,h=>by simp [eH]at h;exact .inr h
 |(a,b)::s,x,h=>by
  rw[eH]at h;split at h
  ·rcases jY.1 h with rfl|h
   ·exact .inr rfl
   ·exact .inl (rE _ h)
  ·rcases jY.1 h with rfl|h
   ·exact .inl List.mem_cons_self
   ·rcases aaT h with h|h
    ·exact .inl (rE _ h)
    ·exact .inr h
theorem ajm(l:List bz):Et (FB l):=by
 have inner:∀(n:Int)(ms:List gQ)(s:List (aG×bB)),Et s→Et (ms.foldl (sk n) s):=by
  intro n ms;induction ms with
  |nil=>intro s h;exact h
  |cons m ms ih=>
   intro s hs;refine ih _ (λp hp=>?_);unfold sk at hp;split at hp
   ·exact hs p (Ty hp)
   ·rcases aaT hp with hp|hp
    ·exact hs p hp
    ·rw[hp]
 have key:∀(l:List bz)(s:List (aG×bB)),Et s→Et (l.foldl (λs c=>c.dW.foldl (sk c.aC) s) s):=by
  intro l;induction l with
  |nil=>intro s h;exact h
  |cons c l ih=>intro s hs;exact ih _ (inner c.aC c.dW s hs)
 exact key l [] (by intro p hp;cases hp)
theorem ahY{s d:List (aG×bB)}{st:List bB}(hS:Ci s st)(hk:Et s)(hp:d.Perm s)[Inhabited bB]:oS (λa b:bB=>mO a.key b.key) (d.map (·.2))=st:=by
 obtain⟨h1,h2,h3⟩:=hS
 have LQ:sM d:=by unfold sM at h1 ⊢;exact((hp.map (·.1)).nodup_iff).2 h1
 have hkd:Et d:=λp hp'=>hk p (hp.mem_iff.1 hp')
 have he:d.map (·.1)=(d.map (·.2)).map (·.key):=by rw[List.map_map];exact(List.map_congr_left λp hp'=>(hkd p hp').symm)
 have hnk:((d.map (·.2)).map (·.key)).Nodup:=by rw[←he];exact LQ
 have hinj:∀x∈d.map (·.2),∀y∈d.map (·.2),x.key=y.key→x=y:=by
  intro x hx y hy e;obtain⟨i,hi⟩:=tX.1 hx;obtain⟨j,hj⟩:=tX.1 hy;have hi':=(bM.1 hi).1
  have hij:i=j:=by
   refine(List.getElem?_inj (l:=(d.map (·.2)).map (·.key)) (by simpa using hi') hnk).1 ?_;have q1:((d.map (·.2)).map (·.key))[i]? =some x.key:=by rw[sy,hi];rfl
   have q2:((d.map (·.2)).map (·.key))[j]? =some y.key:=by rw[sy,hj];rfl
   rw[q1,q2,e]
  subst hij;rw[hi]at hj;injection hj
 have hs:=S5 (f:=λe:bB=>e.key) hinj ((List.pairwise_map.1 hnk).imp λh e=>h (congrArg _ e));refine acU (r:=λa b:bB=>gI a.key b.key=true) (λx q=>by rw[B0]at q;cases q) (λx y z=>E9) hs h2 λx=>?_
 have hmem:=(DF (zx λe:bB=>e.key) (d.map (·.2))).1.mem_iff (a:=x);rw[hmem,(hp.map (·.2)).mem_iff];constructor
 ·intro hx;obtain⟨p,hp1,hp2⟩:=gB.1 hx;have hpk:=hk p hp1;have:dM p.1 s=some p.2:=(SO h1).2 hp1;rw[h3]at this;rw[←hp2];exact((YY h2).1 this).1
 ·intro hx;have:nG st x.key=some x:=(YY h2).2 ⟨hx,rfl⟩;rw[←h3]at this;exact gB.2 ⟨_,(SO h1).1 this,rfl⟩
section
variable {aK σ : Heap} {R : HP}
theorem amy{α:Type}[Inhabited α]{c:α→au}{sz:Nat}{cf:α→α→Int}(hinj:∀x y,c x=c y→x=y){v:AV}{l:List α}(hl:l≠[])(hlen:l.length<4611686018427387904)(hS:SWO (λx y=>decide (cf x y<0))) (H:Hs bY aK σ (Sl (fl c) sz v l*R)):
  ∃σ',A.KF sz c cf v σ=some (.aM [],σ')∧Hs bY aK σ' (Sl (fl c) sz v (oS cf l)*R):=by
 rcases wP H with⟨h,_,_⟩|⟨id,g,rfl,K⟩
 ·exact absurd h hl
 obtain⟨_,h2⟩:=jx K;have hp:0<l.length:=List.length_pos_iff.2 hl
 have hc:(g=g∧sz=sz∧sz=sz∧0+l.length≤(l.map c).length∧0<l.length∧l.length<4611686018427387904)∧∃l':List α,((l.map c).drop 0).take l.length=l'.map c:=
  ⟨⟨rfl,rfl,rfl,by simp,hp,hlen⟩,l,by rw[List.drop_zero,yF (by simp)]⟩
 have hch:Classical.choose hc.2=l:=by
  have h9:=Classical.choose_spec hc.2;have e9:((l.map c).drop 0).take l.length=l.map c:=by rw[List.drop_zero,yF (by simp)]
  exact((List.map_inj_right hinj).1 (e9.symm.trans h9)).symm
 refine⟨σ.set id (.arr g sz ((oS cf l).map c)),?_,?_⟩
 ·unfold A.KF;simp only[h2];rw[dif_pos hc,hch,List.take_zero,List.nil_append,List.drop_of_length_le (by simp),List.append_nil]
 ·have hle:(oS cf l).length=l.length:=(DF hS l).1.length_eq;exact OT (Cb (b':=.arr g sz ((oS cf l).map c)) K trivial) hle.symm
theorem ak5(e:bB):(((A.cells 5 (.agg (dP e))).bind λiU=>(A.aq 0 iU [(AV.ah 0),bA,(AV.ah 0),(AV.ah 0),(AV.ah 0)]).bind λgd=>some gd).bind λcs=>some (AV.sl 5 (fI 5 1 cs)))=some (.sl 5 [dP e]):=rfl
theorem aqq{B:aS→Prop}{v:AV}{l:List bB}(k:bB)(hl:l.length<1000000)(hB:∀g g' seg,(seg=[]∨B (.arr g 5 seg))→B (.arr g' 5 (seg++[dP k])))(H:Hs B aK σ (Sl (fl dP) 5 v l*R)):
  ∃v' σ',A.append 5 (140737488355328 / 48) v (.sl 5 [dP k]) σ=some (v',σ')∧Hs B aK σ' (Sl (fl dP) 5 v' (l++[k])*R):=
 Im (ys:=[dP k]) (xs:=[k]) (dw (show pr (dP k=dP k)*(Sl (fl dP) 5 v l*R)=_ by
  rw[show els (fl dP) [dP k] [k]=pr (dP k=dP k)*emp from rfl,wO,BU];ac_rfl) (oO.2 ⟨rfl,H⟩)) (by simp;omega) hB
theorem amL{l:List bz}(hl:gu D8 l){n:Int}(hn:aV n)(σ:Heap):Ni [sl 11 br l,.ah n] σ=some (.aM [sl 5 dP (A0 l n).1,.ah (A0 l n).2],σ):=by
 have run:Np (sl 11 br l) (.ah n) σ=some (.aM [sl 5 dP (A0 l n).1,.ah (A0 l n).2],σ):=by
  unfold Np A0;rw[YV (acu l hl),aX,adZ,aX];by_cases hf:rY l=0
  case neg=>
   rw[cz hf,dr,aQ hf,bP,bZ];exact congrArg (λz=>some (z,σ)) (OA rfl)
  have hg:=Oy hf;have hlen:=hg.len;rw[cD (by simp [hf]),cR,aP (by simp [hf])];obtain⟨p,e1,e2,e3⟩:=an5 hg hn σ;rw[e1,aX,lW,aX,ext1,aX,show A.not (.bool (zU l n))=some (.bool (!zU l n))from rfl,aX];cases hh:zU l n
  ·rw[show(!false)=true from rfl,dr,aQ rfl,bP,bZ];exact congrArg (λz=>some (z,σ)) (OA rfl)
  rw[show(!true)=false from rfl,cR,aP (by decide)];have e4:=e3 (.inr hh);subst e4;obtain⟨x,hx,hxn⟩:=anz hg hh;generalize nJ l n=a at hx ⊢;have Ez:=(bM.1 hx).1;obtain⟨st,hst⟩:∃st,st=FB (l.take (a+1)):=⟨_,rfl⟩
  have hS:Ci st (DI (l.take (a+1))):=hst▸ajT _;have hk:Et st:=hst▸ajm _
  have oo:st.length≤600000:=by
   have h1:=ale (l:=l.take (a+1)) (λc hc=>(hg.mv c (xk hc)).1);have h2:(l.take (a+1)).length≤300:=by simp;omega
   rw[hst];exact Nat.le_trans h1 (rD 2000 h2)
  have hcs:JJ [sl 11 br (l.take (a+1))] σ=some (fmS st,σ):=by rw[hst];exact aie (aop (by simp;unfold bg;omega) (λc hc=>by have:=(hg.mv c (xk hc)).1;unfold bg;omega))
  rw[Pa (by omega),aX,show A.FA 11 (sl 11 br l) none (some (.ah ((a+1:Nat):Int))) σ=some (sl 11 br (l.take (a+1)))from aiI 11 br l (by omega),aX,hcs,aX];rw[show A.yt (fmS st)=some (st.map zT)from rfl,aX];simp only;refine Sk (α:=aG×bB) (enc:=zT) (it:=σ.length) (es:=st) _ _ (λ_ _ _=>rfl) (λd lf w s=>∃h c,w=[h]∧(d=[]→h=.az)∧Hs bY σ s (blk σ.length (.it c (lf.map zT))*(Sl (fl dP) 5 h (d.map (·.2))*emp))) ?_ ?_ ?_ ?_
  ·rintro d lf w s ⟨h,c,rfl,_,K⟩;exact⟨c,(jx K).2⟩
  ·rintro d lf w s j p hp ⟨h,c,rfl,_,K⟩ hj;have K':=Cb (b':=.it [zT p] ((lf.eraseIdx j).map zT)) K trivial;obtain⟨_,hgt⟩:=jx K';generalize s.set σ.length (aS.it [zT p] ((lf.eraseIdx j).map zT))=mL at K' hgt ⊢;have oc:d.length≤st.length:=by have:=hp.length_eq;simp at this;omega
   obtain⟨h',s',g1,K2⟩:=aqq p.2 (by simp;omega) (λ_ _ _ _=>trivial) (dw (show _=Sl (fl dP) 5 h (d.map (·.2))*(blk σ.length (.it [zT p] ((lf.eraseIdx j).map zT))*emp) by ac_rfl) K');have Le:A.yq (.op σ.length 0) mL=some (.aM [.agg (aT p.1),.agg (dP p.2)]):=by simp only[A.yq,hgt];rfl
   refine⟨[h'],s',λk=>?_,h',_,rfl,λq=>by simp at q,dw (by rw[List.map_append];show Sl (fl dP) 5 h' (d.map (·.2)++[p.2])*_=_;ac_rfl) K2⟩;rw[Le,aX,ext1,aX,show A.cells 5 (.agg (dP p.2))=some (dP p.2)from rfl,aX,alc p.2 _ rfl,aX,show A.aB 0 5 (dP p.2)=some (.agg (dP p.2))from rfl,aX,ak5,aX];simp only[bW];rw[g1,aX]
  ·rintro d w s hp ⟨h,c,rfl,IE,K⟩;have K2:=ym K;simp only[VZ,bW]
   letI:Inhabited bB:=⟨⟨⟨0,⟨#[]⟩⟩,⟨0,0⟩,0⟩⟩
   have hsort:∃s',Jm [h,.fn 297 []] s=some (.aM [],s')∧Hs bY σ s' (Sl (fl dP) 5 h (DI (l.take (a+1)))*emp):=by
    have hres:=ahY hS hk hp;by_cases hd:d=[]
    ·subst hd;rw[IE rfl]at K2 ⊢;refine⟨s,rfl,?_⟩;rw[List.map_nil]at hres K2
     have:DI (l.take (a+1))=[]:=by rw[←hres];exact xh (by rw[(DF (zx λe:bB=>e.key) []).1.length_eq];rfl)
     rw[this];exact K2
    ·have oc:d.length≤st.length:=by have:=hp.length_eq;omega
     obtain⟨s',g1,K3⟩:=amy (cf:=λa b:bB=>mO a.key b.key) YM (by simpa using hd) (by simp;omega) (zx λe:bB=>e.key) K2;rw[hres]at K3;exact⟨s',g1,K3⟩
   obtain⟨s',g1,K3⟩:=hsort;rw[g1,aX];obtain⟨v',j1,j2⟩:=alR (e:=0) ZL K3;rw[j1,bZ];exact congrArg (λz=>some (z,σ)) (OA j2)
  ·have K2:=Fq (b:=aS.it [] (st.map zT)) (Ig (B:=bY) σ) trivial;refine⟨.az,[],rfl,λ_=>rfl,?_⟩;rw[List.map_nil];exact dw (show _=blk σ.length (aS.it [] (st.map zT))*(Sl (fl dP) 5 .az []*emp) by ac_rfl) (td (v:=.az) (E:=fl dP) (sz:=5) K2 (.inl rfl))
 refine wrap_eq rfl ?_ (OA (v:=sl 5 dP (A0 l n).1) rfl);rw[show A.cG [Sh.e 11 [.k,.k,.k,.k,.k,.k,.k,.s 2,.k,.k,.s 8]] [sl 11 br l,.ah n]=[sl 11 br l,.ah n]from anU l _];exact run
end
end
section
open Go.RowKit Go.Sort
set_option maxRecDepth 100000
def wz(a b:aG):Int:=if ¬(a.unit=b.unit)then a.unit-b.unit else Lib.compareBytes a.param.data.toList b.param.data.toList
theorem aoL(a b:iT):wz a.1 b.1<0↔mO a.1 b.1<0:=by
 unfold wz mO;have:=a.2;have:=b.2;by_cases h:a.1.unit=b.1.unit
 ·simp [h]
 ·rw[aQ h,aQ h];split<;>omega
theorem abm:(λx y:iT=>decide (wz x.1 y.1<0))=λx y:iT=>decide (mO x.1 y.1<0):=by funext x y;exact decide_eq_decide.2 (aoL x y)
theorem adQ:SWO (λx y:iT=>decide (wz x.1 y.1<0)):=by rw[abm];exact zx λk:iT=>k.1
theorem aho(a b:iT)(W:World):Calls Tryz.prog 60 #[.agg (wS a.1).toArray,.agg (wS b.1).toArray] W λe w'=>e=.returned (.int .i64 (wz a.1 b.1))∧∃q os',w'=grow (W.drewN q) os':=by
 obtain⟨⟨a,p⟩,ha⟩:=a;obtain⟨⟨b,q⟩,hb⟩:=b;have CL:=λ(x y:ByteArray)W'=>Tryz.strings_Compare x y W'
 unfold wS;simp only at ha hb ⊢
 go_enter Tryz.func60,Tryz.ntmps60
 go_wp2_with (go_at_call 61;refine(CL _ _ _).mono ?_;rintro e w' ⟨rfl,rfl⟩)
 ·go_ret
  have h1:a≠b:=by first|simpa using ‹(a !=b)=true›|assumption
  exact⟨by rw[wz,aQ h1];rfl,J4⟩
 ·go_ret
  have h1:a=b:=by first|simpa using ‹(a !=b)=false›|simpa using ‹¬(a !=b)=true›|assumption|omega
  exact⟨by rw[wz,aP (by simpa using h1)];rfl,J4⟩
theorem akX{l l':List iT}(h:l.Perm l')(hd:l.Nodup):oS (λa b:iT=>mO a.1 b.1) l=oS (λa b:iT=>mO a.1 b.1) l':=by
 have hn:∀(l:List iT),∀x∈l,∀y∈l,x.1=y.1→x=y:=λl x _ y _ e=>Subtype.ext e
 have p1:=(DF (zx λk:iT=>k.1) l).1;have p2:=(DF (zx λk:iT=>k.1) l').1;refine List.Perm.eq_of_pairwise (le:=λa b:iT=>gI a.1 b.1=true) (λa b _ _ h1 h2=>?_) (S5 (λk:iT=>k.1) (hn l) hd) (S5 (λk:iT=>k.1) (hn l') (h.nodup_iff.1 hd)) ((p1.trans h).trans p2.symm);have:=E9 h1 h2;rw[B0]at this;cases this
theorem Ya{α β:Type}(f:α→β):∀(l:List α){L:List β},L.Perm (l.map f)→∃l':List α,l'.Perm l∧l'.map f=L
 |[],L,h=>⟨[],.refl _,by have:=List.Perm.eq_nil h;rw[this];rfl⟩
 |x::l,L,h=>by have hx:f x∈L:=h.mem_iff.2 (by simp);obtain⟨s,t,rfl⟩:=List.append_of_mem hx;have h2:(s++t).Perm (l.map f):=(List.perm_cons (f x)).1 (List.perm_middle.symm.trans h);obtain⟨l',k1,k2⟩:=Ya f l h2;obtain⟨a,b,rfl,e1,e2⟩:=List.map_eq_append_iff.1 k2;exact⟨a++x::b,List.perm_middle.trans (k1.cons x),by simp [e1,e2]⟩
abbrev sF(x:iT):List Value:=wS x.1
theorem alL:∀(l:List iT)(t:Nat),t<l.length*2→(l.flatMap sF)[t]? =some ((sF l.toArray[t / 2]!)[t % 2]!):=by
 intro l;induction l with
 |nil=>intro t ht;simp at ht
 |cons x l ih=>
  intro t ht;rw[List.flatMap_cons];have hk:(sF x).length=2:=rfl;by_cases h:t<2
  ·rw[jg (by rw[hk];exact h),Nat.div_eq_of_lt h,Nat.mod_eq_of_lt h];simp [hk,h]
  ·rw[iZ (by rw[hk];omega),hk,ih (t-2) (by simp [gO]at ht;omega)];have e1:t / 2=(t-2) / 2+1:=by omega
   have e2:t % 2=(t-2) % 2:=by omega
   rw[e1,e2];simp
theorem alM(l:List iT):(l.flatMap sF).length=l.length*2:=by
 induction l with
 |nil=>rfl
 |cons x l ih=>rw[List.flatMap_cons,List.length_append,ih,List.length_cons];show 2+_=_;omega
def aoC(l:List iT)(w:World)(e:Ending)(w':World):Prop:=∃v,e=.returned v∧Below w.heap.size w w'∧∃a cap,v=.slice a l.length cap∧l.length≤cap∧(l=[]∨∃g,a=some ⟨g,0,none⟩∧w.heap.size≤g∧g<w'.heap.size∧ ∀t x,((oS (λa b:iT=>mO a.1 b.1) l).flatMap sF)[t]? =some x→w'.cell? ⟨g,t,none⟩=some x)
theorem aiJ(Bm off:Nat)(mb:Option Nat)(es:Array MapEntry)(l:List iT)(ks:List aG)(hks:vN es.toList ks)(hp:ks.Perm (l.map (·.1)))(hd:l.Nodup)(hl:l.length≤1000000)(w:World)(hm:w.cell? ⟨Bm,off,none⟩=some (.map mb))(V3:Bm<w.heap.size)(hs:Bl w mb es):
  Calls Tryz.prog 58 #[.func (.func 119) #[] #[.pointer (some ⟨Bm,off,none⟩)],.func (.func 60) #[] #[]] w (aoC l w):=by
 have arE:=ahx Bm off mb es ks hks (by rw[hp.length_eq,List.length_map];exact hl) w hm V3 hs;have eg:∀args w,(callFunc 60 args).run Tryz.prog w=.ok (.enter 60 args) w:=Tryz.call60;have hnone:=λ(w:World)=>(AnyF.slices_SortFunc_none (P:=Tryz.prog) {Tryz.sort118 with} none 0 (.func (.func 60) #[] #[]) w)
 have hsort:=λ(g cap:Nat)(d:Array iT)(w:World)hH hb hd=>AnyQ.slices_SortFunc_eq Tryz.sort118 2 Tryz.isAgg45 Tryz.sizeOf45 sF (λ_=>rfl) (λx v hv=>by
  simp [sF,wS]at hv
  rcases hv with rfl|rfl<;>rfl) (λa b:iT=>wz a.1 b.1) adQ 60 #[] g 0 cap d w eg (λ_ _ _ _ x y=>aho x y _) hH hb hd
 go_enter Tryz.func58,Tryz.ntmps58
 go_wp2_with (go_at_call 117;refine arE.mono ?_;rintro e w1 ⟨v,ss,rfl,hS,hrow,IE,hb⟩)
 obtain⟨l',hl',qd⟩:=Ya (λk:iT=>k.1) l (hS.trans hp);have hlen:ss.length=l.length:=by rw[←qd,List.length_map];exact hl'.length_eq
 have hfl:ss.flatMap wS=l'.flatMap sF:=by rw[←qd,List.flatMap_map]
 rcases hrow.2 with⟨rfl,hz⟩|⟨gb,cap,cur,rfl,hbase,BC,r1,r2,r3,r4⟩
 ·have hl0:l=[]:=xh (by omega);subst hl0
  go_wp2_with (go_at_call 118;refine(hnone w1).mono ?_;rintro e w2 ⟨rfl,rfl⟩)
  go_ret
  exact⟨_,rfl,hb,none,0,rfl,bD _,.inl rfl⟩
 ·rw[hlen]at r1 r4;rw[hfl]at r4;have wC:l'.length=l.length:=hl'.length_eq;have Wf:gb<w1.heap.size:=(mw.1 BC).1
  have arF:∀t,t<l'.length*2→cur[t]? =(l'.flatMap sF)[t]? :=λt ht=>by rw[←r4,List.getElem?_take_of_lt (by omega),Array.getElem?_toList]
  have hH:HoldsK sF 2 w1 gb 0 l'.toArray:=by intro t ht;simp only[size_flatK,List.size_toArray]at ht;rw[get_flatK _ _ _ _ (by simpa using ht)];refine⟨?_,by simp [World.frozen?,BC]⟩;have h1:=arF t ht;rw[alL l' t ht]at h1;have hsz:=(mw.1 h1).1;simp only[World.cell?,BC,Nat.zero_add,h1];simp
  have aej:=hsort gb cap l'.toArray w1 hH Wf (by simp;omega);simp only[List.size_toArray,wC]at aej;rw[hlen]
  go_wp2_with (go_at_call 118;refine aej.mono ?_;rintro e w2 ⟨rfl,nn,os,rfl⟩)
  go_ret
  have hd':(pdq (λx y:iT=>decide (wz x.1 y.1<0)) l'.toArray 0 l.length (Lib.bitLen l.length) true true).size=l.length:=by have:=aaX (cf:=λa b:iT=>wz a.1 b.1) adQ l'.toArray;simp only[List.size_toArray,wC]at this;exact this
  have PO:(pdq (λx y:iT=>decide (wz x.1 y.1<0)) l'.toArray 0 l.length (Lib.bitLen l.length) true true).toList=oS (λa b:iT=>mO a.1 b.1) l:=by rw[←akX hl' (hl'.nodup_iff.2 hd)];unfold oS;rw[wC,abm]
  have ap3:(ltOf λa b:iT=>wz a.1 b.1)=λx y:iT=>decide (wz x.1 y.1<0):=rfl
  rw[ap3];generalize pdq (λx y:iT=>decide (wz x.1 y.1<0)) l'.toArray 0 l.length (Lib.bitLen l.length) true true=d' at hd' PO ⊢;have hsw:=Yf (enc:=sF) (k:=2) (λ_=>rfl) (w:=w1) (b:=gb) (off:=0) (n:=nn) (d:=l'.toArray) (d':=d') (os:=os) (by rw[hd'];simp [wC]) BC (by simp [wC];omega);have sI:Below w.heap.size w1 (w1.eS gb (.cells (iw cur 0 (d'.toList.flatMap sF)) 45 (0,0))):=⟨rfl,rfl,rfl,by rw[yg];exact bD _,λk hk=>wM _ (by omega)⟩
  have asa:=hsw.mono (B':=w.heap.size) hb.size;have at6:(d'.toList.flatMap sF).length=l.length*2:=by rw[alM,Array.length_toList,hd']
  refine⟨_,rfl,(hb.trans sI).trans asa,some ⟨gb,0,none⟩,cap,rfl,r1,.inr ⟨gb,rfl,hbase,?_,λt x hx=>?_⟩⟩
  ·have:=hsw.size;rw[yg]at this;omega
  ·rw[←PO]at hx;have ht:=(bM.1 hx).1;have hg2:(sortWorldK sF 2 w1 gb 0 nn d' os).heap[gb]? =some (.cells (iw cur 0 (d'.toList.flatMap sF)) 45 (0,0)):=(hsw.block gb Wf).trans (vM _ Wf)
   have:(iw cur 0 (d'.toList.flatMap sF))[t]? =some x:=by rw[DQ _ _ _ (by omega),aQ (by omega)];simpa using hx
   simp only[World.cell?,hg2,this];simp
theorem alK{cc:RC}{k:aG}{v:Value}(h:an cc (.agg (aT k)) v):v=sE k:=by simp only[an,aT,aR]at h;obtain⟨vs,rfl,⟨x,_,e1,rfl,y,_,e2,rfl,e3⟩,_⟩:=h;subst e3;subst e2;unfold sE;congr 1;exact nH.1 e1
theorem aaM{cc:RC}:∀{es:List (AV×AV)}{L:List MapEntry}{l:List iT},cZ cc es L→es.map (·.1)=l.map (λk=>AV.agg (aT k.1))→vN L (l.map (·.1))
 |[],L,l,h,e=>by
  simp only[cZ]at h;subst h;cases l with
  |nil=>rfl
  |cons _ _=>simp at e
 |(k,v)::es,L,l,h,e=>by
  simp only[cZ]at h;obtain⟨e0,es',rfl,h1,h2,h3⟩:=h;cases l with
  |nil=>simp at e
  |cons x l=>simp only[ef,List.cons.injEq]at e;have ih:=aaM h3 e.2;unfold vN at ih ⊢;rw[ef,ef,ef,ih];rw[e.1]at h1;rw[alK h1]
theorem keys_perm{L L':List MapEntry}{ks:List aG}(h:vN L ks)(hp:L.Perm L'):∃ks',vN L' ks'∧ks'.Perm ks:=by
 refine⟨(L'.map (·.key)).map KY,?_,?_⟩
 ·have hm:=hp.map (·.key);rw[h]at hm
  have:∀v∈L'.map (·.key),sE (KY v)=v:=λv hv=>by obtain⟨k,_,rfl⟩:=gB.1 (hm.mem_iff.2 hv);rfl
  unfold vN;rw[List.map_map];conv=>lhs;rw[←List.map_id (L'.map (·.key))]
  exact List.map_congr_left λv hv=>(this v hv).symm
 ·have hm:=(hp.map (·.key)).map KY;rw[h,Tp]at hm;exact hm.symm
theorem abX{c:RC}{b:Nat}:∀(l:List iT)(off:Nat),(∀t v,(l.flatMap sF)[t]? =some v→c.w.cell? ⟨b,off+t,none⟩=some v)→bN c 2 b off (l.map λk=>aT k.1)
 |[],off,h=>by simp [bN]
 |x::l,off,h=>by
  simp only[ef,bN];refine⟨rfl,?_,abX l (off+2) λt v hv=>?_⟩
  ·unfold aT;simp only[bI];exact⟨⟨_,h 0 _ rfl,rfl,by simp [an]⟩,⟨_,h 1 _ rfl,rfl,by simp [an]⟩,trivial⟩
  ·have:=h (t+2) v (by rw[List.flatMap_cons,iZ (by show 2≤_;omega)];exact hv);rwa[show off+(t+2)=off+2+t by omega]at this
theorem afz:Sound Tryz.prog aL 58 Jn:=by
 intro args σ r σ' h;unfold Jn A.dI at h;split at h
 ·simp only at h;split at h
  ·obtain⟨es,he,h⟩:=bO.1 h;split at h
   ·rename_i hex;simp only[Option.some.injEq,Prod.mk.injEq]at h;obtain⟨rfl,rfl⟩:=h;obtain⟨l,hl⟩:∃l,l=Classical.choose hex:=⟨_,rfl⟩
    have hK:=Classical.choose_spec hex;rw[←hl]at hK ⊢;obtain⟨hk1,hk2,Wh⟩:=hK;refine .inl ⟨58,Tryz.call58,λz vs e1 e2 hh ha=>?_⟩;obtain⟨v,u,rfl,r1,r2⟩:=O6 ha;simp only[an]at r1 r2;obtain⟨f1,us1,rfl,k1,k2⟩:=r1;obtain⟨f2,us2,rfl,k3,k4⟩:=r2;have EC:f1=119:=OQ (nm:=aL) (k:=359) (by kernel_rfl) rfl (by rw[←e1];exact k1);have vu:f2=60:=OQ (nm:=aL) (k:=372) (by kernel_rfl) rfl (by rw[←e1];exact k3);subst EC vu;have hu2:us2=#[]:=by simp only[aR]at k4;exact nH.1 k4
    subst hu2;simp only[aR,an]at k2;obtain⟨p,_,q1,⟨b,off,rfl,q2,q3,q4⟩,rfl⟩:=k2;have GA:us1=#[.pointer (some ⟨b,off,none⟩)]:=nH.1 q1;subst GA;simp only[bI]at q4;obtain⟨⟨mv,c1,c2,c3⟩,_⟩:=q4
    obtain⟨mb,bC,ks,m1,m2,m3,m4⟩:∃(mb:Option Nat)(bC:Array MapEntry)(ks:List aG),mv=.map mb∧Bl z.w mb bC∧vN bC.toList ks∧ks.Perm (l.map (·.1)):=by
     unfold A.yt at he;split at he
     ·injection he with he
      subst he;simp only[an]at c3;have hl0:l=[]:=by cases l with|nil=>rfl|cons _ _=>simp at hk1
      subst hl0;exact⟨none,#[],[],c3,rfl,rfl,List.Perm.refl _⟩
     ·injection he with he
      subst he;simp only[an]at c3;obtain⟨bm,rfl,_,_,bC,aI,g1,gw,L,g2,g3⟩:=c3;have hKL:=aaM g2 hk1
      have hp:L.Perm bC.toList:=by
       rcases g3 with rfl|⟨g3,_⟩
       ·exact List.Perm.refl _
       ·exact g3
      obtain⟨ks,w1,w2⟩:=keys_perm hKL hp;exact⟨some bm,bC,ks,rfl,⟨aI,gw,g1⟩,w1,w2⟩
     ·cases he
    subst m1;refine(aiJ b off mb bC l ks m3 m4 hk2 Wh z.w c1 q2 m2).mono ?_;rintro e w' ⟨v,rfl,hb,a,cap,rfl,hc,hor⟩;have hout:Out z z.w z.E:=⟨rfl,rfl,rfl,bD _,λ_ _ _=>rfl,λi p hp=>.inr ⟨p,hp,rfl⟩,λi p hp=>⟨p,hp,.inl rfl⟩,e2,λp hp=>hh.lt hp⟩
    refine⟨_,z.E,rfl,hout.grow hb,hh.mono (yh hb) rfl (λp hp=>hb.block _ (hh.lt hp)),?_⟩;simp only[an]
    have hlen:((oS (λa b:iT=>mO a.1 b.1) l).map λk=>aT k.1).length=l.length:=by rw[List.length_map];exact(DF (zx λk:iT=>k.1) l).1.length_eq
    rw[hlen];refine⟨a,cap,rfl,hc,by decide,?_⟩;rcases hor with rfl|⟨g,rfl,g1,g2,g3⟩
    ·left;exact xh hlen
    ·right;refine⟨g,0,rfl,g2,?_,abX _ 0 λt v hv=>by rw[Nat.zero_add];exact g3 t v hv⟩;rintro(q|⟨p,hp,q⟩|⟨i,q⟩)
     ·have:=e2 _ q;omega
     ·have:=hh.lt (p:=p) hp;simp only[ctx]at this;omega
     ·cases q
   ·cases h
  ·cases h
 ·cases h
end
section
open Go.RowKit
theorem aqg{c:RC}{a b d:AV}{vs:Array Value}(h:aR c [a,b,d] vs.toList):∃v u t,vs=#[v,u,t]∧an c a v∧an c b u∧an c d t:=by simp only[aR]at h;obtain⟨v,vs',e,h1,u,vs2,e2,h2,t,vs3,e3,h3,e4⟩:=h;refine⟨v,u,t,?_,h1,h2,h3⟩;subst e4;subst e3;subst e2;cases vs;simp at e;simp [e]
theorem ahS:Sound Tryz.prog aL 282 JF:=by
 intro args σ r σ' h;unfold JF A.dI at h;split at h
 ·simp only at h;split at h
  ·rename_i x y;split at h
   ·rename_i hb;simp only[Option.some.injEq,Prod.mk.injEq]at h;obtain⟨rfl,rfl⟩:=h;refine pW.same Tryz.call282 λc vs w hr=>?_
    obtain⟨v,u,rfl,h1,h2⟩:=O6 hr;simp only[an]at h1 h2;subst h1 h2;have hx:((x.toNat:Nat):Int)=x:=Int.toNat_of_nonneg hb.1;have hy:((y.toNat:Nat):Int)=y:=Int.toNat_of_nonneg hb.2.2.1;have:=Tryz.bits_Mul64 x.toNat y.toNat (by omega) (by omega) w;rw[hx,hy]at this;refine this.mono ?_;rintro e w' ⟨rfl,rfl⟩;exact⟨_,rfl,Below.refl _ _,λc'=>by simp [an,aR]⟩
   ·cases h
  ·cases h
 ·cases h
theorem akb(x y c:Nat)(hc:c≤1)(w:World):(callFunc 283 #[.int .u64 x,.int .u64 y,.int .u64 c]).run Tryz.prog w=
  .ok (.value (.tuple #[.int .u64 (((x+y+c) % 18446744073709551616:Nat):Int),.int .u64 (((x+y+c) / 18446744073709551616:Nat):Int)])) w:=by
 rw[run_callFunc_extern Tryz.func283 (by kernel_rfl) (by kernel_rfl) (by kernel_rfl) (e:=add64Entry) (by kernel_rfl),run_add64 x y c (by omega) (by omega) (by omega) (by omega)];simp only[Result.andThen];congr 5<;>omega
theorem ahR:Sound Tryz.prog aL 283 Ht:=by
 intro args σ r σ' h;unfold Ht A.mU at h;split at h
 ·simp only at h;split at h
  ·rename_i x y d;split at h
   ·rename_i hb;simp only[Option.some.injEq,Prod.mk.injEq]at h;obtain⟨rfl,rfl⟩:=h;refine .inr λz vs e1 e2 hh ha=>?_
    obtain⟨v,u,t,rfl,h1,h2,h3⟩:=aqg ha;simp only[an]at h1 h2 h3;subst h1 h2 h3;have hx:((x.toNat:Nat):Int)=x:=Int.toNat_of_nonneg hb.1;have hy:((y.toNat:Nat):Int)=y:=Int.toNat_of_nonneg hb.2.2.1;have hd:((d.toNat:Nat):Int)=d:=Int.toNat_of_nonneg hb.2.2.2.2.1;have:=akb x.toNat y.toNat d.toNat (by omega) z.w;rw[hx,hy,hd]at this;exact⟨_,z.w,z.E,this,⟨rfl,rfl,rfl,bD _,λ_ _ _=>rfl,λi p hp=>.inr ⟨p,hp,rfl⟩,λi p hp=>⟨p,hp,.inl rfl⟩,e2,λp hp=>hh.lt hp⟩,hh,by simp [an,aR]⟩
   ·cases h
  ·cases h
 ·cases h
end
section
set_option maxRecDepth 100000
theorem ajS:Sound Tryz.prog aL 260 Sa:=q1 [] 35 (.s .n (.s (.s .n (.b (.l [2,7] [.exit 0,.ret] (.s .n (.s eM (.s (.b (.s .n (.s .n bJ))) .n)))))) bh)) aJ.nil Tryz.func260 Tryz.call260 (λa0 σ=>by kernel_rfl) rfl rfl
theorem RW:Sound Tryz.prog aL 240 Hz:=q1 [] 20 (.s .n bh) (aJ.cons ajS aJ.nil) Tryz.func240 Tryz.call240 (λa0 σ=>by kernel_rfl) rfl rfl
theorem uH:Sound Tryz.prog aL 89 lI:=q3 [] 15 (.s .n bh) aJ.nil Tryz.func89 Tryz.call89 (λa0 a1 a2 σ=>by kernel_rfl) rfl rfl
theorem Xx:Sound Tryz.prog aL 241 Js:=q1 [] 5 (.s .n bh) (aJ.cons uH aJ.nil) Tryz.func241 Tryz.call241 (λa0 σ=>by kernel_rfl) rfl rfl
theorem afK:Sound Tryz.prog aL 242 Qq:=q1 [5] 63 (.s .n (.s bJ (.s .n (.s (.s .n (.b (.l [2,12] [.exit 0,.ret] (.s .n (.s eM (.s (.b (.s .n (.s (.b (.s .n (.j bh (.s .n (.j bh (.s .n (.j bh bJ))))))) .n))) .n)))))) bh)))) (aJ.cons Xx (aJ.cons RW aJ.nil)) Tryz.func242 Tryz.call242 (λa0 σ=>by kernel_rfl) rfl rfl
theorem afG:Sound Tryz.prog aL 198 Ql:=q1 [1,6] 115 (.s .n (.s (.b (.s .n (.j bh (.s .n (.j bh (.s .n (.j bh bJ))))))) (.s .n (.s (.s .n (.b (.l [1,2,33] [.exit 1,.ret] (.s .n (.s eM (.s (.b (.s .n (.s (.b (.s .n (.j bh (.s .n (.j bh (.s .n (.j bh (.s .n (.j bh bJ))))))))) (.s (.s .n bJ) (.s .n (.s .n (.c [1] .n .n))))))) .n)))))) bh)))) (aJ.cons RW (aJ.cons uH (aJ.cons Xx (aJ.cons afK aJ.nil)))) Tryz.func198 Tryz.call198 (λa0 σ=>by kernel_rfl) rfl rfl
theorem afF:Sound Tryz.prog aL 153 Qk:=q1 [5] 30 (.s .n (.s bJ (.s .n (.s (.s .n (.b (.l [2,13] [.exit 0,.ret] (.s .n (.s eM (.s (.b (.s .n (.s (.s .n bJ) (.s bJ .n)))) .n)))))) bh)))) (aJ.cons afG aJ.nil) Tryz.func153 Tryz.call153 (λa0 σ=>by kernel_rfl) rfl rfl
noncomputable def aeS (dyn:Nat→au→Heap→aH):Fx:=⟨Tryz.prog,aL,A.tab (λ_ _=>none) [],dyn,[],[],19,[]⟩
theorem aeR(dyn:Nat→au→Heap→aH)(hd:∀f,Sound Tryz.prog aL f (dyn (aL.getD f 0))):Sound Tryz.prog aL 156 (A.wrap true [(.s 3)] .k (A.dI (MA dyn))):=
 Sound.wrap (Sound.ug (X:=aeS dyn) (fn:=Tryz.f156) (cB:=(.s .n (.s (.s .n (.b (.l [4,8] [.exit 0,.ret] (.s .n (.s eM (.s (.b (.s .n bJ)) .n)))))) bh))) .F trivial (eF.of rfl aJ.nil (hd)) Tryz.func156 Tryz.call156 (λa0 a1 σ=>by kernel_rfl)) _ _ _ rfl rfl
theorem aeQ(dyn:Nat→au→Heap→aH)(hd:∀f,Sound Tryz.prog aL f (dyn (aL.getD f 0))):Sound Tryz.prog aL 156 (Mz dyn):=aeR dyn hd
theorem Xg:Sound Tryz.prog aL 157 Jp:=q2 [2] 8 (.s .n bh) aJ.nil Tryz.func157 Tryz.call157 (λa0 a1 σ=>by kernel_rfl) rfl rfl
noncomputable def agk:Fx:=⟨Tryz.prog,aL,A.tab (λ_ _=>none) [(156,Mz (A.tab (λ_ _=>none) [(64,Jp)]))],(A.tab (λ_ _=>none) [(64,Jp)]),[4],[],17,[]⟩
theorem agh:Sound Tryz.prog aL 99 (A.wrap true [(.s 3)] (.t [(.a FG),.k]) (A.dI (MX))):=
 Sound.wrap (Sound.ug (X:=agk) (fn:=Tryz.f99) (cB:=(.s .n (.s .n (.s bJ bh)))) .F trivial (eF.of rfl (aJ.cons (aeQ _ (rU (jA.cons (pQ Xg (by kernel_rfl) rfl) jA.nil))) aJ.nil) (rU (jA.cons (pQ Xg (by kernel_rfl) rfl) jA.nil))) Tryz.func99 Tryz.call99 (λa0 a1 σ=>by kernel_rfl)) _ _ _ rfl rfl
theorem Xy:Sound Tryz.prog aL 99 MT:=agh
theorem afL:Sound Tryz.prog aL 154 G7:=q3 [] 32 (.s .n (.s bJ (.s (.s .n (.b (.l [6,7] [.exit 0,.ret] (.s (.s .n eM) (.s (.b bJ) .n))))) bh))) aJ.nil Tryz.func154 Tryz.call154 (λa0 a1 a2 σ=>by kernel_rfl) rfl rfl
noncomputable def ag5:Fx:=⟨Tryz.prog,aL,A.tab (λ_ _=>none) [],(λ_ _ _=>none),[4],[15],33,[]⟩
theorem ag3:Sound Tryz.prog aL 155 (A.wrap false [] .k (A.mU (JC))):=
 Sound.wrap (Sound.IW (X:=ag5) (fn:=Tryz.f155) (cB:=(.s .n (.s (.s .n (.c [4] .n .n)) (.s .n (.b (.l [4,6] [.exit 0] (.s (.s .n eM) (.s (.b .n) .n)))))))) .K trivial (eF.of rfl aJ.nil (λ_=>Sound.none)) Tryz.func155 Tryz.call155 (λa0 a1 a2 σ=>by kernel_rfl)) _ _ _ rfl rfl
theorem agZ:Sound Tryz.prog aL 155 M1:=ag3
theorem Xq:Sound Tryz.prog aL 98 MN:=q1 [1,6,7] 91 (.s .n (.s (.s .n bJ) (.s bJ (.s .n (.s (.s .n (.b (.l [1,2,23] [.exit 0,.ret] (.s .n (.s eM (.s (.b (.s .n (.s bJ (.s bJ (.s .n (.s bJ (.s bJ (.s bJ .n)))))))) .n)))))) bh))))) (aJ.cons afF (aJ.cons uH (aJ.cons Xy (aJ.cons afL (aJ.cons agZ aJ.nil))))) Tryz.func98 Tryz.call98 (λa0 σ=>by kernel_rfl) rfl rfl
theorem BQ:Sound Tryz.prog aL 41 rP:=q2 [] 7 (.s .n (.s bJ bh)) aJ.nil Tryz.func41 Tryz.call41 (λa0 a1 σ=>by kernel_rfl) rfl rfl
theorem E4:Sound Tryz.prog aL 40 ya:=q1 [] 15 (.s .n (.s (.s .n (.b (.l [2,7] [.exit 0,.ret] (.s .n (.s eM (.s (.b (.s .n bJ)) .n)))))) bh)) aJ.nil Tryz.func40 Tryz.call40 (λa0 σ=>by kernel_rfl) rfl rfl
theorem Rb:Sound Tryz.prog aL 38 Hj:=q1 [1,7,8,11] 50 (.s .n (.s (.s .n bJ) (.s .n (.s (.s .n (.b (.l [1,5,20] [.exit 0] (.s .n (.s eM (.s (.b (.s .n (.s .n (.s .n (.b (.l [1,5,7,35] [.exit 2] (.s .n (.s eM (.s (.b bh) .n))))))))) .n)))))) bh)))) (aJ.cons Xq (aJ.cons Xy aJ.nil)) Tryz.func38 Tryz.call38 (λa0 σ=>by kernel_rfl) rfl rfl
theorem aiG:Sound Tryz.prog aL 147 RG:=q1 [1,7] 24 (.s .n (.s .n (.s .n (.s (.s .n (.b (.l [16] [.exit 0] (.s .n (.s eM (.s (.b bh) .n)))))) bh)))) (aJ.cons Rb aJ.nil) Tryz.func147 Tryz.call147 (λa0 σ=>by kernel_rfl) rfl rfl
theorem Yd:Sound Tryz.prog aL 194 Nd:=q1 [] 40 (.s .n (.s (.s .n (.b (.l [2,6] [.exit 0,.ret] (.s .n (.s eM (.s (.b (.s .n bJ)) .n)))))) bh)) aJ.nil Tryz.func194 Tryz.call194 (λa0 σ=>by kernel_rfl) rfl rfl
theorem ahT:Sound Tryz.prog aL 148 Rn:=q1 [] 9 (.s .n bh) (aJ.cons Yd aJ.nil) Tryz.func148 Tryz.call148 (λa0 σ=>by kernel_rfl) rfl rfl
theorem XR:Sound Tryz.prog aL 149 M4:=q1 [] 5 (.s .n bh) (aJ.cons uH aJ.nil) Tryz.func149 Tryz.call149 (λa0 σ=>by kernel_rfl) rfl rfl
theorem ahm:Sound Tryz.prog aL 150 Re:=q2 [2,3] 21 (.s .n (.s bJ bh)) (aJ.cons QK aJ.nil) Tryz.func150 Tryz.call150 (λa0 a1 σ=>by kernel_rfl) rfl rfl
theorem Xo:Sound Tryz.prog aL 88 MK:=q2 [2,8,10] 97 (.s .n (.s (.s .n bJ) (.s .n (.s (.s .n (.b (.l [4,26] [.exit 0,.ret] (.s .n (.s eM (.s (.b (.s .n (.s (.b (.s .n (.j bh (.s .n (.j bh (.s .n (.j bh bJ))))))) (.s .n (.b (.l [4,8,63] [.exit 3,.ret] (.s .n (.s eM (.s (.b (.s .n (.b (.s .n (.j bh (.s .n (.j bh bJ))))))) .n))))))))) .n)))))) bh)))) (aJ.cons Xq (aJ.cons BQ (aJ.cons E4 (aJ.cons aiG (aJ.cons uH (aJ.cons ahT (aJ.cons XR (aJ.cons ahm aJ.nil)))))))) Tryz.func88 Tryz.call88 (λa0 a1 σ=>by kernel_rfl) rfl rfl
theorem Yb:Sound Tryz.prog aL 195 DA:=q1 [] 5 (.s .n bh) (aJ.cons uH aJ.nil) Tryz.func195 Tryz.call195 (λa0 σ=>by kernel_rfl) rfl rfl
theorem Xr:Sound Tryz.prog aL 196 MO:=q1 [1,5] 90 (.s .n (.s bJ (.s .n (.s bJ (.s bJ (.s bJ (.s (.s .n (.b (.l [2,28] [.exit 0,.ret] (.s .n (.s eM (.s (.b (.s .n bJ)) .n)))))) (.s bJ (.s (.s .n (.b (.l [2,6] [.exit 2,.ret] (.s (.s .n eM) (.s (.b bJ) .n))))) bh))))))))) (aJ.cons uH (aJ.cons BQ aJ.nil)) Tryz.func196 Tryz.call196 (λa0 σ=>by kernel_rfl) rfl rfl
theorem XY:Sound Tryz.prog aL 203 M8:=q2 [2,3] 20 (.s .n (.s (.s .n (.j (.s bJ bh) .n)) bh)) (aJ.cons QK aJ.nil) Tryz.func203 Tryz.call203 (λa0 a1 σ=>by kernel_rfl) rfl rfl
theorem agp:Sound Tryz.prog aL 197 QL:=q1 [4] 99 (.s .n (.s (.s .n (.b (.l [2,7] [.exit 0,.ret] (.s .n (.s eM (.s (.b (.s .n (.b (.s .n (.j bh (.s .n (.j bh (.s .n (.j bh (.s .n (.j bh (.s .n (.j bh (.s .n (.j bh bJ))))))))))))))) .n)))))) bh)) (aJ.cons uH (aJ.cons RW (aJ.cons Yb (aJ.cons XY aJ.nil)))) Tryz.func197 Tryz.call197 (λa0 σ=>by kernel_rfl) rfl rfl
theorem Ze:Sound Tryz.prog aL 151 JQ:=q1 [5] 101 (.s .n (.s bJ (.s .n (.s (.s .n (.b (.l [2,3,13] [.exit 0,.ret] (.s .n (.s eM (.s (.b (.s .n (.s (.b (.s .n (.j bh (.s .n (.j bh (.s .n (.j bh bJ))))))) (.s (.s .n bJ) (.s bJ (.s (.s .n bJ) .n)))))) .n)))))) bh)))) (aJ.cons uH (aJ.cons Yd (aJ.cons Yb (aJ.cons Xr (aJ.cons agp (aJ.cons BQ aJ.nil)))))) Tryz.func151 Tryz.call151 (λa0 σ=>by kernel_rfl) rfl rfl
theorem Yc:Sound Tryz.prog aL 152 E3:=q3 [4,5,9,11] 55 (.s .n (.s bJ (.s bJ (.s bJ (.s (.s .n (.b (.l [4,5,6,7,31] [.exit 0,.ret] (.s .n (.s eM (.s (.b (.s .n (.s (.s .n eM) (.s (.s .n (.b (.l [4,6,7,43] [.exit 2,.ret] (.s .n (.s eM (.s (.b (.s .n bJ)) .n)))))) .n)))) .n)))))) bh))))) (aJ.cons XR aJ.nil) Tryz.func152 Tryz.call152 (λa0 a1 a2 σ=>by kernel_rfl) rfl rfl
theorem agD:Sound Tryz.prog aL 90 QU:=q3 [3,12,14,16] 76 (.s .n (.s (.s .n bJ) (.s .n (.s .n (.s (.s .n (.b (.l [37] [.exit 0] (.s .n (.s eM (.s (.b bh) .n)))))) (.s (.s .n (.b (.l [6,46] [.exit 2,.ret] (.s .n (.s eM (.s (.b (.s .n (.s .n (.b (.l [6,53] [.exit 4,.ret] (.s .n (.s eM (.s (.b (.s .n (.s bJ (.s .n bJ)))) .n)))))))) .n)))))) bh)))))) (aJ.cons Xo (aJ.cons Ze (aJ.cons E4 (aJ.cons Rb (aJ.cons Yc aJ.nil))))) Tryz.func90 Tryz.call90 (λa0 a1 a2 σ=>by kernel_rfl) rfl rfl
noncomputable def ae8 (dyn:Nat→au→Heap→aH):Fx:=⟨Tryz.prog,aL,A.tab (λ_ _=>none) [],dyn,[],[],19,[]⟩
theorem ae5(dyn:Nat→au→Heap→aH)(hd:∀f,Sound Tryz.prog aL f (dyn (aL.getD f 0))):Sound Tryz.prog aL 100 (A.wrap true [(.s 2)] .k (A.dI (MD dyn))):=
 Sound.wrap (Sound.ug (X:=ae8 dyn) (fn:=Tryz.f100) (cB:=(.s .n (.s (.s .n (.b (.l [4,8] [.exit 0,.ret] (.s .n (.s eM (.s (.b (.s .n bJ)) .n)))))) bh))) .F trivial (eF.of rfl aJ.nil (hd)) Tryz.func100 Tryz.call100 (λa0 a1 σ=>by kernel_rfl)) _ _ _ rfl rfl
theorem ae2(dyn:Nat→au→Heap→aH)(hd:∀f,Sound Tryz.prog aL f (dyn (aL.getD f 0))):Sound Tryz.prog aL 100 (MC dyn):=ae5 dyn hd
theorem XL:Sound Tryz.prog aL 101 Jx:=q2 [2] 8 (.s .n bh) aJ.nil Tryz.func101 Tryz.call101 (λa0 a1 σ=>by kernel_rfl) rfl rfl
noncomputable def aiR:Fx:=⟨Tryz.prog,aL,A.tab (λ_ _=>none) [(100,MC (A.tab (λ_ _=>none) [(127,Jx)]))],(A.tab (λ_ _=>none) [(127,Jx)]),[2,4],[],19,[]⟩
theorem aiO:Sound Tryz.prog aL 39 (A.wrap true [Bw] (.t [(.a [.k,ve]),.k]) (A.dI (Ns))):=
 Sound.wrap (Sound.ug (X:=aiR) (fn:=Tryz.f39) (cB:=(.s .n (.s .n (.s bJ bh)))) .F trivial (eF.of rfl (aJ.cons (ae2 _ (rU (jA.cons (pQ XL (by kernel_rfl) rfl) jA.nil))) aJ.nil) (rU (jA.cons (pQ XL (by kernel_rfl) rfl) jA.nil))) Tryz.func39 Tryz.call39 (λa0 a1 σ=>by kernel_rfl)) _ _ _ rfl rfl
theorem YE:Sound Tryz.prog aL 39 DC:=aiO
theorem agd:Sound Tryz.prog aL 36 MV:=q1 [1,5,8,9] 107 (.s .n (.s (.s .n bJ) (.s (.s .n (.b (.l [1,2,29] [.exit 0,.ret] (.s .n (.s eM (.s (.b (.s .n (.s bJ (.s bJ (.s .n bJ))))) .n)))))) (.s bJ (.s (.s .n (.b (.l [1,2,70] [.exit 2,.ret] (.s .n (.s eM (.s (.b (.s .n (.s bJ (.s bJ (.s (.s .n bJ) bJ))))) .n)))))) bh))))) (aJ.cons Xo (aJ.cons BQ (aJ.cons E4 (aJ.cons uH (aJ.cons agD (aJ.cons YE aJ.nil)))))) Tryz.func36 Tryz.call36 (λa0 σ=>by kernel_rfl) rfl rfl
noncomputable def ae7:Fx:=⟨Tryz.prog,aL,A.tab (λ_ _=>none) [],(λ_ _ _=>none),[],[],8,[]⟩
theorem ae4:Sound Tryz.prog aL 91 (A.wrap true [(.s 3)] .k (A.dH (Qc))):=
 Sound.wrap (Sound.xz (X:=ae7) (fn:=Tryz.f91) (cB:=(.s .n (.s bJ bh))) .K trivial (eF.of rfl aJ.nil (λ_=>Sound.none)) Tryz.func91 Tryz.call91 (λa0 σ=>by kernel_rfl)) _ _ _ rfl rfl
theorem ae1:Sound Tryz.prog aL 91 Qb:=AP ae4 Tryz.call91 ah4
noncomputable def afD:Fx:=⟨Tryz.prog,aL,A.tab (λ_ _=>none) [],(λ_ _ _=>none),[],[],8,[]⟩
theorem afB:Sound Tryz.prog aL 92 (A.wrap true [(.s 4)] .k (A.dH (Qj))):=
 Sound.wrap (Sound.xz (X:=afD) (fn:=Tryz.f92) (cB:=(.s .n (.s bJ bh))) .K trivial (eF.of rfl aJ.nil (λ_=>Sound.none)) Tryz.func92 Tryz.call92 (λa0 σ=>by kernel_rfl)) _ _ _ rfl rfl
theorem afy:Sound Tryz.prog aL 92 Qh:=AP afB Tryz.call92 am8
noncomputable def afu:Fx:=⟨Tryz.prog,aL,A.tab (λ_ _=>none) [],(λ_ _ _=>none),[],[],8,[]⟩
theorem afr:Sound Tryz.prog aL 93 (A.wrap true [(.s 7)] .k (A.dH (Xb))):=
 Sound.wrap (Sound.xz (X:=afu) (fn:=Tryz.f93) (cB:=(.s .n (.s bJ bh))) .K trivial (eF.of rfl aJ.nil (λ_=>Sound.none)) Tryz.func93 Tryz.call93 (λa0 σ=>by kernel_rfl)) _ _ _ rfl rfl
theorem afp:Sound Tryz.prog aL 93 G5:=AP afr Tryz.call93 alB
noncomputable def afw:Fx:=⟨Tryz.prog,aL,A.tab (λ_ _=>none) [],(λ_ _ _=>none),[],[],8,[]⟩
theorem aft:Sound Tryz.prog aL 94 (A.wrap true [(.s 3)] .k (A.dH (Qg))):=
 Sound.wrap (Sound.xz (X:=afw) (fn:=Tryz.f94) (cB:=(.s .n (.s bJ bh))) .K trivial (eF.of rfl aJ.nil (λ_=>Sound.none)) Tryz.func94 Tryz.call94 (λa0 σ=>by kernel_rfl)) _ _ _ rfl rfl
theorem afq:Sound Tryz.prog aL 94 EM:=AP aft Tryz.call94 alD
noncomputable def aff:Fx:=⟨Tryz.prog,aL,A.tab (λ_ _=>none) [],(λ_ _ _=>none),[],[],8,[]⟩
theorem afd:Sound Tryz.prog aL 95 (A.wrap true [(.s 3)] .k (A.dH (Qd))):=
 Sound.wrap (Sound.xz (X:=aff) (fn:=Tryz.f95) (cB:=(.s .n (.s bJ bh))) .K trivial (eF.of rfl aJ.nil (λ_=>Sound.none)) Tryz.func95 Tryz.call95 (λa0 σ=>by kernel_rfl)) _ _ _ rfl rfl
theorem afa:Sound Tryz.prog aL 95 GZ:=AP afd Tryz.call95 ai4
noncomputable def afJ:Fx:=⟨Tryz.prog,aL,A.tab (λ_ _=>none) [],(λ_ _ _=>none),[],[],8,[]⟩
theorem afI:Sound Tryz.prog aL 96 (A.wrap true [(.s 11)] .k (A.dH (Xd))):=
 Sound.wrap (Sound.xz (X:=afJ) (fn:=Tryz.f96) (cB:=(.s .n (.s bJ bh))) .K trivial (eF.of rfl aJ.nil (λ_=>Sound.none)) Tryz.func96 Tryz.call96 (λa0 σ=>by kernel_rfl)) _ _ _ rfl rfl
theorem afH:Sound Tryz.prog aL 96 EO:=AP afI Tryz.call96 aoQ
noncomputable def afC:Fx:=⟨Tryz.prog,aL,A.tab (λ_ _=>none) [],(λ_ _ _=>none),[],[],8,[]⟩
theorem afA:Sound Tryz.prog aL 97 (A.wrap true [(.s 8)] .k (A.dH (Qi))):=
 Sound.wrap (Sound.xz (X:=afC) (fn:=Tryz.f97) (cB:=(.s .n (.s bJ bh))) .K trivial (eF.of rfl aJ.nil (λ_=>Sound.none)) Tryz.func97 Tryz.call97 (λa0 σ=>by kernel_rfl)) _ _ _ rfl rfl
theorem afx:Sound Tryz.prog aL 97 EN:=AP afA Tryz.call97 am7
end
section
set_option maxRecDepth 100000
noncomputable def afv:Fx:=⟨Tryz.prog,aL,A.tab (λ_ _=>none) [],(λ_ _ _=>none),[],[],8,[]⟩
theorem afs:Sound Tryz.prog aL 64 (A.wrap true [(.s 2)] .k (A.dH (MH))):=
 Sound.wrap (Sound.xz (X:=afv) (fn:=Tryz.f64) (cB:=(.s .n (.s bJ bh))) .K trivial (eF.of rfl aJ.nil (λ_=>Sound.none)) Tryz.func64 Tryz.call64 (λa0 σ=>by kernel_rfl)) _ _ _ rfl rfl
theorem Xc:Sound Tryz.prog aL 64 wL:=AP afs Tryz.call64 alC
theorem ahn:Sound Tryz.prog aL 37 M9:=q1 [1,2,3,5,8,10] 129 (.s .n (.s .n (.s .n (.s (.s .n (.b (.l [1,2,3,27] [.exit 0] (.s .n (.s eM (.s (.b (.s .n (.s .n (.s (.s .n (.b (.l [1,2,3,5,38] [.exit 2] (.s .n (.s eM (.s (.b bh) .n)))))) .n)))) .n)))))) (.s (.s .n (.b (.l [1,2,3,66] [.exit 4] (.s .n (.s eM (.s (.b (.s .n bh)) .n)))))) (.s (.s .n (.b (.l [2,3,84] [.exit 6] (.s .n (.s eM (.s (.b (.s .n (.s .n (.s (.s .n (.b (.l [2,3,10,95] [.exit 8] (.s .n (.s eM (.s (.b (.s .n bh)) .n)))))) .n)))) .n)))))) bh)))))) (aJ.cons (Sound.jB ae1 (.s 3) rfl) (aJ.cons (Sound.jB afy (.s 4) rfl) (aJ.cons afp (aJ.cons (Sound.jB afq (.s 3) rfl) (aJ.cons (Sound.jB afa (.s 3) rfl) (aJ.cons afH (aJ.cons (Sound.jB afx (.s 8) rfl) (aJ.cons (Sound.jB Xc (.s 2) rfl) aJ.nil)))))))) Tryz.func37 Tryz.call37 (λa0 σ=>by kernel_rfl) rfl rfl
noncomputable def aj6:Fx:=⟨Tryz.prog,aL,A.tab (λ_ _=>none) [(36,MV),(37,M9),(38,Hj),(39,DC)],(λ_ _ _=>none),[1,8,10,12,14,15],[27],119,[]⟩
theorem aj5:Sound Tryz.prog aL 10 (A.wrap true [Bw] .k (A.dH (JS))):=
 Sound.wrap (Sound.xz (X:=aj6) (fn:=Tryz.f10) (cB:=(.s .n (.s (.s .n bJ) (.s .n (.s .n (.s .n (.s .n (.s .n (.s (.s .n (.b (.l [1,46] [.exit 0] (.s .n (.s eM (.s (.b bh) .n)))))) (.s (.s .n (.b (.l [1,59] [.exit 2] (.s .n (.s eM (.s (.b (.s .n (.s .n (.b (.l [1,10,69] [.exit 4] (.s .n (.s eM (.s (.b bh) .n)))))))) .n)))))) (.s (.s .n (.b (.l [1,88] [.exit 6] (.s .n (.s eM (.s (.b (.s .n bh)) .n)))))) bh))))))))))) .K trivial (eF.of rfl (aJ.cons agd (aJ.cons ahn (aJ.cons Rb (aJ.cons YE aJ.nil)))) (λ_=>Sound.none)) Tryz.func10 Tryz.call10 (λa0 σ=>by kernel_rfl)) _ _ _ rfl rfl
theorem ajR:Sound Tryz.prog aL 10 HD:=aj5
theorem QS:Sound Tryz.prog aL 12 qV:=q1 [] 22 (.s .n (.s bJ bh)) aJ.nil Tryz.func12 Tryz.call12 (λa0 σ=>by kernel_rfl) rfl rfl
theorem X0:Sound Tryz.prog aL 43 JD:=q1 [] 5 (.s .n bh) (aJ.cons uH aJ.nil) Tryz.func43 Tryz.call43 (λa0 σ=>by kernel_rfl) rfl rfl
theorem XE:Sound Tryz.prog aL 47 EU:=q2 [] 16 (.s .n bh) (aJ.cons X0 (aJ.cons BQ (aJ.cons QS (aJ.cons E4 aJ.nil)))) Tryz.func47 Tryz.call47 (λa0 a1 σ=>by kernel_rfl) rfl rfl
noncomputable def afm:Fx:=⟨Tryz.prog,aL,A.tab (λ_ _=>none) [],(λ_ _ _=>none),[],[],8,[]⟩
theorem afk:Sound Tryz.prog aL 104 (A.wrap false [] .k (A.dH (G4))):=
 Sound.wrap (Sound.xz (X:=afm) (fn:=Tryz.f104) (cB:=(.s .n (.s bJ bh))) .K trivial (eF.of rfl aJ.nil (λ_=>Sound.none)) Tryz.func104 Tryz.call104 (λa0 σ=>by kernel_rfl)) _ _ _ rfl rfl
theorem afi:Sound Tryz.prog aL 104 G3:=AP afk Tryz.call104 alE
theorem XF:Sound Tryz.prog aL 57 zf:=q1 [] 31 (.s .n (.s bJ bh)) aJ.nil Tryz.func57 Tryz.call57 (λa0 σ=>by kernel_rfl) rfl rfl
theorem Jy:Sound Tryz.prog aL 63 uF:=q2 [2] 16 (.s .n (.s bJ bh)) aJ.nil Tryz.func63 Tryz.call63 (λa0 a1 σ=>by kernel_rfl) rfl rfl
noncomputable def aeF (dyn:Nat→au→Heap→aH):Fx:=⟨Tryz.prog,aL,A.tab (λ_ _=>none) [],dyn,[],[],49,[]⟩
theorem aeE(dyn:Nat→au→Heap→aH)(hd:∀f,Sound Tryz.prog aL f (dyn (aL.getD f 0))):Sound Tryz.prog aL 243 (A.wrap true [(.s 11)] .k (A.mU (GY dyn))):=
 Sound.wrap (Sound.IW (X:=aeF dyn) (fn:=Tryz.f243) (cB:=(.s .n (.s .n (.s .n (.s (.b (.l [9,10] [.exit 0] (.s (.s .n eM) (.b (.s .n (.s .n (.c [9,10] .n .n))))))) bh))))) .F trivial (eF.of rfl aJ.nil (hd)) Tryz.func243 Tryz.call243 (λa0 a1 a2 σ=>by kernel_rfl)) _ _ _ rfl rfl
theorem aeD(dyn:Nat→au→Heap→aH)(hd:∀f,Sound Tryz.prog aL f (dyn (aL.getD f 0))):Sound Tryz.prog aL 243 (GX dyn):=aeE dyn hd
theorem XK:Sound Tryz.prog aL 244 EV:=q2 [2] 9 (.s .n bh) aJ.nil Tryz.func244 Tryz.call244 (λa0 a1 σ=>by kernel_rfl) rfl rfl
noncomputable def aiQ:Fx:=⟨Tryz.prog,aL,A.tab (λ_ _=>none) [(243,GX (A.tab (λ_ _=>none) [(177,EV)]))],(A.tab (λ_ _=>none) [(177,EV)]),[],[],11,[]⟩
theorem aiN:Sound Tryz.prog aL 199 (A.wrap true [ve] .k (A.dI (Nq))):=
 Sound.wrap (Sound.ug (X:=aiQ) (fn:=Tryz.f199) (cB:=(.s .n bh)) .F trivial (eF.of rfl (aJ.cons (aeD _ (rU (jA.cons (pQ XK (by kernel_rfl) rfl) jA.nil))) aJ.nil) (rU (jA.cons (pQ XK (by kernel_rfl) rfl) jA.nil))) Tryz.func199 Tryz.call199 (λa0 a1 σ=>by kernel_rfl)) _ _ _ rfl rfl
theorem aiD:Sound Tryz.prog aL 199 Hy:=aiN
theorem aiE:Sound Tryz.prog aL 200 JJ:=q1 [5,7] 40 (.s .n (.s .n (.s (.s .n (.b (.l [11] [.exit 0] (.s .n (.s eM (.s (.b (.s .n (.s .n (.b (.l [5,18] [.exit 2] (.s .n (.s eM (.s (.b (.s .n (.s .n (.c [5] .n .n)))) .n)))))))) .n)))))) bh))) aJ.nil Tryz.func200 Tryz.call200 (λa0 σ=>by kernel_rfl) rfl rfl
theorem agE:Sound Tryz.prog aL 202 XG:=q2 [2,3] 10 (.s .n bh) (aJ.cons XY aJ.nil) Tryz.func202 Tryz.call202 (λa0 a1 σ=>by kernel_rfl) rfl rfl
noncomputable def aiP:Fx:=⟨Tryz.prog,aL,A.tab (λ_ _=>none) [(151,JQ),(199,Hy),(200,JJ),(201,Jm)],(A.tab (λ_ _=>none) [(297,XG)]),[11],[],42,[]⟩
theorem aiM:Sound Tryz.prog aL 159 (A.wrap true [ve] (.t [(.s 5),.k]) (A.dI (Np))):=
 Sound.wrap (Sound.ug (X:=aiP) (fn:=Tryz.f159) (cB:=(.s .n (.s (.s .n bJ) (.s .n (.s bJ (.s .n (.s (.s .n (.b (.lc [9] [.exit 0] (.s .n (.s eM (.b bh)))))) (.s .n bh)))))))) (.N (A.nn (.t [(.s 5),.k]))) (λ_ _ _ h=>Fw _ _ _ rfl h) (eF.of rfl (aJ.cons Ze (aJ.cons aiD (aJ.cons aiE (aJ.cons aeB aJ.nil)))) (rU (jA.cons (pQ agE (by kernel_rfl) rfl) jA.nil))) Tryz.func159 Tryz.call159 (λa0 a1 σ=>by kernel_rfl)) _ _ _ rfl rfl
theorem aiC:Sound Tryz.prog aL 159 Ni:=aiM
theorem ag2:Sound Tryz.prog aL 121 Q4:=q1 [1] 14 (.s .n bh) aJ.nil Tryz.func121 Tryz.call121 (λa0 σ=>by kernel_rfl) rfl rfl
theorem MM:Sound Tryz.prog aL 62 oJ:=q3 [4,6,8] 32 (.s .n (.s .n bh)) (aJ.cons ag2 aJ.nil) Tryz.func62 Tryz.call62 (λa0 a1 a2 σ=>by kernel_rfl) rfl rfl
theorem agF:Sound Tryz.prog aL 206 QV:=q1 [] 5 (.s .n bh) (aJ.cons uH aJ.nil) Tryz.func206 Tryz.call206 (λa0 σ=>by kernel_rfl) rfl rfl
theorem XQ:Sound Tryz.prog aL 162 M3:=q1 [] 15 (.s .n (.s (.s .n (.b (.l [2,7] [.exit 0,.ret] (.s .n (.s eM (.s (.b (.s .n bJ)) .n)))))) bh)) (aJ.cons agF aJ.nil) Tryz.func162 Tryz.call162 (λa0 σ=>by kernel_rfl) rfl rfl
theorem XP:Sound Tryz.prog aL 237 EW:=q1 [] 5 (.s .n bh) (aJ.cons uH aJ.nil) Tryz.func237 Tryz.call237 (λa0 σ=>by kernel_rfl) rfl rfl
theorem aga:Sound Tryz.prog aL 236 QD:=q1 [1] 44 (.s .n (.s (.s .n bJ) (.s bJ bh))) (aJ.cons XQ (aJ.cons XP (aJ.cons Xr aJ.nil))) Tryz.func236 Tryz.call236 (λa0 σ=>by kernel_rfl) rfl rfl
theorem ajQ:Sound Tryz.prog aL 273 qW:=q1 [2] 6 (.s .n bh) aJ.nil Tryz.func273 Tryz.call273 (λa0 σ=>by kernel_rfl) rfl rfl
theorem Xt:Sound Tryz.prog aL 274 tj:=q2 [2,4] 24 (.s .n (.s .n bh)) (aJ.cons ahS aJ.nil) Tryz.func274 Tryz.call274 (λa0 a1 σ=>by kernel_rfl) rfl rfl
theorem aiF:Sound Tryz.prog aL 258 Nj:=q3 [3,6,7,8,11,12] 131 (.s .n (.s .n (.s (.s .n (.b (.s .n (.j bh (.s .n (.j bh (.s .n (.j bh (.s .n (.j (.s bJ bh) (.s .n (.j (.s .n (.s .n (.s (.b (.l [6,7,10] [.exit 1] (.s (.s .n eM) (.b .n)))) (.s .n (.s .n (.s .n bh)))))) .n)))))))))))) bh))) (aJ.cons ajQ (aJ.cons Xt aJ.nil)) Tryz.func258 Tryz.call258 (λa0 a1 a2 σ=>by kernel_rfl) rfl rfl
theorem agc:Sound Tryz.prog aL 275 MU:=q2 [2,3,4] 29 (.s .n (.s .n (.s .n bh))) (aJ.cons ahR aJ.nil) Tryz.func275 Tryz.call275 (λa0 a1 σ=>by kernel_rfl) rfl rfl
theorem agb:Sound Tryz.prog aL 276 He:=q2 [2,3] 24 (.s .n bh) aJ.nil Tryz.func276 Tryz.call276 (λa0 a1 σ=>by kernel_rfl) rfl rfl
theorem ag0:Sound Tryz.prog aL 259 Q3:=q4 [6,7,10,15] 80 (.s .n (.s (.s .n (.j (.s .n (.s .n (.s .n (.s (.b (.l [7,10,11,12] [.exit 0] (.s (.s .n eM) (.b (.s .n (.s .n (.c [7,10,11,12] .n .n))))))) bh)))) .n)) (.s .n (.s .n (.s .n (.s (.b (.l [7,15,16,17] [.exit 2] (.s (.s .n eM) (.b (.s .n (.s .n (.c [7,15,16,17] .n .n))))))) bh)))))) (aJ.cons Xt (aJ.cons agc (aJ.cons agb aJ.nil))) Tryz.func259 Tryz.call259 (λa0 a1 a2 a3 σ=>by kernel_rfl) rfl rfl
theorem ajP:Sound Tryz.prog aL 238 R9:=q2 [2,6,7] 46 (.s .n (.s .n (.s (.b (.s .n (.j bh bJ))) (.s .n bh)))) (aJ.cons aiF (aJ.cons ag0 aJ.nil)) Tryz.func238 Tryz.call238 (λa0 a1 σ=>by kernel_rfl) rfl rfl
theorem ajO:Sound Tryz.prog aL 191 R8:=q2 [2] 21 (.s .n (.s (.s .n bJ) bh)) (aJ.cons aga (aJ.cons XP (aJ.cons BQ (aJ.cons E4 (aJ.cons ajP aJ.nil))))) Tryz.func191 Tryz.call191 (λa0 a1 σ=>by kernel_rfl) rfl rfl
theorem QT:Sound Tryz.prog aL 142 xZ:=q2 [2] 16 (.s .n (.s .n bh)) (aJ.cons ajO aJ.nil) Tryz.func142 Tryz.call142 (λa0 a1 σ=>by kernel_rfl) rfl rfl
theorem ahU:Sound Tryz.prog aL 207 Ro:=q2 [] 16 (.s .n (.s .n (.s (.s .n (.c [5] .n .n)) bh))) aJ.nil Tryz.func207 Tryz.call207 (λa0 a1 σ=>by kernel_rfl) rfl rfl
theorem ahV:Sound Tryz.prog aL 163 Rp:=q2 [] 12 (.s .n bh) (aJ.cons ahU aJ.nil) Tryz.func163 Tryz.call163 (λa0 a1 σ=>by kernel_rfl) rfl rfl
theorem XZ:Sound Tryz.prog aL 111 EY:=q2 [] 18 (.s .n (.s (.s .n bJ) bh)) (aJ.cons XQ (aJ.cons ahV aJ.nil)) Tryz.func111 Tryz.call111 (λa0 a1 σ=>by kernel_rfl) rfl rfl
theorem Xu:Sound Tryz.prog aL 82 Dx:=q4 [6,10,18] 124 (.s .n (.s .n (.s .n (.s (.s .n (.b (.l [6,10,11,12,13,14,35] [.exit 0] (.s .n (.s eM (.s (.b (.s .n (.s .n (.s .n (.s .n (.s (.s .n eM) (.s .n (.s (.s .n (.c [6,10,18,20] .n .n)) (.s .n (.s .n (.c [6,10,11,12,13,14] .n .n))))))))))) .n)))))) bh)))) (aJ.cons Jy (aJ.cons MM (aJ.cons QT (aJ.cons XZ aJ.nil)))) Tryz.func82 Tryz.call82 (λa0 a1 a2 a3 σ=>by kernel_rfl) rfl rfl
noncomputable def ae9 (dyn:Nat→au→Heap→aH):Fx:=⟨Tryz.prog,aL,A.tab (λ_ _=>none) [],dyn,[],[],19,[]⟩
theorem ae6(dyn:Nat→au→Heap→aH)(hd:∀f,Sound Tryz.prog aL f (dyn (aL.getD f 0))):Sound Tryz.prog aL 204 (A.wrap true [(.s 8)] .k (A.dI (ME dyn))):=
 Sound.wrap (Sound.ug (X:=ae9 dyn) (fn:=Tryz.f204) (cB:=(.s .n (.s (.s .n (.b (.l [4,8] [.exit 0,.ret] (.s .n (.s eM (.s (.b (.s .n bJ)) .n)))))) bh))) .F trivial (eF.of rfl aJ.nil (hd)) Tryz.func204 Tryz.call204 (λa0 a1 σ=>by kernel_rfl)) _ _ _ rfl rfl
theorem ae3(dyn:Nat→au→Heap→aH)(hd:∀f,Sound Tryz.prog aL f (dyn (aL.getD f 0))):Sound Tryz.prog aL 204 (Jj dyn):=ae6 dyn hd
theorem Sm:Sound Tryz.prog aL 161 yc:=q1 [1,2] 25 (.s .n (.s .n (.s .n (.s .n bh)))) aJ.nil Tryz.func161 Tryz.call161 (λa0 σ=>by kernel_rfl) rfl rfl
theorem Xk:Sound Tryz.prog aL 205 G8:=q2 [2] 8 (.s .n bh) aJ.nil Tryz.func205 Tryz.call205 (λa0 a1 σ=>by kernel_rfl) rfl rfl
noncomputable def agt:Fx:=⟨Tryz.prog,aL,A.tab (λ_ _=>none) [(204,Jj (A.tab (λ_ _=>none) [(349,G8)])),(161,yc)],(A.tab (λ_ _=>none) [(349,G8)]),[7,12,13,14],[],77,[]⟩
theorem agr:Sound Tryz.prog aL 160 (A.wrap false [] FH (A.Ge (QN))):=
 Sound.wrap (Sound.aeA (X:=agt) (fn:=Tryz.f160) (cB:=(.s .n (.s .n (.s .n (.s (.s .n (.c [7,12,13,14] (.s .n (.s .n (.c [7,12,13,14] .n .n))) .n)) (.s .n (.s (.s .n (.c [12,13,14] .n .n)) (.s (.s .n (.c [12,13] .n .n)) bh)))))))) .F trivial (eF.of rfl (aJ.cons (ae3 _ (rU (jA.cons (pQ Xk (by kernel_rfl) rfl) jA.nil))) (aJ.cons Sm aJ.nil)) (rU (jA.cons (pQ Xk (by kernel_rfl) rfl) jA.nil))) Tryz.func160 Tryz.call160 (λa0 a1 a2 a3 a4 a5 σ=>by kernel_rfl)) _ _ _ rfl rfl
theorem agq:Sound Tryz.prog aL 160 Dz:=agr
noncomputable def agu:Fx:=⟨Tryz.prog,aL,A.tab (λ_ _=>none) [(63,uF),(159,Ni),(152,E3),(62,oJ),(142,xZ),(82,Dx),(160,Dz),(161,yc)],(λ_ _ _=>none),[11,18,21,24,25,27],[],239,[]⟩
theorem ags:Sound Tryz.prog aL 105 (A.wrap false [] .k (A.Gd (QO))):=
 Sound.wrap (Sound.aez (X:=agu) (fn:=Tryz.f105) (cB:=(.s .n (.s .n (.s .n (.s .n (.s .n (.s .n (.s (.s .n (.b (.l [11,61] [.exit 0] (.s .n (.s eM (.s (.b (.s .n (.s .n (.s .n (.s .n (.s bJ (.s .n (.s (.s .n (.c [11,18,23] .n (.s .n (.c [11,18,23] .n .n)))) .n)))))))) .n)))))) (.s (.s .n (.b (.lc [11] [.exit 2] (.s .n (.s eM (.b (.s .n (.s .n (.s (.s .n eM) (.s (.s .n (.c [11,24,25] bh .n)) .n)))))))))) (.s .n (.s .n (.c [] .n .n)))))))))))) .G trivial (eF.of rfl (aJ.cons Jy (aJ.cons aiC (aJ.cons Yc (aJ.cons MM (aJ.cons QT (aJ.cons Xu (aJ.cons agq (aJ.cons Sm aJ.nil)))))))) (λ_=>Sound.none)) Tryz.func105 Tryz.call105 (λa0 a1 a2 a3 a4 σ=>by kernel_rfl)) _ _ _ rfl rfl
theorem XD:Sound Tryz.prog aL 105 vL:=ags
noncomputable def agl:Fx:=⟨Tryz.prog,aL,A.tab (λ_ _=>none) [(104,G3),(57,zf),(105,vL)],(λ_ _ _=>none),[4],[5],66,[]⟩
theorem agi:Sound Tryz.prog aL 45 (A.wrap false [] .k (A.dI (MY))):=
 Sound.wrap (Sound.ug (X:=agl) (fn:=Tryz.f45) (cB:=(.s .n (.s .n (.s .n (.b (.l [4] [.ret] (.b (.s .n (.s (.s .n (.b (.l [4,6,7,21] [.exit 2] (.s .n (.s eM (.s (.b (.s .n (.s .n (.s .n (.c [4,6,7] .n .n))))) .n)))))) (.s bJ bh)))))))))) .K trivial (eF.of rfl (aJ.cons afi (aJ.cons XF (aJ.cons XD aJ.nil))) (λ_=>Sound.none)) Tryz.func45 Tryz.call45 (λa0 a1 σ=>by kernel_rfl)) _ _ _ rfl rfl
theorem QJ:Sound Tryz.prog aL 45 Dy:=agi
end
section
set_option maxRecDepth 100000
theorem agf:Sound Tryz.prog aL 48 ET:=q4 [6] 42 (.s .n (.s .n (.s bJ (.s bJ (.s .n bh))))) (aJ.cons Xu (aJ.cons XZ aJ.nil)) Tryz.func48 Tryz.call48 (λa0 a1 a2 a3 σ=>by kernel_rfl) rfl rfl
noncomputable def af7:Fx:=⟨Tryz.prog,aL,A.tab (λ_ _=>none) [(47,EU),(45,Dy),(48,ET)],(λ_ _ _=>none),[10],[7],40,[]⟩
theorem af5:Sound Tryz.prog aL 13 (A.wrap false [] .k (A.dI (MS))):=
 Sound.wrap (Sound.ug (X:=af7) (fn:=Tryz.f13) (cB:=(.s .n (.s (.s .n bJ) (.s .n (.s .n (.s (.s .n (.b (.l [8,25] [.exit 0] (.s .n (.s eM (.s (.b bh) .n)))))) bh)))))) .K trivial (eF.of rfl (aJ.cons XE (aJ.cons QJ (aJ.cons agf aJ.nil))) (λ_=>Sound.none)) Tryz.func13 Tryz.call13 (λa0 a1 σ=>by kernel_rfl)) _ _ _ rfl rfl
theorem af3:Sound Tryz.prog aL 13 AN:=af5
noncomputable def aeV (dyn:Nat→au→Heap→aH):Fx:=⟨Tryz.prog,aL,A.tab (λ_ _=>none) [],dyn,[],[],19,[]⟩
theorem aeU(dyn:Nat→au→Heap→aH)(hd:∀f,Sound Tryz.prog aL f (dyn (aL.getD f 0))):Sound Tryz.prog aL 106 (A.wrap true [(.s 10)] .k (A.dI (MB dyn))):=
 Sound.wrap (Sound.ug (X:=aeV dyn) (fn:=Tryz.f106) (cB:=(.s .n (.s (.s .n (.b (.l [4,8] [.exit 0,.ret] (.s .n (.s eM (.s (.b (.s .n bJ)) .n)))))) bh))) .F trivial (eF.of rfl aJ.nil (hd)) Tryz.func106 Tryz.call106 (λa0 a1 σ=>by kernel_rfl)) _ _ _ rfl rfl
theorem W8(dyn:Nat→au→Heap→aH)(hd:∀f,Sound Tryz.prog aL f (dyn (aL.getD f 0))):Sound Tryz.prog aL 106 (Du dyn):=aeU dyn hd
theorem Xh:Sound Tryz.prog aL 116 G6:=q2 [2] 8 (.s .n bh) aJ.nil Tryz.func116 Tryz.call116 (λa0 a1 σ=>by kernel_rfl) rfl rfl
noncomputable def agm:Fx:=⟨Tryz.prog,aL,A.tab (λ_ _=>none) [(106,Du (A.tab (λ_ _=>none) [(358,G6)])),(47,EU),(41,rP),(40,ya),(45,Dy)],(A.tab (λ_ _=>none) [(358,G6)]),[6],[],36,[]⟩
theorem agj:Sound Tryz.prog aL 56 (A.wrap false [] (.t [(.a [.k,.k,.k,.k,.k,ve,.k,.k,.k,.k]),.k]) (A.mU (MZ))):=
 Sound.wrap (Sound.IW (X:=agm) (fn:=Tryz.f56) (cB:=(.s .n (.s .n (.s (.s .n bJ) bh)))) .F trivial (eF.of rfl (aJ.cons (W8 _ (rU (jA.cons (pQ Xh (by kernel_rfl) rfl) jA.nil))) (aJ.cons XE (aJ.cons BQ (aJ.cons E4 (aJ.cons QJ aJ.nil))))) (rU (jA.cons (pQ Xh (by kernel_rfl) rfl) jA.nil))) Tryz.func56 Tryz.call56 (λa0 a1 a2 σ=>by kernel_rfl)) _ _ _ rfl rfl
theorem age:Sound Tryz.prog aL 56 MW:=agj
theorem afM:Sound Tryz.prog aL 59 MI:=q1 [] 4 (.s .n bh) aJ.nil Tryz.func59 Tryz.call59 (λa0 σ=>by kernel_rfl) rfl rfl
theorem afo:Sound Tryz.prog aL 60 Xa:=q2 [2,3] 20 (.s .n (.s bJ bh)) (aJ.cons QK aJ.nil) Tryz.func60 Tryz.call60 (λa0 a1 σ=>by kernel_rfl) rfl rfl
noncomputable def afP:Fx:=⟨Tryz.prog,aL,A.tab (λ_ _=>none) [(56,MW),(57,zf),(59,MI),(58,Jn),(63,uF),(62,oJ),(64,A.jB (.s 2) wL)],(A.tab (λ_ _=>none) [(372,Xa)]),[6,10,13,14],[8],90,[]⟩
theorem afO:Sound Tryz.prog aL 19 (A.wrap false [] (.t [(.a [.k,.k,.k,.k,.k,(.e 11 [.k,.k,.k,.k,.k,.k,.k,.k,(.s 2),.k,.k])]),.k]) (A.mU (MJ))):=
 Sound.wrap (Sound.IW (X:=afP) (fn:=Tryz.f19) (cB:=(.s .n (.s .n (.s bJ (.s .n (.s (.s .n (.c [6,10] .n .n)) (.s .n (.s (.s .n (.b (.l [6,10,52] [.exit 0] (.s .n (.s eM (.s (.b (.s .n (.s .n (.s (.s .n eM) bh)))) .n)))))) bh)))))))) .F trivial (eF.of rfl (aJ.cons age (aJ.cons XF (aJ.cons afM (aJ.cons afz (aJ.cons Jy (aJ.cons MM (aJ.cons (Sound.jB Xc (.s 2) rfl) aJ.nil))))))) (rU (jA.cons (pQ afo (by kernel_rfl) rfl) jA.nil))) Tryz.func19 Tryz.call19 (λa0 a1 a2 σ=>by kernel_rfl)) _ _ _ rfl rfl
theorem afN:Sound Tryz.prog aL 19 BO:=afO
theorem af1:Sound Tryz.prog aL 42 MP:=q1 [1] 53 (.s .n (.s bJ (.s .n (.s .n (.s bJ bh))))) (aJ.cons uH aJ.nil) Tryz.func42 Tryz.call42 (λa0 σ=>by kernel_rfl) rfl rfl
noncomputable def aeN (dyn:Nat→au→Heap→aH):Fx:=⟨Tryz.prog,aL,A.tab (λ_ _=>none) [],dyn,[],[],19,[]⟩
theorem aeM(dyn:Nat→au→Heap→aH)(hd:∀f,Sound Tryz.prog aL f (dyn (aL.getD f 0))):Sound Tryz.prog aL 158 (A.wrap true [(.s 3)] .k (A.dI (My dyn))):=
 Sound.wrap (Sound.ug (X:=aeN dyn) (fn:=Tryz.f158) (cB:=(.s .n (.s (.s .n (.b (.l [4,8] [.exit 0,.ret] (.s .n (.s eM (.s (.b (.s .n bJ)) .n)))))) bh))) .F trivial (eF.of rfl aJ.nil (hd)) Tryz.func158 Tryz.call158 (λa0 a1 σ=>by kernel_rfl)) _ _ _ rfl rfl
theorem aeL(dyn:Nat→au→Heap→aH)(hd:∀f,Sound Tryz.prog aL f (dyn (aL.getD f 0))):Sound Tryz.prog aL 158 (Mx dyn):=aeM dyn hd
noncomputable def aeJ (dyn:Nat→au→Heap→aH):Fx:=⟨Tryz.prog,aL,A.tab (λ_ _=>none) [(158,Mx dyn)],dyn,[],[],9,[]⟩
theorem aeI(dyn:Nat→au→Heap→aH)(hd:∀f,Sound Tryz.prog aL f (dyn (aL.getD f 0))):Sound Tryz.prog aL 102 (A.wrap true [(.s 3)] .k (A.dI (Mw dyn))):=
 Sound.wrap (Sound.ug (X:=aeJ dyn) (fn:=Tryz.f102) (cB:=(.s .n bh)) .F trivial (eF.of rfl (aJ.cons (aeL dyn hd) aJ.nil) (hd)) Tryz.func102 Tryz.call102 (λa0 a1 σ=>by kernel_rfl)) _ _ _ rfl rfl
theorem aeH(dyn:Nat→au→Heap→aH)(hd:∀f,Sound Tryz.prog aL f (dyn (aL.getD f 0))):Sound Tryz.prog aL 102 (Mv dyn):=aeI dyn hd
theorem Xe:Sound Tryz.prog aL 103 Jo:=q2 [2] 9 (.s .n bh) aJ.nil Tryz.func103 Tryz.call103 (λa0 a1 σ=>by kernel_rfl) rfl rfl
noncomputable def af6:Fx:=⟨Tryz.prog,aL,A.tab (λ_ _=>none) [(102,Mv (A.tab (λ_ _=>none) [(152,Jo)])),(89,lI),(41,rP)],(A.tab (λ_ _=>none) [(152,Jo)]),[2],[],36,[]⟩
theorem af4:Sound Tryz.prog aL 44 (A.wrap true [Bw] .k (A.dI (MR))):=
 Sound.wrap (Sound.ug (X:=af6) (fn:=Tryz.f44) (cB:=(.s .n (.s .n (.s bJ (.s .n (.s (.s .n (.b (.s .n (.c [6] .n (.s .n (.c [6] .n .n)))))) bh)))))) .F trivial (eF.of rfl (aJ.cons (aeH _ (rU (jA.cons (pQ Xe (by kernel_rfl) rfl) jA.nil))) (aJ.cons uH (aJ.cons BQ aJ.nil))) (rU (jA.cons (pQ Xe (by kernel_rfl) rfl) jA.nil))) Tryz.func44 Tryz.call44 (λa0 a1 σ=>by kernel_rfl)) _ _ _ rfl rfl
theorem af2:Sound Tryz.prog aL 44 MQ:=af4
noncomputable def afg (dyn:Nat→au→Heap→aH):Fx:=⟨Tryz.prog,aL,A.tab (λ_ _=>none) [],dyn,[],[],19,[]⟩
theorem afe(dyn:Nat→au→Heap→aH)(hd:∀f,Sound Tryz.prog aL f (dyn (aL.getD f 0))):Sound Tryz.prog aL 108 (A.wrap true [(.s 11)] .k (A.dI (MF dyn))):=
 Sound.wrap (Sound.ug (X:=afg dyn) (fn:=Tryz.f108) (cB:=(.s .n (.s (.s .n (.b (.l [4,8] [.exit 0,.ret] (.s .n (.s eM (.s (.b (.s .n bJ)) .n)))))) bh))) .F trivial (eF.of rfl aJ.nil (hd)) Tryz.func108 Tryz.call108 (λa0 a1 σ=>by kernel_rfl)) _ _ _ rfl rfl
theorem afc(dyn:Nat→au→Heap→aH)(hd:∀f,Sound Tryz.prog aL f (dyn (aL.getD f 0))):Sound Tryz.prog aL 108 (Jl dyn):=afe dyn hd
noncomputable def afV:Fx:=⟨Tryz.prog,aL,A.tab (λ_ _=>none) [(63,uF),(62,oJ),(142,xZ),(161,yc)],(λ_ _ _=>none),[7,10,11],[],82,[]⟩
theorem afT:Sound Tryz.prog aL 110 (A.wrap false [] .k (A.vg (Qu))):=
 Sound.wrap (Sound.Vm (X:=afV) (fn:=Tryz.f110) (cB:=(.s .n (.s .n (.s .n (.s (.s .n (.b (.lc [7] [.exit 0] (.s .n (.s eM (.b (.s .n (.s .n (.s (.s .n eM) .n))))))))) .n))))) .G trivial (eF.of rfl (aJ.cons Jy (aJ.cons MM (aJ.cons QT (aJ.cons Sm aJ.nil)))) (λ_=>Sound.none)) Tryz.func110 Tryz.call110 (λa0 a1 a2 a3 σ=>by kernel_rfl)) _ _ _ rfl rfl
theorem afR:Sound Tryz.prog aL 110 Jr:=afT
theorem Qw:Sound Tryz.prog aL 107 Dv:=q2 [2] 9 (.s .n bh) aJ.nil Tryz.func107 Tryz.call107 (λa0 a1 σ=>by kernel_rfl) rfl rfl
theorem Qx:Sound Tryz.prog aL 109 Dw:=q2 [2] 9 (.s .n bh) aJ.nil Tryz.func109 Tryz.call109 (λa0 a1 σ=>by kernel_rfl) rfl rfl
noncomputable def agI:Fx:=⟨Tryz.prog,aL,A.tab (λ_ _=>none) [(106,Du (A.tab (λ_ _=>none) [(352,Dv),(354,Dw)])),(105,vL),(108,Jl (A.tab (λ_ _=>none) [(352,Dv),(354,Dw)])),(63,uF),(110,Jr)],(A.tab (λ_ _=>none) [(352,Dv),(354,Dw)]),[],[],176,[]⟩
theorem agH:Sound Tryz.prog aL 46 (A.wrap false [] .k (A.mU (Hh))):=
 Sound.wrap (Sound.IW (X:=agI) (fn:=Tryz.f46) (cB:=(.s .n (.s (.s .n (.b (.s .n (.j (.s .n (.s .n bh)) (.s .n (.j (.s .n (.s .n bh)) .n)))))) (.s .n (.s .n (.s .n (.s (.s .n (.b (.s .n (.j (.s .n bJ) (.s .n (.j (.s .n bJ) (.s .n (.j (.s .n bJ) (.s .n (.j (.s bJ .n) (.s .n (.j (.s bJ .n) (.s .n (.j (.s bJ (.s .n (.s .n bh))) (.s .n (.c [] .n .n)))))))))))))))) (.s .n (.s (.s .n (.c [] .n .n)) bh))))))))) .K trivial (eF.of rfl (aJ.cons (W8 _ (rU (jA.cons (pQ Qw (by kernel_rfl) rfl) (jA.cons (pQ Qx (by kernel_rfl) rfl) jA.nil)))) (aJ.cons XD (aJ.cons (afc _ (rU (jA.cons (pQ Qw (by kernel_rfl) rfl) (jA.cons (pQ Qx (by kernel_rfl) rfl) jA.nil)))) (aJ.cons Jy (aJ.cons afR aJ.nil))))) (rU (jA.cons (pQ Qw (by kernel_rfl) rfl) (jA.cons (pQ Qx (by kernel_rfl) rfl) jA.nil)))) Tryz.func46 Tryz.call46 (λa0 a1 a2 σ=>by kernel_rfl)) _ _ _ rfl rfl
theorem agG:Sound Tryz.prog aL 46 Jw:=agH
noncomputable def ag6:Fx:=⟨Tryz.prog,aL,A.tab (λ_ _=>none) [(41,rP),(42,MP),(43,JD),(12,qV),(40,ya),(44,MQ),(45,Dy),(46,Jw)],(λ_ _ _=>none),[3],[6],66,[]⟩
theorem ag4:Sound Tryz.prog aL 11 (A.wrap false [] .k (A.dI (M5))):=
 Sound.wrap (Sound.ug (X:=ag6) (fn:=Tryz.f11) (cB:=(.s .n (.s .n (.s (.s .n bJ) (.s .n (.s (.s .n bJ) (.s .n (.s .n bh)))))))) .K trivial (eF.of rfl (aJ.cons BQ (aJ.cons af1 (aJ.cons X0 (aJ.cons QS (aJ.cons E4 (aJ.cons af2 (aJ.cons QJ (aJ.cons agG aJ.nil)))))))) (λ_=>Sound.none)) Tryz.func11 Tryz.call11 (λa0 a1 σ=>by kernel_rfl)) _ _ _ rfl rfl
theorem ag1:Sound Tryz.prog aL 11 BP:=ag4
theorem afb:Sound Tryz.prog aL 17 Jk:=q2 [] 26 (.s .n (.s bJ (.s (.s .n (.b (.l [4,13] [.exit 0,.ret] (.s .n (.s eM (.s (.b (.s .n bJ)) .n)))))) bh))) aJ.nil Tryz.func17 Tryz.call17 (λa0 a1 σ=>by kernel_rfl) rfl rfl
noncomputable def afl:Fx:=⟨Tryz.prog,aL,A.tab (λ_ _=>none) [],(λ_ _ _=>none),[],[],8,[]⟩
theorem afj:Sound Tryz.prog aL 49 (A.wrap false [] .k (A.dH (Qf))):=
 Sound.wrap (Sound.xz (X:=afl) (fn:=Tryz.f49) (cB:=(.s .n (.s bJ bh))) .K trivial (eF.of rfl aJ.nil (λ_=>Sound.none)) Tryz.func49 Tryz.call49 (λa0 σ=>by kernel_rfl)) _ _ _ rfl rfl
theorem afh:Sound Tryz.prog aL 49 MG:=AP afj Tryz.call49 ako
noncomputable def afU:Fx:=⟨Tryz.prog,aL,A.tab (λ_ _=>none) [(49,MG)],(λ_ _ _=>none),[],[],8,[]⟩
theorem afS:Sound Tryz.prog aL 14 (A.wrap false [] .k (A.dH (G9))):=
 Sound.wrap (Sound.xz (X:=afU) (fn:=Tryz.f14) (cB:=(.s .n bh)) .K trivial (eF.of rfl (aJ.cons afh aJ.nil) (λ_=>Sound.none)) Tryz.func14 Tryz.call14 (λa0 σ=>by kernel_rfl)) _ _ _ rfl rfl
theorem afQ:Sound Tryz.prog aL 14 ML:=afS
noncomputable def ae0:Fx:=⟨Tryz.prog,aL,A.tab (λ_ _=>none) [(10,HD),(12,qV),(13,AN),(19,BO),(11,BP),(17,Jk),(14,ML)],(λ_ _ _=>none),[4,14],[],118,[11,14]⟩
theorem aeZ:Sound Tryz.prog aL 6 (A.wrap true [Bw,(.s 5),(.s 1)] .k (A.vg (Qa))):=
 Sound.wrap (Sound.Vm (X:=ae0) (fn:=Tryz.f6) (cB:=(.s .n (.s .n (.s .n (.s bJ (.s bJ (.s (.s .n (.b (.l [4,8,47] [.exit 0,.ret] (.s .n (.s eM (.s (.b (.s .n (.s (.s .n (.b (.l [4,14,54] [.exit 2] (.s .n (.s eM (.s (.b (.s .n (.s .n (.s .n (.c [4,14] .n .n))))) .n)))))) bJ))) .n)))))) (.s .n (.s .n bh))))))))) .F trivial (eF.of rfl (aJ.cons ajR (aJ.cons QS (aJ.cons af3 (aJ.cons afN (aJ.cons ag1 (aJ.cons afb (aJ.cons afQ aJ.nil))))))) (λ_=>Sound.none)) Tryz.func6 Tryz.call6 (λa0 a1 a2 a3 σ=>by kernel_rfl)) _ _ _ rfl rfl
theorem aeY:Sound Tryz.prog aL 6 W9:=aeZ
end
def pJ{κ ν:Type}(eK:κ→AV)(eV:ν→AV):Option (List (κ×ν))→AV
 |none=>.nm
 |some l=>xM eK eV l
theorem ans{κ ν:Type}{eK:κ→AV}{eV:ν→AV}(hk:∀k,Fz (eK k))(hv:∀v,Fz (eV v))(l:List (κ×ν)):Fz (xM eK eV l):=by
 intro σ n d
 have:A.sH σ n d (l.map λp=>(eK p.1,eV p.2))=some (l.map λp=>(eK p.1,eV p.2)):=by
  induction l with
  |nil=>simp [A.sH]
  |cons x l ih=>simp [A.sH,hk x.1 σ n d,hv x.2 σ n d,ih]
 cases d<;>simp [A.bG,xM,this]
theorem apR:Fz .nm:=λ_ _ d=>by cases d<;>simp [A.bG]
theorem aoU{κ ν:Type}{eK:κ→AV}{eV:ν→AV}(hk:∀k,Fz (eK k))(hv:∀v,Fz (eV v))(o:Option (List (κ×ν))):Fz (pJ eK eV o):=by
 cases o with
 |none=>exact apR
 |some l=>exact ans hk hv l
structure B7 where
 shown:Int
 since:Int
 jv:Bool
def wU(x:B7):au:=[.ah x.shown,.ah x.since,.bool x.jv]
theorem YB(x:B7):A.ak 0 (wU x)=some (.ah x.shown):=rfl
theorem aio(x:B7):A.ak 1 (wU x)=some (.ah x.since):=rfl
theorem aip(x:B7):A.ak 2 (wU x)=some (.bool x.jv):=rfl
theorem Sw(x:B7):A.cells 3 (.agg (wU x))=some (wU x):=rfl
structure cH where
 ia:jd
 mP:Int
 ending:Bool
def fU(x:cH):au:=[.ah x.ia.eo,.ah x.ia.to,.ah x.ia.start,.ah x.ia.ct,.ah x.ia.time,.ah x.ia.fB.kind,sl 2 iJ x.ia.fB.bL,.ah x.mP,.bool x.ending]
theorem aki(x:cH):(fU x).length=9:=rfl
theorem ajx(x:cH):A.ak 1 (fU x)=some (.ah x.ia.to):=rfl
theorem ajy(x:cH):A.ak 2 (fU x)=some (.ah x.ia.start):=rfl
theorem ajz(x:cH):A.ak 3 (fU x)=some (.ah x.ia.ct):=rfl
theorem ajA(x:cH):A.ak 4 (fU x)=some (.ah x.ia.time):=rfl
theorem ajB(x:cH):A.ak 6 (fU x)=some (sl 2 iJ x.ia.fB.bL):=rfl
theorem HE(x:cH):A.ak 7 (fU x)=some (.ah x.mP):=rfl
theorem JR(x:cH):A.ak 8 (fU x)=some (.bool x.ending):=rfl
theorem XV(x:cH):A.aB 0 7 (fU x)=some (.agg (gR x.ia)):=rfl
theorem yj(x:cH):A.aB 0 9 (fU x)=some (.agg (fU x)):=rfl
theorem zn(x:cH):A.cells 9 (.agg (fU x))=some (fU x):=rfl
theorem BY(x:cH)(l:au)(h:l.length=9):A.aq 0 (fU x) l=some (fU x):=by simp [A.aq,aki,h]
theorem aaI(x:cH):jP (fU x):=(bQ (dA _ _) (bQ (dA _ _) (bQ (dA _ _) (bQ (dA _ _) (bQ (dA _ _) (bQ (dA _ _) (bQ (rA JW _) (bQ (dA _ _) (bQ (A8 _) nR)))))))))
structure bn where
 aI:B7
 aC:Int
 kH:Int
 bH:(List bz)
 cm:Int
 iK:Int
 eA:Int
 runs:(Option (List (aG×cH)))
def aN(x:bn):au:=[.ah x.aI.shown,.ah x.aI.since,.bool x.aI.jv,.ah x.aC,.ah x.kH,sl 11 br x.bH,.ah x.cm,.ah x.iK,.ah x.eA,pJ (λx=>AV.agg (aT x)) (λx=>AV.agg (fU x)) x.runs]
theorem aiX(x:bn):(aN x).length=10:=rfl
theorem YA(x:bn):A.ak 3 (aN x)=some (.ah x.aC):=rfl
theorem SJ(x:bn):A.aB 0 10 (aN x)=some (.agg (aN x)):=rfl
theorem NH(x:bn):A.cells 10 (.agg (aN x))=some (aN x):=rfl
theorem alb(x:bn)(l:au)(h:l.length=10):A.aq 0 (aN x) l=some (aN x):=by simp [A.aq,aiX,h]
theorem AT(x:bn):jP (aN x):=(bQ (dA _ _) (bQ (dA _ _) (bQ (A8 _) (bQ (dA _ _) (bQ (dA _ _) (bQ (rA Ox _) (bQ (dA _ _) (bQ (dA _ _) (bQ (dA _ _) (bQ (aoU (λx=>wV (BZ x)) (λx=>wV (aaI x)) _) nR))))))))))
theorem ah5(x:bn){σ:Heap}:((A.deref (.rp ((aN x).drop 1)) σ).bind λc=>A.ak 0 c)=some (.ah x.aI.since):=rfl
theorem ah6(x:bn){σ:Heap}:((A.deref (.rp ((aN x).drop 2)) σ).bind λc=>A.ak 0 c)=some (.bool x.aI.jv):=rfl
theorem Nf(x:bn){σ:Heap}:((A.deref (.rp ((aN x).drop 3)) σ).bind λc=>A.ak 0 c)=some (.ah x.aC):=rfl
theorem JI(x:bn){σ:Heap}:((A.deref (.rp ((aN x).drop 4)) σ).bind λc=>A.ak 0 c)=some (.ah x.kH):=rfl
theorem ah7(x:bn){σ:Heap}:((A.deref (.rp ((aN x).drop 7)) σ).bind λc=>A.ak 0 c)=some (.ah x.iK):=rfl
theorem Ym(x:bn){σ:Heap}:((A.deref (.rp ((aN x).drop 8)) σ).bind λc=>A.ak 0 c)=some (.ah x.eA):=rfl
theorem Hw(x:bn){σ:Heap}:((A.deref (.rp ((aN x).drop 9)) σ).bind λc=>A.ak 0 c)=some (pJ (λx=>AV.agg (aT x)) (λx=>AV.agg (fU x)) x.runs):=(by unfold aN;cases x.runs<;>rfl)
structure cQ where
 aD:(List bn)
 aC:Int
 oN:Int
 black:Bool
def uP(x:cQ):au:=[sl 10 aN x.aD,.ah x.aC,.ah x.oN,.bool x.black]
theorem Yp(x:cQ){σ:Heap}:((A.deref (.rp ((uP x).drop 0)) σ).bind λc=>A.ak 0 c)=some (sl 10 aN x.aD):=rfl
theorem ah8(x:cQ){σ:Heap}:((A.deref (.rp ((uP x).drop 2)) σ).bind λc=>A.ak 0 c)=some (.ah x.oN):=rfl
theorem ah9(x:cQ){σ:Heap}:((A.deref (.rp ((uP x).drop 3)) σ).bind λc=>A.ak 0 c)=some (.bool x.black):=rfl
structure bV where
 state:cQ
 setup:iQ
 keys:(List aG)
 params:(Option (List (aG×fS)))
 cC:(List fR)
def tT(x:bV):au:=[sl 10 aN x.state.aD,.ah x.state.aC,.ah x.state.oN,.bool x.state.black,sl 3 dm x.setup.aZ.bw,sl 4 cO x.setup.aZ.dB,sl 3 ff x.setup.cq,sl 2 fA x.setup.cM,sl 3 dh x.setup.bU,sl 2 aT x.keys,pJ (λx=>AV.agg (aT x)) (λx=>AV.agg (gA x)) x.params,sl 5 cg x.cC]
theorem Yn(x:bV){σ:Heap}:((A.deref (.rp ((tT x).drop 10)) σ).bind λc=>A.ak 0 c)=some (pJ (λx=>AV.agg (aT x)) (λx=>AV.agg (gA x)) x.params):=(by unfold tT;cases x.params<;>rfl)
theorem Yo(x:bV){σ:Heap}:((A.deref (.rp ((tT x).drop 11)) σ).bind λc=>A.ak 0 c)=some (sl 5 cg x.cC):=rfl
section
set_option maxRecDepth 100000
open HP
def wd(n:Nat):au:=[.int .u64 ((n / 18446744073709551616:Nat):Int),.int .u64 ((n % 18446744073709551616:Nat):Int)]
theorem Pu{n:Nat}(h:n<18446744073709551616):IntKind.u64.wrap (n:Int)=(n:Int):=by rw[IntKind.wrap_u64];omega
theorem OI{r:AV→AV→Heap→aH}{x y v:AV}{σ:Heap}(h:[x,y].any A.own=false)(e:r x y σ=some (v,σ)):A.wrap true [] .k (A.dI r) [x,y] σ=some (v,σ):=by refine wrap_eq h ?_ (jC _);rw[show A.cG [] [x,y]=[x,y] by simp [A.cG]];exact e
theorem Br{n:Nat}(h:n<9223372036854775808)(σ:Heap):qW [.ah (n:Int)] σ=some (.agg (wd n),σ):=by
 refine wrap_eq rfl ?_ (jC _);show Si (.ah (n:Int)) σ=_;unfold Si;rw[show A.conv .u64 (.ah (n:Int))=some (.int .u64 (IntKind.u64.wrap (n:Int)))from rfl,bS,Pu (by omega)]
 have e:wd n=[.int .u64 0,.int .u64 (n:Int)]:=by unfold wd;rw[Nat.div_eq_of_lt (by omega),Nat.mod_eq_of_lt (by omega)];rfl
 rw[e];exact bP _ _
theorem anO{x y:Nat}(hx:x<18446744073709551616)(hy:y<18446744073709551616)(σ:Heap):JF [.int .u64 (x:Int),.int .u64 (y:Int)] σ=some (.aM [.int .u64 ((x*y / 18446744073709551616:Nat):Int),.int .u64 ((x*y % 18446744073709551616:Nat):Int)],σ):=by
 have h:0≤(x:Int)∧(x:Int)<18446744073709551616∧0≤(y:Int)∧(y:Int)<18446744073709551616:=by omega
 have e:∀(a b:Int),JF [.int .u64 a,.int .u64 b] σ=if 0≤a∧a<18446744073709551616∧0≤b∧b<18446744073709551616 then some (.aM [.int .u64 ((a.toNat*b.toNat / 18446744073709551616:Nat):Int),.int .u64 ((a.toNat*b.toNat % 18446744073709551616:Nat):Int)],σ)else none:=λa b=>rfl
 rw[e,aQ h,Int.toNat_natCast,Int.toNat_natCast]
theorem abl{x y c:Nat}(hx:x<18446744073709551616)(hy:y<18446744073709551616)(hc:c≤1)(σ:Heap):Ht [.int .u64 (x:Int),.int .u64 (y:Int),.int .u64 (c:Int)] σ=some (.aM [.int .u64 (((x+y+c) % 18446744073709551616:Nat):Int),.int .u64 (((x+y+c) / 18446744073709551616:Nat):Int)],σ):=by
 have h:0≤(x:Int)∧(x:Int)<18446744073709551616∧0≤(y:Int)∧(y:Int)<18446744073709551616∧0≤(c:Int)∧(c:Int)≤1:=by omega
 have e:∀(a b d:Int),Ht [.int .u64 a,.int .u64 b,.int .u64 d] σ=if 0≤a∧a<18446744073709551616∧0≤b∧b<18446744073709551616∧0≤d∧d≤1 then some (.aM [.int .u64 (((a.toNat+b.toNat+d.toNat) % 18446744073709551616:Nat):Int),.int .u64 (((a.toNat+b.toNat+d.toNat) / 18446744073709551616:Nat):Int)],σ)else none:=λa b d=>rfl
 rw[e,aQ h,Int.toNat_natCast,Int.toNat_natCast,Int.toNat_natCast]
theorem zy{a n:Nat}(h:a*n<340282366920938463463374607431768211456)(ha:a<340282366920938463463374607431768211456)(hn:n<9223372036854775808)(σ:Heap):tj [.agg (wd a),.ah (n:Int)] σ=some (.agg (wd (a*n)),σ):=by
 have e0:QA (.agg (wd a)) (.ah (n:Int)) σ=some (.agg (wd (a*n)),σ)→tj [.agg (wd a),.ah (n:Int)] σ=some (.agg (wd (a*n)),σ):=λq=>OI rfl q
 refine e0 ?_;unfold QA;have hlo:a % 18446744073709551616<18446744073709551616:=Nat.mod_lt _ (by decide)
 have e1:a*n=(a / 18446744073709551616*n)*18446744073709551616+a % 18446744073709551616*n:=by have q:=Nat.div_add_mod a 18446744073709551616;generalize a / 18446744073709551616=hi at q;generalize a % 18446744073709551616=lo at q;subst q;rw[gO,Nat.mul_assoc,Nat.mul_comm]
 generalize hp:a / 18446744073709551616*n=p at e1;generalize hq:a % 18446744073709551616*n=q at e1;have hhi:p+q / 18446744073709551616<18446744073709551616:=by omega
 have hd:(a*n) / 18446744073709551616=p+q / 18446744073709551616:=by omega
 have hm:(a*n) % 18446744073709551616=q % 18446744073709551616:=by omega
 rw[show A.cells 2 (.agg (wd a))=some (wd a)from rfl,bS,show A.ak 1 (wd a)=some (.int .u64 ((a % 18446744073709551616:Nat):Int))from rfl,bS,show A.conv .u64 (.ah (n:Int))=some (.int .u64 (IntKind.u64.wrap (n:Int)))from rfl,bS,Pu (by omega),anO hlo (by omega),bS,lW,bS,ext1,bS,show A.ak 0 (wd a)=some (.int .u64 ((a / 18446744073709551616:Nat):Int))from rfl,bS,bS];rw[show A.mul (.int .u64 ((a / 18446744073709551616:Nat):Int)) (.int .u64 (n:Int))=some (.int .u64 (IntKind.u64.wrap (((a / 18446744073709551616:Nat):Int)*(n:Int))))from rfl,bS,←Int.natCast_mul,hp,hq,Pu (by omega)];rw[show A.add (.int .u64 (p:Int)) (.int .u64 ((q / 18446744073709551616:Nat):Int))=some (.int .u64 (IntKind.u64.wrap ((p:Int)+((q / 18446744073709551616:Nat):Int))))from rfl,bS,←Int.natCast_add,Pu hhi];have e:wd (a*n)=[.int .u64 ((p+q / 18446744073709551616:Nat):Int),.int .u64 ((q % 18446744073709551616:Nat):Int)]:=by unfold wd;rw[hd,hm]
 rw[e];exact bP _ _
theorem api{a b:Nat}(h:a+b<340282366920938463463374607431768211456)(σ:Heap):MU [.agg (wd a),.agg (wd b)] σ=some (.agg (wd (a+b)),σ):=by
 have e0:QH (.agg (wd a)) (.agg (wd b)) σ=some (.agg (wd (a+b)),σ)→MU [.agg (wd a),.agg (wd b)] σ=some (.agg (wd (a+b)),σ):=λq=>OI rfl q
 refine e0 ?_;unfold QH;have ha:a % 18446744073709551616<18446744073709551616:=Nat.mod_lt _ (by decide);have hb:b % 18446744073709551616<18446744073709551616:=Nat.mod_lt _ (by decide);rw[show A.cells 2 (.agg (wd a))=some (wd a)from rfl,bS,show A.cells 2 (.agg (wd b))=some (wd b)from rfl,bS,show A.ak 1 (wd a)=some (.int .u64 ((a % 18446744073709551616:Nat):Int))from rfl,bS,show A.ak 1 (wd b)=some (.int .u64 ((b % 18446744073709551616:Nat):Int))from rfl,bS];have e0:=abl ha hb (c:=0) (by omega) σ;rw[show((0:Nat):Int)=0 from rfl]at e0;rw[e0,bS,lW,bS,ext1,bS,show A.ak 0 (wd a)=some (.int .u64 ((a / 18446744073709551616:Nat):Int))from rfl,bS,show A.ak 0 (wd b)=some (.int .u64 ((b / 18446744073709551616:Nat):Int))from rfl,bS];simp only;rw[abl (by omega) (by omega) (by omega),bS,lW,bS,ext1,bS]
 have e:wd (a+b)=[.int .u64 (((a / 18446744073709551616+b / 18446744073709551616+(a % 18446744073709551616+b % 18446744073709551616+0) / 18446744073709551616) % 18446744073709551616:Nat):Int),.int .u64 (((a % 18446744073709551616+b % 18446744073709551616+0) % 18446744073709551616:Nat):Int)]:=by
  have d1:(a+b) / 18446744073709551616=(a / 18446744073709551616+b / 18446744073709551616+(a % 18446744073709551616+b % 18446744073709551616+0) / 18446744073709551616) % 18446744073709551616:=by omega
  have d2:(a+b) % 18446744073709551616=(a % 18446744073709551616+b % 18446744073709551616+0) % 18446744073709551616:=by omega
  unfold wd;rw[d1,d2]
 rw[e];exact bP _ _
theorem acG(a b:Nat)(σ:Heap):He [.agg (wd a),.agg (wd b)] σ=some (.bool (decide (a<b)),σ):=by
 refine wrap_eq rfl ?_ (jC _);show QG (.agg (wd a)) (.agg (wd b)) σ=_;unfold QG
 rw[show A.cells 2 (.agg (wd a))=some (wd a)from rfl,bS,show A.cells 2 (.agg (wd b))=some (wd b)from rfl,bS,show A.ak 0 (wd a)=some (.int .u64 ((a / 18446744073709551616:Nat):Int))from rfl,bS,show A.ak 0 (wd b)=some (.int .u64 ((b / 18446744073709551616:Nat):Int))from rfl,bS,
  show A.lss (.int .u64 ((a / 18446744073709551616:Nat):Int)) (.int .u64 ((b / 18446744073709551616:Nat):Int))=some (.bool (decide (((a / 18446744073709551616:Nat):Int)<((b / 18446744073709551616:Nat):Int))))from rfl,bS]
 by_cases h1:a / 18446744073709551616<b / 18446744073709551616
 ·rw[cz (show((a / 18446744073709551616:Nat):Int)<((b / 18446744073709551616:Nat):Int) by omega)];rw[cz (show a<b by omega)];exact bP _ _
 rw[cD (show ¬((a / 18446744073709551616:Nat):Int)<((b / 18446744073709551616:Nat):Int) by omega)]
 have hq:A.eql .i (.int .u64 ((a / 18446744073709551616:Nat):Int)) (.int .u64 ((b / 18446744073709551616:Nat):Int))=some (.bool (decide (((a / 18446744073709551616:Nat):Int)=((b / 18446744073709551616:Nat):Int)))):=by simp only[A.eql,A.fM,A.pI,if_true,bZ];congr 2
 simp only[gF,bS];rw[hq];by_cases h2:a / 18446744073709551616=b / 18446744073709551616
 ·rw[cz (show((a / 18446744073709551616:Nat):Int)=((b / 18446744073709551616:Nat):Int) by omega)];simp only[gT,bS];rw[show A.ak 1 (wd a)=some (.int .u64 ((a % 18446744073709551616:Nat):Int))from rfl,bS,show A.ak 1 (wd b)=some (.int .u64 ((b % 18446744073709551616:Nat):Int))from rfl,bS,show A.lss (.int .u64 ((a % 18446744073709551616:Nat):Int)) (.int .u64 ((b % 18446744073709551616:Nat):Int))=some (.bool (decide (((a % 18446744073709551616:Nat):Int)<((b % 18446744073709551616:Nat):Int))))from rfl,bS];rw[show decide (((a % 18446744073709551616:Nat):Int)<((b % 18446744073709551616:Nat):Int))=decide (a<b)from decide_eq_decide.2 (by omega)];exact bP _ _
 ·rw[cD (show ¬((a / 18446744073709551616:Nat):Int)=((b / 18446744073709551616:Nat):Int) by omega)];simp only[wA,bS];rw[cD (show ¬a<b by omega)];exact bP _ _
end
section
set_option maxRecDepth 100000
open HP
theorem aoz{r:AV→AV→AV→AV→Heap→aH}{x y z t v:AV}{σ:Heap}(h:[x,y,z,t].any A.own=false)(e:r x y z t σ=some (v,σ)):A.wrap true [] .k (A.vg r) [x,y,z,t] σ=some (v,σ):=by refine wrap_eq h ?_ (jC _);rw[show A.cG [] [x,y,z,t]=[x,y,z,t] by simp [A.cG]];exact e
theorem DE{a b:Nat}(h:a+b<9223372036854775808):A.add (.ah (a:Int)) (.ah (b:Int))=some (.ah ((a+b:Nat):Int)):=by rw[mz,←Int.natCast_add,cL (by unfold aV;omega)]
theorem akQ{a b:Nat}(h:a*b<9223372036854775808):A.mul (.ah (a:Int)) (.ah (b:Int))=some (.ah ((a*b:Nat):Int)):=by rw[zI,←Int.natCast_mul,cL (by unfold aV;omega)]
theorem SE{a b:Nat}(h:b≤a)(h2:a<9223372036854775808):A.sub (.ah (a:Int)) (.ah (b:Int))=some (.ah ((a-b:Nat):Int)):=by rw[sA,cL (by unfold aV;omega)];congr 2;omega
theorem abG{a:Nat}(h:a<9223372036854775808):A.quo (.ah (a:Int)) (.ah 2)=some (.ah ((a / 2:Nat):Int)):=by rw[ad1 _ _ (by decide),show((a:Int)).tdiv 2=((a / 2:Nat):Int)from by rw[Int.tdiv_eq_ediv_of_nonneg (by omega)];omega,cL (by unfold aV;omega)]
def F7(a b:Int)(n d:Nat):Int:=if a≤b then a+((2*(b-a).toNat*n+d) / (2*d):Nat)else a-((2*(a-b).toNat*n+d-1) / (2*d):Nat)
theorem qn(n:Nat):A.cells 2 (.agg (wd n))=some (wd n):=rfl
theorem pU(n:Nat):A.aB 0 2 (wd n)=some (.agg (wd n)):=rfl
theorem rV(n:Nat):A.aq 0 (wd n) [(AV.int .u64 0),(AV.int .u64 0)]=some (wd n):=rfl
theorem Pb(n:Nat):((A.lb (.lbx (wd n))).bind λc=>A.aB 0 2 c)=some (.agg (wd n)):=rfl
theorem aiL(k:Nat):A.mul (.ah 2) (.ah (k:Int))=some (.ah (IntKind.i64.wrap (2*(k:Int)))):=rfl
theorem HK{k:Nat}(h:k<4611686018427387904):A.mul (.ah 2) (.ah (k:Int))=some (.ah ((2*k:Nat):Int)):=by rw[aiL,cL (by unfold aV;omega)];congr 2
theorem aot{d X K m:Nat}(hd:0<d)(hd2:d<100000000000000000000000000)(hm2:m≤65535)(hX:X≤200000*d)(hK:K≤m)(hle:∀k:Nat,k≤K↔d*(2*k)≤X)(σ:Heap):∃q,A.loop ((λv12 vF=>
    (A.lss (aj v12 2) (aj v12 3)).bind λdK=>
    A.cond dK (
     (A.add (aj v12 2) (aj v12 3)).bind λdg=>
     (A.add dg (AV.ah 1)).bind λdD=>
     (A.quo dD (AV.ah 2)).bind λcI=>
     ((A.lb (aj v12 1)).bind λiM=>A.aB 0 2 iM).bind λep=>
     ((A.lb (aj v12 0)).bind λlB=>A.aB 0 2 lB).bind λeu=>
     (A.mul (AV.ah 2) cI).bind λfC=>
     (A.quiet (tj [eu,fC] vF) vF).bind λx24=>
     (A.quiet (He [ep,x24] vF) vF).bind λx25=>
     (A.cond x25 (
      (A.sub cI (AV.ah 1)).bind λeU=>
      some ([(aj v12 0),(aj v12 1),(aj v12 2),eU],vF)) (
      some ([(aj v12 0),(aj v12 1),cI,(aj v12 3)],vF))).bind λmo=>
     some (AX.normal,[(aj mo.1 0),(aj mo.1 1),(aj mo.1 2),(aj mo.1 3)],mo.2)) (
     some (AX.exit 0,[(aj v12 0),(aj v12 1),(aj v12 2),(aj v12 3)],vF)))) [.lbx (wd d),.lbx (wd X),.ah 0,.ah (m:Int)] σ=some q∧∃w,q=(.exit 0,[.lbx (wd d),.lbx (wd X),.ah (K:Int),w],σ):=by
 refine ou (λz v w=>∃lo hi:Nat,v=[.lbx (wd d),.lbx (wd X),.ah (lo:Int),.ah (hi:Int)]∧w=σ∧z=hi-lo∧lo≤K∧K≤hi∧hi≤m) ?_ (n:=m) ⟨0,m,rfl,rfl,by omega,by omega,hK,bD _⟩;rintro z v w ⟨lo,hi,rfl,rfl,hz,h1,h2,h3⟩;simp only[bW,cA];rw[l8,bS];by_cases hlt:lo<hi
 ·rw[cz (by omega),dr,DE (by omega),bS,show A.add (.ah ((lo+hi:Nat):Int)) (.ah 1)=some (.ah ((lo+hi+1:Nat):Int))from DE (b:=1) (by omega),bS,abG (by omega),bS,Pb,bS,Pb,bS,HK (by omega),bS];generalize hk:(lo+hi+1) / 2=k;have hk1:lo<k:=by omega
  have hk2:k≤hi:=by omega
  have hdk:d*(2*k)≤131070*d:=by rw[Nat.mul_comm];exact Nat.mul_le_mul (by omega) (bD _)
  rw[eT (zy (by omega) (by omega) (by omega) w),bS,eT (acG X (d*(2*k)) w),bS];by_cases hc:X<d*(2*k)
  ·rw[cz hc,dr,show A.sub (.ah (k:Int)) (.ah 1)=some (.ah ((k-1:Nat):Int))from SE (b:=1) (by omega) (by omega),bS,bS];have hnk:¬k≤K:=λq=>by have:=(hle k).1 q;omega
   exact .inl ⟨k-1-lo,_,_,by omega,rfl,lo,k-1,rfl,rfl,rfl,h1,by omega,by omega⟩
  ·rw[cD hc,cR,bS];have hkK:k≤K:=(hle k).2 (by omega);exact .inl ⟨hi-k,_,_,by omega,rfl,k,hi,rfl,rfl,rfl,hkK,h2,h3⟩
 ·rw[cD (by omega),cR];refine .inr ⟨_,rfl,by simp,.ah (hi:Int),?_⟩;rw[show lo=K by omega]
theorem am9{d X K m:Nat}(hd:0<d)(hd2:d<100000000000000000000000000)(hm2:m≤65535)(hX:X≤200000*d)(hK:K≤m)(hle:∀k:Nat,k<K↔d*(2*k+1)<X)(σ:Heap):∃q,A.loop ((λkQ vI=>
    (A.lss (aj kQ 2) (aj kQ 3)).bind λgj=>
    A.cond gj (
     (A.add (aj kQ 2) (aj kQ 3)).bind λdV=>
     (A.quo dV (AV.ah 2)).bind λeX=>
     ((A.lb (aj kQ 0)).bind λmB=>A.aB 0 2 mB).bind λfk=>
     (A.mul (AV.ah 2) eX).bind λeY=>
     (A.add eY (AV.ah 1)).bind λfO=>
     (A.quiet (tj [fk,fO] vI) vI).bind λgP=>
     ((A.lb (aj kQ 1)).bind λiD=>A.aB 0 2 iD).bind λgK=>
     (A.quiet (He [gP,gK] vI) vI).bind λeZ=>
     (A.cond eZ (
      (A.add eX (AV.ah 1)).bind λjD=>
      some ([(aj kQ 0),(aj kQ 1),jD,(aj kQ 3)],vI)) (
      some ([(aj kQ 0),(aj kQ 1),(aj kQ 2),eX],vI))).bind λdN=>
     some (AX.normal,[(aj dN.1 0),(aj dN.1 1),(aj dN.1 2),(aj dN.1 3)],dN.2)) (
     some (AX.exit 2,[(aj kQ 0),(aj kQ 1),(aj kQ 2),(aj kQ 3)],vI)))) [.lbx (wd d),.lbx (wd X),.ah 0,.ah (m:Int)] σ=some q∧∃w,q=(.exit 2,[.lbx (wd d),.lbx (wd X),.ah (K:Int),w],σ):=by
 refine ou (λz v w=>∃lo hi:Nat,v=[.lbx (wd d),.lbx (wd X),.ah (lo:Int),.ah (hi:Int)]∧w=σ∧z=hi-lo∧lo≤K∧K≤hi∧hi≤m) ?_ (n:=m) ⟨0,m,rfl,rfl,by omega,by omega,hK,bD _⟩;rintro z v w ⟨lo,hi,rfl,rfl,hz,h1,h2,h3⟩;simp only[bW,cA];rw[l8,bS];by_cases hlt:lo<hi
 ·rw[cz (by omega),dr,DE (by omega),bS,abG (by omega),bS,Pb,bS,HK (by omega),bS];generalize hk:(lo+hi) / 2=k;have hk1:lo≤k:=by omega
  have hk2:k<hi:=by omega
  have hdk:d*(2*k+1)≤131071*d:=by rw[Nat.mul_comm];exact Nat.mul_le_mul (by omega) (bD _)
  rw[show A.add (.ah ((2*k:Nat):Int)) (.ah 1)=some (.ah ((2*k+1:Nat):Int))from DE (b:=1) (by omega),bS,eT (zy (by omega) (by omega) (by omega) w),bS,Pb,bS,eT (acG (d*(2*k+1)) X w),bS];by_cases hc:d*(2*k+1)<X
  ·rw[cz hc,dr,show A.add (.ah (k:Int)) (.ah 1)=some (.ah ((k+1:Nat):Int))from DE (b:=1) (by omega),bS,bS];have hkK:k<K:=(hle k).2 hc;exact .inl ⟨hi-(k+1),_,_,by omega,rfl,k+1,hi,rfl,rfl,rfl,by omega,h2,h3⟩
  ·rw[cD hc,cR,bS];have hnk:¬k<K:=λq=>hc ((hle k).1 q)
   exact .inl ⟨k-lo,_,_,by omega,rfl,lo,k,rfl,rfl,rfl,h1,by omega,by omega⟩
 ·rw[cD (by omega),cR];refine .inr ⟨_,rfl,by simp,.ah (hi:Int),?_⟩;rw[show lo=K by omega]
theorem amD{a b:Int}(ha:0≤a)(ha2:a≤65535)(hb:0≤b)(vq:b≤65535){n d:Nat}(hd:0<d)(hnd:n≤d)(hd2:d<100000000000000000000000000)(σ:Heap):Q3 [.ah a,.ah b,.agg (wd n),.agg (wd d)] σ=some (.ah (F7 a b n d),σ):=by
 have run:∃q,Q7 (.ah a) (.ah b) (.agg (wd n)) (.agg (wd d)) σ=some q∧q=(.ah (F7 a b n d),σ):=by
  unfold Q7 F7;rw[qn,bS,qn,bS,uc,bS];by_cases hab:a≤b
  ·rw[cz hab,dr,aQ hab];obtain⟨m,hm⟩:∃m:Nat,b-a=m:=⟨(b-a).toNat,by omega⟩
   have hm2:m≤65535:=by omega
   have b1:2*m*n≤131070*d:=Nat.mul_le_mul (by omega) hnd;have b2:n*(2*m)=2*m*n:=Nat.mul_comm _ _;rw[sA,cL (by unfold aV;omega),hm,bS,pU,bS,HK (by omega),bS,eT (zy (by omega) (by omega) (by omega) σ),bS,pU,bS,eT (api (by omega) σ),bS,qn,bS,rV,bS];rw[Int.toNat_natCast,b2];generalize hX:2*m*n+d=X
   have hK:X / (2*d)≤m:=by
    refine Nat.lt_succ_iff.1 ((Nat.div_lt_iff_lt_mul (by omega)).2 ?_);have:m*n≤m*d:=Nat.mul_le_mul (bD _) hnd;have e1:2*m*n=2*(m*n):=Nat.mul_assoc _ _ _;have e2:(m+1)*(2*d)=2*(m*d)+2*d:=by rw[gO,Nat.mul_left_comm];omega
    show X<(m+1)*(2*d)
    omega
   generalize V6:X / (2*d)=K at hK
   have hle:∀k:Nat,k≤K↔d*(2*k)≤X:=λk=>by rw[←V6,Nat.le_div_iff_mul_le (by omega),show k*(2*d)=d*(2*k) by rw[Nat.mul_left_comm,Nat.mul_left_comm d];congr 1;exact Nat.mul_comm _ _]
   refine Ih (aot hd hd2 hm2 (by omega) hK hle σ) ?_
   ·rintro q ⟨w,rfl⟩;simp only[oa,bW,cA];rw[mz,cL (by unfold aV;omega),bS];exact⟨_,bP _ _,rfl⟩
  ·rw[cD hab,cR,aP hab];obtain⟨m,hm⟩:∃m:Nat,a-b=m:=⟨(a-b).toNat,by omega⟩
   have hm2:m≤65535:=by omega
   have b1:2*m*n≤131070*d:=Nat.mul_le_mul (by omega) hnd;have b2:n*(2*m)=2*m*n:=Nat.mul_comm _ _;rw[sA,cL (by unfold aV;omega),hm,bS,pU,bS,HK (by omega),bS,zy (by omega) (by omega) (by omega) σ,bS,qn,bS,rV,bS];rw[Int.toNat_natCast,b2];generalize hX:2*m*n=X
   have hK:(X+d-1) / (2*d)≤m:=by
    refine Nat.lt_succ_iff.1 ((Nat.div_lt_iff_lt_mul (by omega)).2 ?_);have:m*n≤m*d:=Nat.mul_le_mul (bD _) hnd;have e1:2*m*n=2*(m*n):=Nat.mul_assoc _ _ _;have e2:(m+1)*(2*d)=2*(m*d)+2*d:=by rw[gO,Nat.mul_left_comm];omega
    show X+d-1<(m+1)*(2*d)
    omega
   generalize V6:(X+d-1) / (2*d)=K at hK
   have hle:∀k:Nat,k<K↔d*(2*k+1)<X:=λk=>by
    have q:=Nat.le_div_iff_mul_le (k:=2*d) (x:=k+1) (y:=X+d-1) (by omega);rw[V6]at q;have e:(k+1)*(2*d)=d*(2*k+1)+d:=by rw[Nat.mul_add,gO,Nat.mul_left_comm,Nat.mul_left_comm d];rw[Nat.mul_comm k d];omega
    constructor
    ·intro h;have:=q.1 h;omega
    ·intro h;exact q.2 (by omega)
   refine Ih (am9 hd hd2 hm2 (by omega) hK hle σ) ?_
   ·rintro q ⟨w,rfl⟩;simp only[oa,bW,cA];rw[sA,cL (by unfold aV;omega),bS];exact⟨_,bP _ _,rfl⟩
 obtain⟨q,h1,rfl⟩:=run;exact aoz rfl h1
end
section
set_option maxRecDepth 100000
noncomputable def JG (a0:Int) (a1:Int):Option Int:=
 (Ln a0 a1).bind λx1=>
 (Lo a0 a1).bind λx2=>
 (show Option Int from
   if x2<0 then
    some (IntKind.i64.wrap (x1-1))
   else
   some x1).bind λj4=>
 some j4
theorem ahA{a0:Int}{a1:Int}{σ:Heap}{r:Int}(h:JG a0 a1=some r):Ro [(AV.ah a0),(AV.ah a1)] σ=some ((AV.ah r),σ):=by
 refine yl (f:=Rx) (y0:=(AV.ah a0)) (y1:=(AV.ah a1)) (enc:=λr:Int=>(AV.ah r)) (T:=JG a0 a1) rfl rfl ?_ r h;unfold Rx JG;refine nh (λx1:Int=>(AV.ah x1)) (λx1 hx1=>apk hx1) (λx1 hx1=>?_);refine nh (λx2:Int=>(AV.ah x2)) (λx2 hx2=>apm hx2) (λx2 hx2=>?_);refine aA _ rfl ?_
 refine Pr (ω:=Int) (λj4 a=>a=(([(AV.ah j4)]:au),σ)) (
   by
    refine ng (p:=x2<0) (λc3=>?_) (λc3=>?_)
    ·refine aA _ rfl ?_;exact cV rfl
    exact cV rfl
   ) (λj4 a ha=>?_)
 subst ha;exact fW _ (bP _ _) ⟨rfl,rfl⟩
noncomputable def JH (a0:Int) (a1:Int):Option Int:=(JG (IntKind.i64.wrap (IntKind.i64.wrap (2*a0)+a1)) (IntKind.i64.wrap (2*a1))).bind λr1=>some r1
theorem ahB{a0:Int}{a1:Int}{σ:Heap}{r:Int}(h:JH a0 a1=some r):Rp [(AV.ah a0),(AV.ah a1)] σ=some ((AV.ah r),σ):=by refine yl (f:=Ry) (y0:=(AV.ah a0)) (y1:=(AV.ah a1)) (enc:=λr:Int=>(AV.ah r)) (T:=JH a0 a1) rfl rfl ?_ r h;unfold Ry JH;refine aA _ rfl<|aA _ rfl<|aA _ rfl ?_;refine nh (λr1:Int=>((AV.ah r1),σ)) (λr1 mH=>ahA mH) (λr1 mH=>?_);exact fW _ (bP _ _) ⟨rfl,rfl⟩
noncomputable def M6 (a0:Int):Option Bool:=some (bf a0 0 36000000)
theorem JA{a0:Int}{σ:Heap}{r:Bool}(h:M6 a0=some r):EW [(AV.ah a0)] σ=some ((AV.bool r),σ):=by refine AZ (f:=Q5) (y0:=(AV.ah a0)) (enc:=λr:Bool=>(AV.bool r)) (T:=M6 a0) rfl rfl ?_ r h;unfold Q5 M6;refine aA _ (lZ a0 0 36000000 σ) ?_;exact fW _ (bP _ _) ⟨rfl,rfl⟩
noncomputable def EX (a0:(List Int)):Option Int:=
 mY a0 (λ(i8:Nat)e7(s1:Unit)=>(show Option (Lr Unit Unit Int)from
   if(!(bf e7 0 65535))=true then
    some (.ret 1)
   else
   some (.go ()))) (λs1=>some ()) () (λb2=>
  some 0) (λb2=>
  some b2)
theorem XN{a0:(List Int)}{σ:Heap}{r:Int}(h:EX a0=some r):M3 [(sl 1 nV a0)] σ=some ((AV.ah r),σ):=by
 refine AZ (f:=Q6) (y0:=(sl 1 nV a0)) (enc:=λr:Int=>(AV.ah r)) (T:=EX a0) rfl rfl ?_ r h;unfold Q6 EX;refine aA _ (gH _ _ _) ?_;refine tO (B:=Unit) (R:=Int) (λ(i8:Nat)(s1:Unit)v w3=>v=[(AV.ah 0),(AV.ah (i8:Int))]∧σ=w3) (λ(b2:Unit)(q:LS)=>∃u2 u7,q=((AX.exit 0),([u2,u7]:au),σ)) (λ(b2:Int)(q:LS)=>∃u7,q=(AX.ret,([(AV.ah b2),u7]:au),σ)) ?_ ?_ ⟨rfl,rfl⟩ ?_ ?_
 ·intro CN i8 e7 s1 v w3 qQ hI;obtain⟨rfl,rfl⟩:=hI;refine aA _ (kU qQ)<|tV<|aA _ (jG qQ)<|aA _ rfl<|aA _ (aih e7 σ)<|aA _ rfl ?_;refine kV (c:=(!(bf e7 0 65535))) (λc9=>?_) (λc9=>?_)
  ·exact cV (jO (by simp) ⟨_,rfl⟩)
  refine aA _ (gY qQ CN) ?_;exact cV (tP ⟨rfl,rfl⟩)
 ·intro hl s1 v w3 hI;obtain⟨rfl,rfl⟩:=hI;refine aA _ (kS _)<|tU ?_;exact cV ⟨by simp,⟨_,_,rfl⟩⟩
 ·intro hl b2 q hq;obtain⟨u2,u7,rfl⟩:=hq;refine l7 rfl ?_;exact fW _ (bP _ _) ⟨rfl,rfl⟩
 ·intro hl b2 q hq;obtain⟨u7,rfl⟩:=hq;refine yC rfl<|l7 rfl ?_;exact fW _ (bP _ _) ⟨rfl,rfl⟩
noncomputable def Ju (a0:jd):Option Int:=
 (EX ([a0.eo,a0.to]:(List Int))).bind λr1=>
 if ¬(r1=0)then
  some r1
 else
 if((((!((bf a0.start 0 36000000)))||(!((bf a0.ct 0 36000000))))||(!((bf a0.time 0 36000000))))||(!((bf (IntKind.i64.wrap (IntKind.i64.wrap (a0.start+a0.ct)+a0.time)) 0 36000000))))=true then
  some 1
 else
 some (rq a0.fB)
theorem af9{a0:jd}{σ:Heap}{r:Int}(h:Ju a0=some r):QD [(AV.agg (gR a0))] σ=some ((AV.ah r),σ):=by
 refine AZ (f:=QF) (y0:=(AV.agg (gR a0))) (enc:=λr:Int=>(AV.ah r)) (T:=Ju a0) rfl rfl ?_ r h;unfold QF Ju;refine aA _ rfl<|aA _ rfl<|aA _ rfl<|aA (sl 1 nV ([a0.eo,a0.to]:(List Int))) rfl ?_;refine nh (λr1:Int=>((AV.ah r1),σ)) (λr1 mH=>XN mH) (λr1 mH=>?_);refine aA _ (ij _ _ _) ?_;refine ng (p:=¬(r1=0)) (λc3=>?_) (λc3=>?_)
 ·exact fW _ (bP _ _) ⟨rfl,rfl⟩
 refine aA _ rfl<|aA _ (JA (σ:=σ) (r:=(bf a0.start 0 36000000)) rfl)<|aA _ rfl<|fZ (AV.ah a0.ct) (λhg=>rfl)<|fZ (AV.bool ((bf a0.ct 0 36000000))) (λhg=>by(try rw[hg]);exact(eT (JA (σ:=σ) (r:=(bf a0.ct 0 36000000)) rfl)))<|fZ (AV.bool (!((bf a0.ct 0 36000000)))) (λhg=>by(try rw[hg]);exact rfl)<|aA _ (sj _ _)<|fZ (AV.ah a0.time) (λhg=>rfl)<|fZ (AV.bool ((bf a0.time 0 36000000))) (λhg=>by(try rw[hg]);exact(eT (JA (σ:=σ) (r:=(bf a0.time 0 36000000)) rfl)))<|fZ (AV.bool (!((bf a0.time 0 36000000)))) (λhg=>by(try rw[hg]);exact rfl)<|aA _ (sj _ _)<|fZ (AV.ah a0.start) (λhg=>rfl)<|fZ (AV.ah a0.ct) (λhg=>rfl)<|fZ (AV.ah (IntKind.i64.wrap (a0.start+a0.ct))) (λhg=>by(try rw[hg]);exact rfl)<|fZ (AV.ah a0.time) (λhg=>rfl)<|fZ (AV.ah (IntKind.i64.wrap (IntKind.i64.wrap (a0.start+a0.ct)+a0.time))) (λhg=>by(try rw[hg]);exact rfl)<|fZ (AV.bool ((bf (IntKind.i64.wrap (IntKind.i64.wrap (a0.start+a0.ct)+a0.time)) 0 36000000))) (λhg=>by(try rw[hg]);exact(eT (JA (σ:=σ) (r:=(bf (IntKind.i64.wrap (IntKind.i64.wrap (a0.start+a0.ct)+a0.time)) 0 36000000)) rfl)))<|fZ (AV.bool (!((bf (IntKind.i64.wrap (IntKind.i64.wrap (a0.start+a0.ct)+a0.time)) 0 36000000)))) (λhg=>by(try rw[hg]);exact rfl)<|aA _ (sj _ _) ?_;refine kV (c:=((((!((bf a0.start 0 36000000)))||(!((bf a0.ct 0 36000000))))||(!((bf a0.time 0 36000000))))||(!((bf (IntKind.i64.wrap (IntKind.i64.wrap (a0.start+a0.ct)+a0.time)) 0 36000000))))) (λc2=>?_) (λc2=>?_)
 ·exact fW _ (bP _ _) ⟨rfl,rfl⟩
 refine aA _ rfl<|aA _ (XT a0.fB σ) ?_;exact fW _ (bP _ _) ⟨rfl,rfl⟩
noncomputable def JE (a0:Int) (a1:Int):Option (Int×Int):=
 (EX ([a0,a1]:(List Int))).bind λr1=>
 if ¬(r1=0)then
  some (0,r1)
 else
 (JH (IntKind.i64.wrap (a0*a1)) 65535).bind λr2=>
 some (r2,0)
theorem ahb{a0:Int}{a1:Int}{σ:Heap}{r:(Int×Int)}(h:JE a0 a1=some r):EY [(AV.ah a0),(AV.ah a1)] σ=some ((AV.aM [(AV.ah r.1),(AV.ah r.2)]),σ):=by
 refine yl (f:=Ri) (y0:=(AV.ah a0)) (y1:=(AV.ah a1)) (enc:=λr:(Int×Int)=>(AV.aM [(AV.ah r.1),(AV.ah r.2)])) (T:=JE a0 a1) rfl rfl ?_ r h;unfold Ri JE;refine aA (sl 1 nV ([a0,a1]:(List Int))) rfl ?_;refine nh (λr1:Int=>((AV.ah r1),σ)) (λr1 mH=>XN mH) (λr1 mH=>?_);refine aA _ (ij _ _ _) ?_;refine ng (p:=¬(r1=0)) (λc3=>?_) (λc3=>?_)
 ·exact fW _ (bP _ _) ⟨rfl,rfl⟩
 refine aA _ rfl ?_;refine nh (λr2:Int=>((AV.ah r2),σ)) (λr2 vw=>ahB vw) (λr2 vw=>?_);exact fW _ (bP _ _) ⟨rfl,rfl⟩
end
section
set_option maxRecDepth 100000
open HP
theorem aoy{s:List Sh}{ro:Sh}{r:AV→AV→AV→Heap→aH}{x y z v v':AV}{σ:Heap}(h:[x,y,z].any A.own=false)(e1:A.cG s [x,y,z]=[x,y,z])(e2:A.nn ro v=v')(e:r x y z σ=some (v,σ)):A.wrap true s ro (A.mU r) [x,y,z] σ=some (v',σ):=by refine wrap_eq h ?_ e2;rw[e1];exact e
theorem DW{x y X Y:Int}(hx:0≤x)(hx2:x≤X)(hy:0≤y)(hy2:y≤Y):0≤x*y∧x*y≤X*Y:=⟨Int.mul_nonneg hx hy,Int.mul_le_mul hx2 hy2 hy (by omega)⟩
def oL(l:List nF)(p q:Int):Nat→Nat→Nat
 |0,i=>i
 |f+1,i=>if i+2<l.length∧(l.getD (i+1) fu).time*q≤1000*p then oL l p q f (i+1)else i
def Vr(l:List nF)(p q:Int):Int:=(l.getD (oL l p q l.length 0) fu).way*((l.getD (oL l p q l.length 0+1) fu).time-(l.getD (oL l p q l.length 0) fu).time)*q+((l.getD (oL l p q l.length 0+1) fu).way-(l.getD (oL l p q l.length 0) fu).way)*(1000*p-(l.getD (oL l p q l.length 0) fu).time*q)
def Vq(l:List nF)(p q:Int):Int:=(l.getD (oL l p q l.length 0+1) fu).time-(l.getD (oL l p q l.length 0) fu).time
def p6(c:rT)(p q:Nat):Nat×Nat:=
 if c.kind=2 then(p*p,q*q)else if c.kind=3 then(p*(2*q-p),q*q)else if c.kind=4 then(p*p*(3*q-2*p),q*q*q)else if c.kind=5 then(if p<q then(0,1)else(1,1))
 else if c.kind=6 then((Vr c.bL p q).toNat,(1000*Vq c.bL p q).toNat*q)else(p,q)
structure ada (l : List nF) : Prop where
 two:2≤l.length
 len:l.length≤20
 bd:∀i,i<l.length→0≤(l.getD i fu).time∧(l.getD i fu).time≤1000∧0≤(l.getD i fu).way∧(l.getD i fu).way≤1000
 fst:(l.getD 0 fu).time=0
 lst:(l.getD (l.length-1) fu).time=1000
 ord:∀i,i+1<l.length→(l.getD i fu).time<(l.getD (i+1) fu).time∧(l.getD i fu).way≤(l.getD (i+1) fu).way
theorem apj{c:rT}(h:rq c=0)(h6:c.kind=6):ada c.bL:=by
 unfold rq at h;split at h
 ·cases h
 try rw[aQ h6]at h
 split at h
 ·cases h
 split at h
 ·cases h
 rename_i h2 LC;unfold Vi at h;split at h
 ·cases h
 rename_i hb;split at h
 ·cases h
 rename_i hf;split at h
 ·cases h
 rename_i hl;split at h
 ·cases h
 rename_i ho
 have hb':∀p∈c.bL,FK p=false:=by
  intro p hp;cases q:FK p
  ·rfl
  ·exact absurd (List.any_eq_true.2 ⟨p,hp,q⟩) hb
 have hf:=Decidable.not_not.1 hf;have hl:=Decidable.not_not.1 hl;refine⟨by omega,by omega,λi hi=>?_,hf.1,hl.1,λi hi=>?_⟩
 ·have e:=DL hi;have:=hb' _ (cS e);unfold FK bf at this;simp only[oP,Bool.not_eq_false',decide_eq_true_eq]at this;omega
 ·have h1:¬F2 c.bL (i+1)=true:=λq=>ho (List.any_eq_true.2 ⟨i+1,by rw[List.mem_range'];exact⟨i,by omega,by omega⟩,q⟩)
  unfold F2 at h1;simp only[decide_eq_true_eq,Nat.add_sub_cancel]at h1;omega
theorem abc{l:List nF}{p q:Int}:∀(f i:Nat),i+f=l.length→i+1<l.length→(l.getD i fu).time*q≤1000*p→oL l p q f i+1<l.length∧(l.getD (oL l p q f i) fu).time*q≤1000*p∧(1000*p<(l.getD (oL l p q f i+1) fu).time*q∨oL l p q f i+2=l.length)
 |0,i,h1,h2,_=>by omega
 |f+1,i,h1,h2,h3=>by
  rw[oL];split
  ·rename_i h;exact abc f (i+1) (by omega) (by omega) h.2
  ·rename_i h;refine⟨h2,h3,?_⟩;by_cases h4:i+2<l.length
   ·exact .inl (Int.lt_of_not_ge λq=>h ⟨h4,q⟩)
   ·exact .inr (by omega)
theorem amC{l : List nF}(hl : ada l){p q : Int}(hp : 0 ≤ p)(hp2 : p ≤ 36000000)(hq : 0 < q)(yX : q ≤ 36000000)(σ : Heap) : ∃ r, A.loop ((λv64 i7 =>
        (A.add (aj v64 2) (AV.ah 2)).bind λkC=>
        (A.bR (sl 2 iJ l)).bind λiI=>
        (A.lss kC iI).bind λgX=>
        (A.guard gX true (some (AV.ah p)) ay).bind λgM=>
        (A.guard gX true (A.mul (AV.ah 1000) gM) ay).bind λmM=>
        (A.guard gX true (some (sl 2 iJ l)) ay).bind λnB=>
        (A.guard gX true (some (aj v64 2)) ay).bind λiz=>
        (A.guard gX true (A.add iz (AV.ah 1)) ay).bind λjr=>
        (A.guard gX true (A.aY 2 nB jr) ay).bind λfP=>
        (A.guard gX true (A.aF 0 fP) ay).bind λkD=>
        (A.guard gX true ((A.deref kD i7).bind λnY=>A.ak 0 nY) ay).bind λkR=>
        (A.guard gX true (some (AV.ah q)) ay).bind λkE=>
        (A.guard gX true (A.mul kR kE) ay).bind λgm=>
        (A.guard gX true (A.geq mM gm) ay).bind λnC=>
        (A.pick gX nC aO).bind λnD=>
        A.cond nD (
         (A.add (aj v64 2) (AV.ah 1)).bind λnN=>
         some (AX.normal,[(aj v64 0),(aj v64 1),nN],i7)) (
         some (AX.exit 1,[(aj v64 0),(aj v64 1),(aj v64 2)],i7)))) [.lbx [(AV.int .u64 0),(AV.int .u64 0)],.lbx [(AV.int .u64 0),(AV.int .u64 0)],.ah 0] σ=some r∧r=(.exit 1,[.lbx [(AV.int .u64 0),(AV.int .u64 0)],.lbx [(AV.int .u64 0),(AV.int .u64 0)],.ah (oL l p q l.length 0:Nat)],σ):=by
 have LC:=hl.len;refine ou (λz v w=>∃i:Nat,v=[.lbx [(AV.int .u64 0),(AV.int .u64 0)],.lbx [(AV.int .u64 0),(AV.int .u64 0)],.ah (i:Int)]∧w=σ∧z=l.length-i∧i≤l.length∧oL l p q (l.length-i) i=oL l p q l.length 0) ?_ (n:=l.length) ⟨0,rfl,rfl,rfl,kY _,rfl⟩;rintro z v w ⟨i,rfl,rfl,hz,hi,hT⟩;simp only[bW,cA];rw[show A.add (.ah (i:Int)) (.ah 2)=some (.ah ((i+2:Nat):Int))from DE (b:=2) (by omega),bS,gH,bS,l8,bS];by_cases h1:i+2<l.length
 ·obtain⟨b1,b2,_,_⟩:=hl.bd (i+1) (by omega);have m1:=DW b1 b2 (Int.le_of_lt hq) yX;have ex:=DL (l:=l) (i:=i+1) (by omega);rw[cz (by omega)];simp only[gT,bS];rw[zI,cL (by unfold aV;omega),bS,show A.add (.ah (i:Int)) (.ah 1)=some (.ah ((i+1:Nat):Int))from DE (b:=1) (by omega),bS,jG ex,bS,show A.aF 0 (.rp (iJ (l.getD (i+1) fu)))=some (.rp (iJ (l.getD (i+1) fu)))from rfl,bS,oD,bS,show A.ak 0 (iJ (l.getD (i+1) fu))=some (.ah (l.getD (i+1) fu).time)from rfl,bS,zI,cL (by unfold aV;omega),bS,uc,bS];simp only[nw,bS];rw[show l.length-i=(l.length-(i+1))+1 by omega,oL]at hT;by_cases h2:(l.getD (i+1) fu).time*q≤1000*p
  ·rw[cz h2,dr];rw[aQ ⟨h1,h2⟩]at hT;exact .inl ⟨l.length-(i+1),_,_,by omega,rfl,i+1,rfl,rfl,rfl,by omega,hT⟩
  ·rw[cD h2,cR];rw[aP (λq=>h2 q.2)]at hT;exact .inr ⟨_,rfl,by simp,by rw[hT]⟩
 ·rw[cD (by omega)];simp only[wA,bS,pM];rw[cR];refine .inr ⟨_,rfl,by simp,?_⟩
  have:oL l p q (l.length-i) i=i:=by
   cases hf:l.length-i with
   |zero=>rfl
   |succ f=>rw[oL,aP (λq=>h1 q.1)]
  rw[←hT,this]
theorem C9{α:Type}{X:Option α}{v:α}(h:∃b,X=some b∧b=v):X=some v:=by obtain⟨b,h,rfl⟩:=h;exact h
theorem adS{c:rT}(hc:rq c=0){p q:Nat}(hp:0<p)(hpq:p<q)(hq:q≤36000000)(σ:Heap):Nj [.agg (nS c),.ah (p:Int),.ah (q:Int)] σ=some (.aM [.agg (wd (p6 c p q).1),.agg (wd (p6 c p q).2)],σ)∧(p6 c p q).1≤(p6 c p q).2∧0<(p6 c p q).2∧(p6 c p q).2<100000000000000000000000000:=by
 have q2:q*q≤36000000*36000000:=Nat.mul_le_mul hq hq;have q3:q*q*q≤36000000*36000000*36000000:=Nat.mul_le_mul q2 hq;have WE:0<q*q:=Nat.mul_pos (by omega) (by omega);have q3p:0<q*q*q:=Nat.mul_pos WE (by omega);have pp:p*p≤q*q:=Nat.mul_le_mul (by omega) (by omega);have head:∀{v:AV},A.nn .k v=v→True:=λ_=>trivial
 have go:(Nr (.agg (nS c)) (.ah (p:Int)) (.ah (q:Int)) σ=some (.aM [.agg (wd (p6 c p q).1),.agg (wd (p6 c p q).2)],σ))→Nj [.agg (nS c),.ah (p:Int),.ah (q:Int)] σ=some (.aM [.agg (wd (p6 c p q).1),.agg (wd (p6 c p q).2)],σ):=λh=>aoy rfl (kI (sL rfl) rfl) (jC _) h
 suffices Nr (.agg (nS c)) (.ah (p:Int)) (.ah (q:Int)) σ=some (.aM [.agg (wd (p6 c p q).1),.agg (wd (p6 c p q).2)],σ)∧(p6 c p q).1≤(p6 c p q).2∧0<(p6 c p q).2∧(p6 c p q).2<100000000000000000000000000 from⟨go this.1,this.2⟩
 clear go head;unfold Nr p6;rw[show A.cells 2 (.agg (nS c))=some (nS c)from rfl,bS,Br (by omega),bS,zy (by omega) (by omega) (by omega),bS,qn,bS,rV,bS,show A.ak 0 (nS c)=some (.ah c.kind)from rfl,bS,jQ,bS];by_cases k2:c.kind=2
 ·rw[cz k2,dr,aQ k2,eT (Br (by omega) σ),bS,eT (zy (by omega) (by omega) (by omega) σ),bS,pU,bS,qn,bS,rV,bS,qn,bS,rV,bS,pU,bS,pU,bS];exact⟨bP _ _,pp,WE,by omega⟩
 rw[cD k2,cR,aP k2,jQ,bS];by_cases k3:c.kind=3
 ·have hm:p*(2*q-p)≤q*q:=by
   obtain⟨t,rfl⟩:∃t,q=p+t:=⟨q-p,by omega⟩
   rw[show 2*(p+t) -p=p+2*t by omega,Nat.mul_add,gO,Nat.mul_add,Nat.mul_add];have e1:p*(2*t)=p*t+p*t:=by rw[←Nat.mul_add];congr 1;omega
   have e2:t*p=p*t:=Nat.mul_comm _ _;rw[e1,e2];omega
  rw[cz k3,dr,aQ k3,eT (Br (by omega) σ),bS,HK (by omega),bS,SE (by omega) (by omega),bS,eT (zy (by omega) (by omega) (by omega) σ),bS,pU,bS,qn,bS,rV,bS,qn,bS,rV,bS,pU,bS,pU,bS];exact⟨bP _ _,hm,WE,by omega⟩
 rw[cD k3,cR,aP k3,jQ,bS];by_cases k4:c.kind=4
 ·have hm:p*p*(3*q-2*p)≤q*q*q:=by
   obtain⟨t,rfl⟩:∃t,q=p+t:=⟨q-p,by omega⟩
   rw[show 3*(p+t) -2*p=p+3*t by omega]
   have e1:(p+t)*(p+t)*(p+t)=p*p*(p+3*t)+(3*p*(t*t)+t*t*t):=by
    simp only[gO,Nat.mul_add];have a1:p*p*(3*t)=p*p*t+p*p*t+p*p*t:=by rw[show 3*t=t+t+t by omega,Nat.mul_add,Nat.mul_add]
    have a2:p*t*p=p*p*t:=by rw[Nat.mul_right_comm]
    have a3:t*p*p=p*p*t:=by rw[Nat.mul_comm t p,Nat.mul_right_comm]
    have a4:t*p*t=p*(t*t):=by rw[Nat.mul_comm t p,Nat.mul_assoc]
    have a5:p*t*t=p*(t*t):=Nat.mul_assoc _ _ _;have a6:t*t*p=p*(t*t):=Nat.mul_comm _ _;have a7:3*p*(t*t)=p*(t*t)+p*(t*t)+p*(t*t):=by rw[show 3*p=p+p+p by omega,gO,gO]
    rw[a1,a2,a3,a4,a5,a6,a7];omega
   rw[e1];omega
  rw[cz k4,dr,aQ k4,eT (Br (by omega) σ),bS,eT (zy (by omega) (by omega) (by omega) σ),bS,show A.mul (.ah 3) (.ah (q:Int))=some (.ah ((3*q:Nat):Int))from akQ (a:=3) (by omega),bS,HK (by omega),bS,SE (by omega) (by omega),bS,eT (zy (by omega) (by omega) (by omega) σ),bS,pU,bS,eT (zy (by omega) (by omega) (by omega) σ),bS,qn,bS,rV,bS,qn,bS,rV,bS,pU,bS,pU,bS];exact⟨bP _ _,hm,q3p,by omega⟩
 rw[cD k4,cR,aP k4,jQ,bS];by_cases k5:c.kind=5
 ·rw[cz k5,dr,aQ k5,l8,bS,cz (by omega),dr,aQ hpq,show qW [.ah 0] σ=some (.agg (wd 0),σ)from Br (n:=0) (by omega) σ,bS];simp only;rw[show qW [.ah 1] σ=some (.agg (wd 1),σ)from Br (n:=1) (by omega) σ,bS];simp only;rw[qn,bS,rV,bS,qn,bS,rV,bS,pU,bS,pU,bS];exact⟨bP _ _,by omega,by omega,by omega⟩
 rw[cD k5,cR,aP k5,jQ,bS];by_cases k6:c.kind=6
 ·rw[cz k6,dr,aQ k6,show A.ak 1 (nS c)=some (sl 2 iJ c.bL)from rfl,bS];have hl:=apj hc k6;have LC:=hl.len;obtain⟨s1,s2,s3⟩:=abc (l:=c.bL) (p:=(p:Int)) (q:=(q:Int)) c.bL.length 0 (by omega) (by have:=hl.two;omega) (by rw[hl.fst];omega);generalize hI:oL c.bL (p:Int) (q:Int) c.bL.length 0=i at s1 s2 s3;obtain⟨a1,a2,a3,a4⟩:=hl.bd i (by omega);obtain⟨b1,b2,b3,b4⟩:=hl.bd (i+1) s1;obtain⟨o1,o2⟩:=hl.ord i s1;have exA:=DL (l:=c.bL) (i:=i) (by omega);have exB:=DL (l:=c.bL) (i:=i+1) s1;have eN:Vr c.bL (p:Int) (q:Int)=(c.bL.getD i fu).way*((c.bL.getD (i+1) fu).time-(c.bL.getD i fu).time)*(q:Int)+((c.bL.getD (i+1) fu).way-(c.bL.getD i fu).way)*(1000*(p:Int) -(c.bL.getD i fu).time*(q:Int)):=by unfold Vr;rw[hI]
  have eL:Vq c.bL (p:Int) (q:Int)=(c.bL.getD (i+1) fu).time-(c.bL.getD i fu).time:=by unfold Vq;rw[hI]
  have hbt:1000*(p:Int)≤(c.bL.getD (i+1) fu).time*(q:Int):=by
   rcases s3 with s3|s3
   ·omega
   ·have:=hl.lst;rw[show c.bL.length-1=i+1 by omega]at this;rw[this];omega
  rw[eN,eL];generalize hA:c.bL.getD i fu=pa at exA a1 a2 a3 a4 o1 o2 s2;generalize hB:c.bL.getD (i+1) fu=pb at exB b1 b2 b3 b4 o1 o2 hbt;obtain⟨T,hT⟩:∃T,T=pb.time-pa.time:=⟨_,rfl⟩
  obtain⟨D,hD⟩:∃D,D=pb.way-pa.way:=⟨_,rfl⟩
  have m1:=DW a1 a2 (show(0:Int)≤(q:Int) by omega) (show(q:Int)≤36000000 by omega);obtain⟨U,hU⟩:∃U,U=1000*(p:Int) -pa.time*(q:Int):=⟨_,rfl⟩
  have m2:=DW a3 a4 (show 0≤T by omega) (show T≤1000 by omega);have m3:=DW m2.1 m2.2 (show(0:Int)≤(q:Int) by omega) (show(q:Int)≤36000000 by omega);have m4:=DW (show 0≤D by omega) (show D≤1000 by omega) (show 0≤U by omega) (show U≤36000000000 by omega);have m5:=DW (show 0≤T by omega) (show T≤1000 by omega) (show(0:Int)≤(q:Int) by omega) (show(q:Int)≤36000000 by omega);have hUT:U≤T*(q:Int):=by rw[hT,Int.sub_mul];omega
  have m6:D*U≤D*(T*(q:Int)):=Int.mul_le_mul_of_nonneg_left hUT (by omega);have m7:pb.way*(T*(q:Int))≤1000*(T*(q:Int)):=Int.mul_le_mul_of_nonneg_right b4 m5.1;have m8:pa.way*T*(q:Int)+D*(T*(q:Int))=pb.way*(T*(q:Int)):=by rw[hD,Int.sub_mul,Int.mul_assoc];omega
  rw[←hT,←hD,←hU];have t1:0<T:=by omega
  have t2:0<T*(q:Int):=Int.mul_pos t1 (by omega);have sZ:(((1000*T).toNat*q:Nat):Int)=1000*(T*(q:Int)):=by rw[Int.natCast_mul,Int.toNat_of_nonneg (by omega),Int.mul_assoc]
  refine⟨C9 (Ih (amC hl (p:=(p:Int)) (q:=(q:Int)) (by omega) (by omega) (by omega) (by omega) σ) ?_),by show(_:Nat)≤_;omega,by show 0<(_:Nat);omega,by show(_:Nat)<_;omega⟩;rintro r rfl;simp only[oa,bW,cA];rw[hI,jG exA,bS,oD,bS,Fb,bS,show A.add (.ah (i:Int)) (.ah 1)=some (.ah ((i+1:Nat):Int))from DE (b:=1) (by omega),bS,jG exB,bS,oD,bS,Fb,bS,E7,bS,Fe _ _ rfl,bS,E7,bS,Fe _ _ rfl,bS];rw[show A.ak 0 (iJ pb)=some (.ah pb.time)from rfl,bS,show A.ak 0 (iJ pa)=some (.ah pa.time)from rfl,bS,sA,cL (by unfold aV;omega),←hT,bS,show A.ak 1 (iJ pa)=some (.ah pa.way)from rfl,bS,zI,cL (by unfold aV;omega),bS,zI,cL (by unfold aV;omega),bS,show A.ak 1 (iJ pb)=some (.ah pb.way)from rfl,bS,bS,sA,cL (by unfold aV;omega),←hD,bS,zI,cL (by unfold aV;omega),bS,bS,zI,cL (by unfold aV;omega),bS,sA,cL (by unfold aV;omega),←hU,bS,zI,cL (by unfold aV;omega),bS,mz,cL (by unfold aV;omega),bS]
  have of1:∀w,qW [.ah (pa.way*T*(q:Int)+D*U)] w=some (.agg (wd (pa.way*T*(q:Int)+D*U).toNat),w):=λw=>by have:=Br (n:=(pa.way*T*(q:Int)+D*U).toNat) (by omega) w;rwa[Int.toNat_of_nonneg (by omega)]at this
  have of2:∀w,qW [.ah (1000*T)] w=some (.agg (wd (1000*T).toNat),w):=λw=>by have:=Br (n:=(1000*T).toNat) (by omega) w;rwa[Int.toNat_of_nonneg (by omega)]at this
  rw[of1,bS,zI,cL (by unfold aV;omega),bS];simp only;rw[of2,bS];simp only;rw[zy (by omega) (by omega) (by omega),bS];simp only;rw[show A.lb (.lbx [(AV.int .u64 0),(AV.int .u64 0)])=some [(AV.int .u64 0),(AV.int .u64 0)]from rfl,bS,qn,bS,rV,bS,bS,qn,bS,rV,bS,pU,bS,pU,bS];exact⟨_,bP _ _,rfl⟩
 ·rw[cD k6,cR,aP k6,Br (by omega),bS,Br (by omega),bS,qn,bS,rV,bS,qn,bS,rV,bS,pU,bS,pU,bS];exact⟨bP _ _,by omega,by omega,by omega⟩
end
section
set_option maxRecDepth 100000
open HP
structure uO (f : jd) : Prop where
 a:0≤f.eo∧f.eo≤65535
 b:0≤f.to∧f.to≤65535
 s:0≤f.start∧f.start≤36000000
 d:0≤f.ct∧f.ct≤36000000
 t:0≤f.time∧f.time≤36000000
 e:f.start+f.ct+f.time≤36000000
 c:rq f.fB=0
noncomputable def GD (f:jd) (t:Int):Int:=
 if f.start+f.ct+f.time≤t then f.to
 else if t≤f.start+f.ct then f.eo
 else F7 f.eo f.to (p6 f.fB (t-(f.start+f.ct)).toNat f.time.toNat).1 (p6 f.fB (t-(f.start+f.ct)).toNat f.time.toNat).2
theorem Fk{s:List Sh}{ro:Sh}{r:AV→AV→Heap→aH}{x y z v v':AV}{σ:Heap}(h:[x,y].any A.own=false)(e1:A.cG s [x,y]=[x,y])(e2:A.nn ro v=v')(e:r x y σ=some (v,σ)):A.wrap true s ro (A.dI r) [x,y] σ=some (v',σ):=by refine wrap_eq h ?_ e2;rw[e1];exact e
theorem aqr{f:jd}(h:uO f)(t:Int)(σ:Heap):R9 [.agg (gR f),.ah t] σ=some (.ah (GD f t),σ):=by
 obtain⟨a1,a2⟩:=h.a;obtain⟨b1,b2⟩:=h.b;obtain⟨s1,s2⟩:=h.s;obtain⟨d1,d2⟩:=h.d;obtain⟨t1,t2⟩:=h.t;have he:=h.e;refine Fk (z:=.ah 0) rfl (kI (sL rfl) rfl) (jC _) ?_;unfold Y8 GD;rw[Fg,bS,Ny,bS,Sc,bS,mz,cL (by unfold aV;omega),bS,Y3,bS,mz,cL (by unfold aV;omega),bS,uc,bS];by_cases h1:f.start+f.ct+f.time≤t
 ·rw[cz h1,dr,aQ h1,Y2,bS];exact bP _ _
 rw[cD h1,cR,aP h1,KJ,bS];by_cases h2:t≤f.start+f.ct
 ·rw[cz h2,dr,aQ h2,Y1,bS];exact bP _ _
 rw[cD h2,cR,aP h2,agQ,bS,sA,cL (by unfold aV;omega),bS,bS];obtain⟨w,l1,l2,l3⟩:=adS h.c (p:=(t-(f.start+f.ct)).toNat) (q:=f.time.toNat) (by omega) (by omega) (by omega) σ;rw[Int.toNat_of_nonneg (by omega),Int.toNat_of_nonneg (by omega)]at w;rw[w,bS];simp only;generalize p6 f.fB (t-(f.start+f.ct)).toNat f.time.toNat=nd at l1 l2 l3 ⊢;rw[lW,bS,ext1,bS,qn,bS,rV,bS,qn,bS,rV,bS,Y1,bS,Y2,bS,pU,bS,pU,bS,amD a1 a2 b1 b2 l2 l1 l3,bS];exact bP _ _
end
section
set_option maxRecDepth 100000
open HP
theorem Fj{s:List Sh}{ro:Sh}{r:AV→Heap→aH}{x v v':AV}{σ:Heap}(h:[x].any A.own=false)(e1:A.cG s [x]=[x])(e2:A.nn ro v=v')(e:r x σ=some (v,σ)):A.wrap true s ro (A.dH r) [x] σ=some (v',σ):=by refine wrap_eq h ?_ e2;rw[e1];exact e
theorem GW{n lo hi:Int}(h1:lo≤n)(h2:n≤hi):bf n lo hi=true:=by unfold bf;exact cz ⟨h1,h2⟩
theorem sK(cs:au):A.aU (.rp cs)=some (.rp cs):=rfl
theorem mR(k:Nat)(cs:au):A.aF k (.rp cs)=some (.rp (cs.drop k)):=rfl
theorem ZQ{a b:Int}(h1:0≤a∧a≤65535)(h2:0≤b∧b≤65535):EX [a,b]=some 0:=by unfold EX;rw[DH (f:=λ_ n=>if(!(bf n 0 65535))=true then 1 else 0) (by show 2≤bg;decide) (λi x _=>by show(if _ then _ else _)=_;by_cases h:(!(bf x 0 65535))=true<;>simp only[h,if_true,if_false]<;>rfl)];simp only[jZ,GW h1.1 h1.2,GW h2.1 h2.2];rfl
theorem aoN{f:jd}(h:uO f):Ju f=some 0:=by obtain⟨s1,s2⟩:=h.s;obtain⟨d1,d2⟩:=h.d;obtain⟨t1,t2⟩:=h.t;have he:=h.e;unfold Ju;rw[ZQ h.a h.b,aX,aP (λq=>q rfl),GW s1 s2,GW d1 d2,GW t1 t2,show IntKind.i64.wrap (f.start+f.ct)=f.start+f.ct from cL (by unfold aV;omega),cL (by unfold aV;omega),GW (by omega) he,h.c];rfl
theorem apE{f:jd}(h:uO f){t:Int}(ht:0≤t)(ht2:t≤36000000)(σ:Heap):R8 [.agg (gR f),.ah t] σ=some (.aM [.ah (GD f t),.ah 0],σ):=by refine Fk (z:=.ah 0) rfl (kI (sL rfl) rfl) (jC _) ?_;unfold Y7;rw[Fg,bS,HS,bS,af9 (aoN h),bS];simp only;rw[JA (r:=true) (by unfold M6;rw[GW ht ht2]),bS];simp only;rw[asf,bS,wR,bS];simp only;rw[show((((A.cell (.ah 0)).bind λv=>some [v]).bind λc7=>(A.aq 0 c7 [(AV.ah 0),(AV.ah 0)]).bind λc8=>((A.cell (.ah (if false=true then 1 else 0))).bind λv=>some [v]).bind λc9=>(A.aq 1 c9 c8).bind λfL=>some fL).bind λcs=>some (AV.sl 1 (fI 1 2 cs)))=some (sl 1 nV [0,0])from rfl,bS,DG _ (by decide),bS];simp only;rw[show((List.find? (λn=>decide (¬n=0)) ([0,0]:List Int)).getD 0)=0 from rfl,adZ,bS,cD (λq=>q rfl),cR,bS,aqr h,bS];exact bP _ _
noncomputable def xV (r:cH) (c:Int):Int:=GD r.ia (if 36000000<c then 36000000 else c)
theorem Ki{r:cH}(h:uO r.ia){c:Int}(hc:0≤c)(σ:Heap):xZ [.agg (fU r),.ah c] σ=some (.ah (xV r c),σ):=by refine Fk (z:=.ah 0) rfl (kI (sL rfl) rfl) (jC _) ?_;unfold XC;rw[zn,bS,XV,bS,show A.min (.ah c) (.ah 36000000)=some (.ah (if 36000000<c then 36000000 else c))from rfl,bS,apE h (by split<;>omega) (by split<;>omega),bS,lW,bS,ext1,bS];exact bP _ _
def dL(c:B7)(t:Int):Int:=if c.jv=true then c.shown else IntKind.i64.wrap (IntKind.i64.wrap (c.shown+t) -c.since)
theorem Kz(c:B7)(t:Int)(σ:Heap):uF [.agg (wU c),.ah t] σ=some (.ah (dL c t),σ):=by
 refine OI rfl ?_;unfold XI dL;rw[Sw,bS,aip,bS];cases c.jv
 ·rw[cR,aP (by decide),YB,bS,mz,bS,aio,bS,sA,bS];exact bP _ _
 ·rw[dr,aQ rfl,YB,bS];exact bP _ _
def Vk(r:cH):Int:=IntKind.i64.wrap (IntKind.i64.wrap (r.ia.start+r.ia.ct)+r.ia.time)
theorem apP(r:cH)(σ:Heap):Q4 [.agg (fU r)] σ=some (.ah (Vk r),σ):=by refine Fj rfl (kI (sL rfl) rfl) (jC _) ?_;unfold XO;rw[zn,bS,ajy,bS,ajz,bS,mz,bS,ajA,bS,mz,bS];exact bP _ _
def gV(b:bn):Int:=if b.eA<0∨b.aI.jv=true then -1 else IntKind.i64.wrap (IntKind.i64.wrap (b.aI.since+b.eA) -b.aI.shown)
theorem adu(b:bn)(σ:Heap):zf [.rp (aN b)] σ=some (.ah (gV b),σ):=by
 refine Fj rfl rfl (jC _) ?_;unfold XB gV;rw[sK,bS,mR,bS,Ym,bS,l8,bS];by_cases hf:b.eA<0
 ·rw[cz hf];simp only[Bz,bS,nw];rw[dr,aQ (.inl hf)];exact bP _ _
 rw[cD hf];simp only[gF,bS,sK,mR,pM,List.drop_zero,ah6];cases hs:b.aI.jv
 ·rw[cR,aP (λq=>q.elim hf (λq=>by cases q))];simp only[ah5,show ∀(x:bn){σ:Heap},((A.deref (.rp (aN x)) σ).bind λc=>A.ak 0 c)=some (.ah x.aI.shown)from λ_ _=>rfl,Ym,bS,mz,sA];exact bP _ _
 ·rw[dr,aQ (.inr rfl)];exact bP _ _
end
section
set_option maxRecDepth 100000
open HP
theorem gU(X:Option AV)(w:Bool)(d:Option AV):A.guard (.aM []) w X d=d:=by have h:A.guard (.aM []) w X d=d:=rfl;exact h.trans (Eq.refl d)
theorem yJ(b:Bool):A.not (.bool b)=some (.bool (!b)):=rfl
section
variable {κ ν : Type} [DecidableEq κ] {ek : A.EK} {eK : κ → AV} {eV : ν → AV} {σ : Heap} {o : Option (List (κ × ν))}
theorem ai7(hq:∀a b,A.fM ek (eK a) (eK b)=some (decide (a=b)))(x:κ)(z:AV)(hok:A.lq ek (eK x)=true):A.Fv ek (pJ eK eV o) (eK x) z σ=some (.aM [((dM x (o.getD [])).map eV).getD z,.bool (dM x (o.getD [])).isSome]):=by
 cases o with
 |none=>simp only[A.Fv,pJ,hok,ck,A.entries,aX,Option.getD_none,dM];rfl
 |some l=>simp only[A.Fv,pJ,xM,hok,ck,A.entries,aX,DU hq,bZ,Option.getD_some,Option.isSome_map]
theorem alS(hq:∀a b,A.fM ek (eK a) (eK b)=some (decide (a=b)))(x:κ)(z:AV)(hok:A.lq ek (eK x)=true):A.look ek (pJ eK eV o) (eK x) z σ=some (((dM x (o.getD [])).map eV).getD z):=by
 cases o with
 |none=>simp only[A.look,pJ,hok,ck,A.entries,aX,Option.getD_none,dM];rfl
 |some l=>simp only[A.look,pJ,xM,hok,ck,A.entries,aX,DU hq,bZ,Option.getD_some]
end
def aqm:cH:=⟨⟨0,0,0,0,0,⟨0,[]⟩⟩,0,false⟩
def dU(b:bn)(k:aG)(c:Int):cH×Bool:=match dM k (b.runs.getD [])with
 |none=>(aqm,false)
 |some r=>(r,!(r.ending&&decide (Vk r≤c)))
abbrev pY:au:=[(AV.ah 0),(AV.ah 0),(AV.ah 0),(AV.ah 0),(AV.ah 0),(AV.ah 0),AV.az,(AV.ah 0),aO]
theorem Kv{ro:Sh}{r:AV→AV→AV→Heap→aH}{x y z v v':AV}{σ σ':Heap}(e2:A.nn ro v=v')(e:r x y z σ=some (v,σ')):A.wrap false [] ro (A.mU r) [x,y,z] σ=some (v',σ'):=by have:A.mU r [x,y,z] σ=some (v,σ'):=e;simp only[A.wrap,Bool.false_and,bE,A.cG,this,bZ,e2]
theorem SV{p q:AV}(b:bn)(k:aG)(c:Int)(σ:Heap)(h1:A.aU p=some p)(h2:A.aF 9 p=some q)(h3:((A.deref q σ).bind λc=>A.ak 0 c)=some (pJ (λx=>AV.agg (aT x)) (λx=>AV.agg (fU x)) b.runs)):oJ [p,.agg (aT k),.ah c] σ=some (.aM [.agg (fU (dU b k c).1),.bool (dU b k c).2],σ):=by
 suffices ∃v,A.nn (.t [(.a [.k,.k,.k,.k,.k,.k,(.s 2),.k,.k]),.k]) v=.aM [.agg (fU (dU b k c).1),.bool (dU b k c).2]∧Qv p (.agg (aT k)) (.ah c) σ=some (v,σ) by obtain⟨v,h1,h2⟩:=this;exact Kv h1 h2
 unfold Qv dU;rw[DJ,bS,h1,bS,h2,bS,h3,bS,qZ,bS,ai7 tL k _ rfl,bS,lW,bS,ext1,bS];cases dM k (b.runs.getD [])with
 |none=>refine⟨.aM [.agg pY,.bool false],rfl,?_⟩;simp only[Option.map_none,Option.getD_none,Option.isSome_none];rw[show A.cells 9 (.agg pY)=some pY from rfl,bS,show A.aq 0 pY pY=some pY from rfl,bS,show A.aB 0 9 pY=some (.agg pY)from rfl,bS];simp only[wA,gU,bS,pM,show A.cells 9 (.agg pY)=some pY from rfl,show A.aq 0 pY pY=some pY from rfl,show A.aB 0 9 pY=some (.agg pY)from rfl];exact bP _ _
 |some r=>
  refine⟨.aM [.agg (fU r),.bool (!(r.ending&&decide (Vk r≤c)))],rfl,?_⟩;simp only[bZ,Option.getD_some,Option.isSome_some];rw[zn,bS,BY _ _ rfl,bS,yj,bS];simp only[gT,bS,JR];cases he:r.ending
  ·simp only[wA,bS,pM,nw,yJ,zn,yj,BY r _ (show pY.length=9 from rfl)];exact bP _ _
  ·simp only[gT,bS,yj,eT (apP r σ),uc];simp only[bS,nw,yJ,zn,yj,BY r _ (show pY.length=9 from rfl)];exact bP _ _
theorem alH(b:bn)(k:aG)(c:Int)(σ:Heap):oJ [.rp (aN b),.agg (aT k),.ah c] σ=some (.aM [.agg (fU (dU b k c).1),.bool (dU b k c).2],σ):=SV b k c σ rfl rfl (Hw b)
def mn(a b:Int):Int:=if b<a then b else a
theorem VS(a b:Int):A.min (.ah a) (.ah b)=some (.ah (mn a b)):=rfl
def wj(f:jd):jd:={f with start:=mn f.start 36000000,ct:=mn f.ct (IntKind.i64.wrap (36000000-mn f.start 36000000)),time:=mn f.time (IntKind.i64.wrap (IntKind.i64.wrap (36000000-mn f.start 36000000) -mn f.ct (IntKind.i64.wrap (36000000-mn f.start 36000000))))}
abbrev Cg:au:=[(AV.ah 0),(AV.ah 0),(AV.ah 0),(AV.ah 0),(AV.ah 0),(AV.ah 0),AV.az]
theorem rX(n:Int):((A.cell (.ah n)).bind λv=>some [v])=some [.ah n]:=rfl
theorem aqj(f:jd)(n:Int):A.aq 2 [.ah n] (gR f)=some (gR {f with start:=n}):=rfl
theorem adM(f:jd)(n:Int):A.aq 3 [.ah n] (gR f)=some (gR {f with ct:=n}):=rfl
theorem KG(f:jd)(n:Int):A.aq 4 [.ah n] (gR f)=some (gR {f with time:=n}):=rfl
theorem T6(f:jd)(σ:Heap):yc [.agg (gR f)] σ=some (.agg (gR (wj f)),σ):=by refine Fj rfl (kI (sL rfl) rfl) (v:=.agg (gR (wj f))) rfl ?_;unfold Y9 wj;rw[Fg,bS,Ny,bS,VS,bS,rX,bS,aqj,bS,Sc,bS,Ny,bS,sA,bS,VS,bS,rX,bS,adM,bS,Y3,bS,Ny,bS,sA,bS,Sc,bS,sA,bS,VS,bS,rX,bS,KG,bS,HS,bS,Fg,bS,Of _ _ rfl,bS,HS,bS];exact bP _ _
end
section
set_option maxRecDepth 100000
open HP
def BN(a b:Int):Int:=(2*(a*b)+65535) / 131070
theorem amw{a b:Int}(h1:0≤a∧a≤65535)(h2:0≤b∧b≤65535):JE a b=some (BN a b,0):=by
 have m:=DW h1.1 h1.2 h2.1 h2.2;unfold JE;rw[ZQ h1 h2,aX,aP (λq=>q rfl)];unfold JH JG BN;rw[show IntKind.i64.wrap (a*b)=a*b from cL (by unfold aV;omega),show IntKind.i64.wrap (2*(a*b))=2*(a*b)from cL (by unfold aV;omega),show IntKind.i64.wrap (2*(a*b)+65535)=2*(a*b)+65535 from cL (by unfold aV;omega),show IntKind.i64.wrap (2*65535)=131070 from cL (by unfold aV;omega)]
 have q1:Ln (2*(a*b)+65535) 131070=some ((2*(a*b)+65535) / 131070):=by unfold Ln;rw[aP (by decide),Int.tdiv_eq_ediv_of_nonneg (by omega),cL (by unfold aV;omega)]
 have q2:Lo (2*(a*b)+65535) 131070=some ((2*(a*b)+65535) % 131070):=by unfold Lo;rw[aP (by decide),Int.tmod_eq_emod_of_nonneg (by omega)]
 rw[q1,aX,q2,aX,aP (by omega)];rfl
theorem abY{a b:Int}(h1:0≤a∧a≤65535)(h2:0≤b∧b≤65535)(σ:Heap):EY [.ah a,.ah b] σ=some (.aM [.ah (BN a b),.ah 0],σ):=ahb (amw h1 h2)
theorem apr{a b:Int}(h1:0≤a∧a≤65535)(h2:0≤b∧b≤65535):0≤BN a b∧BN a b≤65535:=by have m:=DW h1.1 h1.2 h2.1 h2.2;unfold BN;omega
theorem aos{a b:Int}(ha:0≤a∧a≤65535)(hb:0≤b∧b≤65535){n d:Nat}(hnd:n≤d)(hd:0<d):0≤F7 a b n d∧F7 a b n d≤65535:=by
 unfold F7
 have key:∀m:Nat,(2*m*n+d) / (2*d)≤m:=λm=>by
  refine Nat.le_of_lt_succ ((Nat.div_lt_iff_lt_mul (by omega)).2 ?_);have:m*n≤m*d:=Nat.mul_le_mul_left _ hnd;have e1:2*m*n=2*(m*n):=Nat.mul_assoc _ _ _;have e2:(m+1)*(2*d)=2*(m*d)+2*d:=by rw[gO,Nat.mul_left_comm];omega
  rw[e1,e2];omega
 split
 ·have:=key (b-a).toNat;generalize (2*(b-a).toNat*n+d) / (2*d)=q at this ⊢;omega
 ·have k:=key (a-b).toNat;have:(2*(a-b).toNat*n+d-1) / (2*d)≤(2*(a-b).toNat*n+d) / (2*d):=Nat.div_le_div_right (by omega);generalize (2*(a-b).toNat*n+d) / (2*d)=q at this k;generalize (2*(a-b).toNat*n+d-1) / (2*d)=q' at this ⊢;omega
theorem ao7{f:jd}(h:uO f)(t:Int):0≤GD f t∧GD f t≤65535:=by
 obtain⟨a1,a2⟩:=h.a;obtain⟨b1,b2⟩:=h.b;obtain⟨s1,s2⟩:=h.s;obtain⟨d1,d2⟩:=h.d;obtain⟨t1,t2⟩:=h.t;have he:=h.e;unfold GD;split
 ·exact⟨b1,b2⟩
 split
 ·exact⟨a1,a2⟩
 obtain⟨_,l1,l2,_⟩:=adS h.c (p:=(t-(f.start+f.ct)).toNat) (q:=f.time.toNat) (by omega) (by omega) (by omega) [];exact aos ⟨a1,a2⟩ ⟨b1,b2⟩ l1 l2
theorem Ij{r:cH}(h:uO r.ia)(c:Int):0≤xV r c∧xV r c≤65535:=ao7 h _
structure uS (b : bn) (t : Int) : Prop where
 runs:∀k r,dM k (b.runs.getD [])=some r→uO r.ia
 iK:0≤b.iK∧b.iK≤65535
 sX:0≤dL b.aI t
def gC(d:bV)(k:aG):Int×Int×Bool:=match dM k (d.params.getD [])with
 |none=>(0,0,false)
 |some p=>(p.group,p.default,p.snap)
abbrev FF:au:=[bA,(AV.ah 0),(AV.ah 0),(AV.ah 0),(AV.ah 0),aO,AV.az]
def lQ(d:bV)(k:aG):au:=match dM k (d.params.getD [])with
 |none=>FF
 |some p=>gA p
theorem aaQ(d:bV)(k:aG)(σ:Heap):A.look (.s [0,2]) (pJ (λx=>AV.agg (aT x)) (λx=>AV.agg (gA x)) d.params) (.agg (aT k)) (.agg FF) σ=some (.agg (lQ d k)):=by rw[alS tL k _ rfl];unfold lQ;cases dM k (d.params.getD [])<;>rfl
theorem Ia(d:bV)(k:aG):A.cells 7 (.agg (lQ d k))=some (lQ d k):=by unfold lQ;cases dM k (d.params.getD [])<;>rfl
theorem ac1(d:bV)(k:aG):A.aq 0 (lQ d k) FF=some (lQ d k):=by
 unfold lQ;cases dM k (d.params.getD [])
 ·rfl
 ·exact NT _ _ rfl
theorem Cd(d:bV)(k:aG):A.ak 1 (lQ d k)=some (.ah (gC d k).1):=by unfold lQ gC;cases dM k (d.params.getD [])<;>rfl
theorem apg(d:bV)(k:aG):A.ak 4 (lQ d k)=some (.ah (gC d k).2.1):=by unfold lQ gC;cases dM k (d.params.getD [])<;>rfl
theorem aph(d:bV)(k:aG):A.ak 5 (lQ d k)=some (.bool (gC d k).2.2):=by unfold lQ gC;cases dM k (d.params.getD [])<;>rfl
structure Gc where
 out:Int
 owner:Int
 pri:Int
 mP:Int
noncomputable def IM (g:Int) (b:bn) (r:cH) (c:Int):Int:=if g=1 then BN (xV r c) b.iK else xV r c
noncomputable def tN (g:Int) (k:aG) (t:Int) (s:Gc) (b:bn):Gc:=
 if(dU b k (dL b.aI t)).2=false∨b.kH<s.pri then s
 else if s.pri<b.kH∨(g=1∧s.out<IM g b (dU b k (dL b.aI t)).1 (dL b.aI t))∨(¬g=1∧s.mP<(dU b k (dL b.aI t)).1.mP)then⟨IM g b (dU b k (dL b.aI t)).1 (dL b.aI t),b.aC,b.kH,(dU b k (dL b.aI t)).1.mP⟩
 else s
noncomputable def vB (d:bV) (bs:List bn) (k:aG) (t:Int):Gc:=bs.foldl (tN (gC d k).1 k t) ⟨(gC d k).2.1,0,-1,0⟩
theorem ji(cs:au):A.lb (.lbx cs)=some cs:=rfl
theorem B9{b:bn}{t:Int}(h:uS b t){k:aG}(hd:(dU b k (dL b.aI t)).2=true):uO (dU b k (dL b.aI t)).1.ia:=by
 have h:=h.runs k;revert hd h;unfold dU;generalize dM k (b.runs.getD [])=o;cases o with
 |none=>intro hd;cases hd
 |some r=>intro _ h;exact h r rfl
theorem alz(b:bn)(σ:Heap):((A.deref (.rp ((aN b).drop 0)) σ).bind λc=>A.aB 0 3 c)=some (.agg (wU b.aI)):=rfl
theorem ail{d:bV}{s:cQ}{k:aG}{t:Int}(hs:s.aD.length≤bg){i:Nat}{b:bn}(hb:s.aD[i]? =some b)(ho:uS b t)(m:Gc)(σ:Heap):((λbu mX=>
   (A.lss (aj bu 6) (AV.ah (s.aD.length:Int))).bind λeC=>
   A.cond eC (
    (A.aU (AV.rp (uP s))).bind λep=>
    (A.aF 0 ep).bind λcN=>
    ((A.deref cN mX).bind λiU=>A.ak 0 iU).bind λfC=>
    (A.aY 10 fC (aj bu 6)).bind λx24=>
    (A.aU x24).bind λx25=>
    (A.aF 0 x25).bind λgh=>
    ((A.deref gh mX).bind λko=>A.aB 0 3 ko).bind λx28=>
    (uF [x28,(AV.ah t)] mX).bind λi6=>
    ((A.lb (aj bu 0)).bind λvi=>A.aB 0 2 vi).bind λx31=>
    (oJ [x24,x31,i6.1] i6.2).bind λr32=>
    (A.ext 0 r32.1).bind λeW=>
    (A.ext 1 r32.1).bind λx34=>
    (A.cells 9 eW).bind λgr=>
    (A.aq 0 gr [(AV.ah 0),(AV.ah 0),(AV.ah 0),(AV.ah 0),(AV.ah 0),(AV.ah 0),AV.az,(AV.ah 0),aO]).bind λjJ=>
    (A.not x34).bind λcK=>
    (A.guard cK false (some x24) ay).bind λx38=>
    (A.guard cK false (A.aU x38) ay).bind λgj=>
    (A.guard cK false (A.aF 4 gj) ay).bind λdV=>
    (A.guard cK false ((A.deref dV r32.2).bind λpE=>A.ak 0 pE) ay).bind λgz=>
    (A.guard cK false (some (aj bu 4)) ay).bind λfk=>
    (A.guard cK false (A.lss gz fk) ay).bind λeY=>
    (A.pick cK dR eY).bind λfO=>
    A.cond fO (
     (A.add (aj bu 6) (AV.ah 1)).bind λgP=>
     some (AX.normal,[(aj bu 0),(aj bu 1),(aj bu 2),(aj bu 3),(aj bu 4),(aj bu 5),gP],r32.2)) (
     (A.aB 0 9 jJ).bind λkr=>
     (xZ [kr,i6.1] r32.2).bind λmJ=>
     ((A.lb (aj bu 1)).bind λ_=>some (1)).bind λL7=>
     ((A.lb (aj bu 1)).bind λqJ=>A.ak L7 qJ).bind λjD=>
     (A.eql .i jD (AV.ah 1)).bind λeP=>
     (A.cond eP (
      (A.aU x24).bind λgL=>
      (A.aF 7 gL).bind λjU=>
      ((A.deref jU mJ.2).bind λsR=>A.ak 0 sR).bind λmq=>
      (EY [mJ.1,mq] mJ.2).bind λAz=>
      (A.ext 0 Az.1).bind λfK=>
      (A.ext 1 Az.1).bind λjE=>
      some ([(aj bu 0),(aj bu 1),(AV.lbx jJ),fK],Az.2)) (
      some ([(aj bu 0),(aj bu 1),(AV.lbx jJ),mJ.1],mJ.2))).bind λdc=>
     (A.aU x24).bind λjF=>
     (A.aF 4 jF).bind λfc=>
     ((A.deref fc dc.2).bind λqL=>A.ak 0 qL).bind λku=>
     (A.gtr ku (aj bu 4)).bind λiH=>
     ((A.lb (aj dc.1 1)).bind λ_=>some (1)).bind λL8=>
          (A.guard iH false ((A.lb (aj dc.1 1)).bind λAl=>A.ak L8 Al) ay).bind λiI=>
     (A.guard iH false (A.eql .i iI (AV.ah 1)) ay).bind λgX=>
     (A.guard iH false (some gX) ay).bind λgM=>
     (A.guard gM true (some (aj dc.1 3)) ay).bind λmM=>
     (A.guard gM true (some (aj bu 2)) ay).bind λnB=>
     (A.guard gM true (A.gtr mM nB) ay).bind λiz=>
     (A.guard iH false (A.pick gM iz aO) ay).bind λjr=>
     (A.pick iH dR jr).bind λfP=>
     ((A.lb (aj dc.1 1)).bind λ_=>some (1)).bind λGJ=>
          (A.guard fP false ((A.lb (aj dc.1 1)).bind λnY=>A.ak GJ nY) ay).bind λkR=>
     (A.guard fP false (A.neq .i kR (AV.ah 1)) ay).bind λkE=>
     (A.guard fP false (some kE) ay).bind λgm=>
     ((A.lb (aj dc.1 2)).bind λ_=>some (7)).bind λL9=>
          (A.guard gm true ((A.lb (aj dc.1 2)).bind λnu=>A.ak L9 nu) ay).bind λnN=>
     (A.guard gm true (some (aj bu 5)) ay).bind λAL=>
     (A.guard gm true (A.gtr nN AL) ay).bind λkF=>
     (A.guard fP false (A.pick gm kF aO) ay).bind λlH=>
     (A.pick fP dR lH).bind λpP=>
     (A.cond pP (
      (A.aU x24).bind λDt=>
      (A.aF 3 Dt).bind λx90=>
      ((A.deref x90 dc.2).bind λxK=>A.ak 0 xK).bind λnE=>
      (A.aU x24).bind λx93=>
      (A.aF 4 x93).bind λuD=>
      ((A.deref uD dc.2).bind λlC=>A.ak 0 lC).bind λx96=>
      ((A.lb (aj dc.1 2)).bind λ_=>some (7)).bind λAw=>
      ((A.lb (aj dc.1 2)).bind λn9=>A.ak Aw n9).bind λx99=>
      some ([(aj dc.1 0),(aj dc.1 1),(aj dc.1 3),nE,x96,x99],dc.2)) (
      some ([(aj dc.1 0),(aj dc.1 1),(aj bu 2),(aj bu 3),(aj bu 4),(aj bu 5)],dc.2))).bind λoq=>
     (A.add (aj bu 6) (AV.ah 1)).bind λqB=>
     some (AX.normal,[(aj oq.1 0),(aj oq.1 1),(aj oq.1 2),(aj oq.1 3),(aj oq.1 4),(aj oq.1 5),qB],oq.2))) (
    some (AX.exit 0,[(aj bu 0),(aj bu 1),(aj bu 2),(aj bu 3),(aj bu 4),(aj bu 5),(aj bu 6)],mX)))) [.lbx (aT k),.lbx (lQ d k),.ah m.out,.ah m.owner,.ah m.pri,.ah m.mP,.ah (i:Int)] σ=some (.normal,[.lbx (aT k),.lbx (lQ d k),.ah (tN (gC d k).1 k t m b).out,.ah (tN (gC d k).1 k t m b).owner,.ah (tN (gC d k).1 k t m b).pri,.ah (tN (gC d k).1 k t m b).mP,.ah ((i+1:Nat):Int)],σ):=by
 simp only[bW,cA];rw[kU hb,bS,dr,sK,bS,mR,bS,Yp,bS,jG hb,bS,sK,bS,mR,bS,alz,bS,Kz,bS];simp only;rw[ji,bS,qZ,bS,alH,bS];simp only;rw[lW,bS,ext1,bS,zn,bS,BY _ _ rfl,bS,yJ,bS];unfold tN;cases hd:(dU b k (dL b.aI t)).2
 ·rw[aQ (.inl rfl)];simp only[Bool.not_false,Bz,bS,nw];rw[dr,gY hb hs,bS]
 have hok:=B9 ho hd;have hbd:=Ij hok (dL b.aI t);simp only[Bool.not_true,gF,bS,sK,mR,JI,l8,pM];by_cases hp:b.kH<m.pri
 ·rw[cz hp,dr,gY hb hs,bS,aQ (.inr hp)]
 rw[cD hp,cR,aP (λq=>q.elim (λq=>by cases q) hp),yj,bS,Ki hok ho.sX,bS];simp only;rw[ji,bS,bS,bS,Cd,bS,jQ,bS];generalize hr:(dU b k (dL b.aI t)).1=r at hok hbd ⊢;generalize hg:(gC d k).1=g;unfold IM;by_cases h1:g=1
 ·rw[cz h1,dr];simp only[sK,bS,mR,ah7,abY hbd ho.iK,lW,ext1,aQ h1];generalize BN (xV r (dL b.aI t)) b.iK=n;by_cases h2:m.pri<b.kH
  ·simp only[cz h2,Iy,Bz,gU,bS,nw,ji,bW,cA,cT,sK,mR,Nf,JI,HE,aQ (Or.inl h2),gY hb hs]
  simp only[cD h2,Iy,gF,gT,bS,pM,nw,ji,Cd,hg,jQ,cz h1,bW,cA];by_cases h3:m.out<n
  ·have hc:m.pri<b.kH∨(g=1∧m.out<n)∨(¬g=1∧m.mP<r.mP):=.inr (.inl ⟨h1,h3⟩);simp only[cz h3,Bz,gU,bS,nw,cT,sK,mR,Nf,JI,ji,HE,aQ hc,gY hb hs,bW,cA]
  ·have hc:¬(m.pri<b.kH∨(g=1∧m.out<n)∨(¬g=1∧m.mP<r.mP)):=λq=>q.elim h2 λq=>q.elim (λq=>h3 q.2) λq=>q.1 h1
   simp only[cD h3,gF,wA,gU,bS,pM,cF,ji,Cd,hg,ij,decide_not,cz h1,Bool.not_true,aP hc,gY hb hs,bW,cA]
 ·rw[cD h1,cR];simp only[sK,bS,mR,aP h1];generalize xV r (dL b.aI t)=n;by_cases h2:m.pri<b.kH
  ·simp only[cz h2,Iy,Bz,gU,bS,nw,ji,bW,cA,cT,sK,mR,Nf,JI,HE,aQ (Or.inl h2),gY hb hs]
  simp only[cD h2,Iy,gF,wA,gU,bS,pM,ji,Cd,hg,jQ,ij,decide_not,cD h1,Bool.not_false,gT,bW,cA,HE];by_cases h4:m.mP<r.mP
  ·have hc:m.pri<b.kH∨(g=1∧m.out<n)∨(¬g=1∧m.mP<r.mP):=.inr (.inr ⟨h1,h4⟩);simp only[cz h4,nw,bS,cT,sK,mR,Nf,JI,ji,HE,aQ hc,gY hb hs,bW,cA]
  ·have hc:¬(m.pri<b.kH∨(g=1∧m.out<n)∨(¬g=1∧m.mP<r.mP)):=λq=>q.elim h2 λq=>q.elim (λq=>h1 q.1) λq=>h4 q.2
   simp only[cD h4,nw,bS,cF,aP hc,gY hb hs,bW,cA]
theorem aik{d:bV}{s:cQ}{k:aG}{t:Int}(hs:s.aD.length≤bg)(ho:∀b∈s.aD,uS b t)(m:Gc)(σ:Heap):∃q,A.loop ((λbu mX=>
   (A.lss (aj bu 6) (AV.ah (s.aD.length:Int))).bind λeC=>
   A.cond eC (
    (A.aU (AV.rp (uP s))).bind λep=>
    (A.aF 0 ep).bind λcN=>
    ((A.deref cN mX).bind λiU=>A.ak 0 iU).bind λfC=>
    (A.aY 10 fC (aj bu 6)).bind λx24=>
    (A.aU x24).bind λx25=>
    (A.aF 0 x25).bind λgh=>
    ((A.deref gh mX).bind λko=>A.aB 0 3 ko).bind λx28=>
    (uF [x28,(AV.ah t)] mX).bind λi6=>
    ((A.lb (aj bu 0)).bind λvi=>A.aB 0 2 vi).bind λx31=>
    (oJ [x24,x31,i6.1] i6.2).bind λr32=>
    (A.ext 0 r32.1).bind λeW=>
    (A.ext 1 r32.1).bind λx34=>
    (A.cells 9 eW).bind λgr=>
    (A.aq 0 gr [(AV.ah 0),(AV.ah 0),(AV.ah 0),(AV.ah 0),(AV.ah 0),(AV.ah 0),AV.az,(AV.ah 0),aO]).bind λjJ=>
    (A.not x34).bind λcK=>
    (A.guard cK false (some x24) ay).bind λx38=>
    (A.guard cK false (A.aU x38) ay).bind λgj=>
    (A.guard cK false (A.aF 4 gj) ay).bind λdV=>
    (A.guard cK false ((A.deref dV r32.2).bind λpE=>A.ak 0 pE) ay).bind λgz=>
    (A.guard cK false (some (aj bu 4)) ay).bind λfk=>
    (A.guard cK false (A.lss gz fk) ay).bind λeY=>
    (A.pick cK dR eY).bind λfO=>
    A.cond fO (
     (A.add (aj bu 6) (AV.ah 1)).bind λgP=>
     some (AX.normal,[(aj bu 0),(aj bu 1),(aj bu 2),(aj bu 3),(aj bu 4),(aj bu 5),gP],r32.2)) (
     (A.aB 0 9 jJ).bind λkr=>
     (xZ [kr,i6.1] r32.2).bind λmJ=>
     ((A.lb (aj bu 1)).bind λ_=>some (1)).bind λL7=>
     ((A.lb (aj bu 1)).bind λqJ=>A.ak L7 qJ).bind λjD=>
     (A.eql .i jD (AV.ah 1)).bind λeP=>
     (A.cond eP (
      (A.aU x24).bind λgL=>
      (A.aF 7 gL).bind λjU=>
      ((A.deref jU mJ.2).bind λsR=>A.ak 0 sR).bind λmq=>
      (EY [mJ.1,mq] mJ.2).bind λAz=>
      (A.ext 0 Az.1).bind λfK=>
      (A.ext 1 Az.1).bind λjE=>
      some ([(aj bu 0),(aj bu 1),(AV.lbx jJ),fK],Az.2)) (
      some ([(aj bu 0),(aj bu 1),(AV.lbx jJ),mJ.1],mJ.2))).bind λdc=>
     (A.aU x24).bind λjF=>
     (A.aF 4 jF).bind λfc=>
     ((A.deref fc dc.2).bind λqL=>A.ak 0 qL).bind λku=>
     (A.gtr ku (aj bu 4)).bind λiH=>
     ((A.lb (aj dc.1 1)).bind λ_=>some (1)).bind λL8=>
          (A.guard iH false ((A.lb (aj dc.1 1)).bind λAl=>A.ak L8 Al) ay).bind λiI=>
     (A.guard iH false (A.eql .i iI (AV.ah 1)) ay).bind λgX=>
     (A.guard iH false (some gX) ay).bind λgM=>
     (A.guard gM true (some (aj dc.1 3)) ay).bind λmM=>
     (A.guard gM true (some (aj bu 2)) ay).bind λnB=>
     (A.guard gM true (A.gtr mM nB) ay).bind λiz=>
     (A.guard iH false (A.pick gM iz aO) ay).bind λjr=>
     (A.pick iH dR jr).bind λfP=>
     ((A.lb (aj dc.1 1)).bind λ_=>some (1)).bind λGJ=>
          (A.guard fP false ((A.lb (aj dc.1 1)).bind λnY=>A.ak GJ nY) ay).bind λkR=>
     (A.guard fP false (A.neq .i kR (AV.ah 1)) ay).bind λkE=>
     (A.guard fP false (some kE) ay).bind λgm=>
     ((A.lb (aj dc.1 2)).bind λ_=>some (7)).bind λL9=>
          (A.guard gm true ((A.lb (aj dc.1 2)).bind λnu=>A.ak L9 nu) ay).bind λnN=>
     (A.guard gm true (some (aj bu 5)) ay).bind λAL=>
     (A.guard gm true (A.gtr nN AL) ay).bind λkF=>
     (A.guard fP false (A.pick gm kF aO) ay).bind λlH=>
     (A.pick fP dR lH).bind λpP=>
     (A.cond pP (
      (A.aU x24).bind λDt=>
      (A.aF 3 Dt).bind λx90=>
      ((A.deref x90 dc.2).bind λxK=>A.ak 0 xK).bind λnE=>
      (A.aU x24).bind λx93=>
      (A.aF 4 x93).bind λuD=>
      ((A.deref uD dc.2).bind λlC=>A.ak 0 lC).bind λx96=>
      ((A.lb (aj dc.1 2)).bind λ_=>some (7)).bind λAw=>
      ((A.lb (aj dc.1 2)).bind λn9=>A.ak Aw n9).bind λx99=>
      some ([(aj dc.1 0),(aj dc.1 1),(aj dc.1 3),nE,x96,x99],dc.2)) (
      some ([(aj dc.1 0),(aj dc.1 1),(aj bu 2),(aj bu 3),(aj bu 4),(aj bu 5)],dc.2))).bind λoq=>
     (A.add (aj bu 6) (AV.ah 1)).bind λqB=>
     some (AX.normal,[(aj oq.1 0),(aj oq.1 1),(aj oq.1 2),(aj oq.1 3),(aj oq.1 4),(aj oq.1 5),qB],oq.2))) (
    some (AX.exit 0,[(aj bu 0),(aj bu 1),(aj bu 2),(aj bu 3),(aj bu 4),(aj bu 5),(aj bu 6)],mX)))) [.lbx (aT k),.lbx (lQ d k),.ah m.out,.ah m.owner,.ah m.pri,.ah m.mP,.ah 0] σ=some q∧∃u,q=(.exit 0,[.lbx (aT k),.lbx (lQ d k),.ah (s.aD.foldl (tN (gC d k).1 k t) m).out,.ah (s.aD.foldl (tN (gC d k).1 k t) m).owner,.ah (s.aD.foldl (tN (gC d k).1 k t) m).pri,.ah (s.aD.foldl (tN (gC d k).1 k t) m).mP,u],σ):=by
 refine ou (λz v w=>∃(i:Nat)(x:Gc),v=[.lbx (aT k),.lbx (lQ d k),.ah x.out,.ah x.owner,.ah x.pri,.ah x.mP,.ah (i:Int)]∧w=σ∧z=s.aD.length-i∧i≤s.aD.length∧(s.aD.drop i).foldl (tN (gC d k).1 k t) x=s.aD.foldl (tN (gC d k).1 k t) m) ?_ (n:=s.aD.length) ⟨0,m,rfl,rfl,rfl,kY _,rfl⟩;rintro z v w ⟨i,x,rfl,rfl,hz,hi,hT⟩;by_cases h:i<s.aD.length
 ·have hb:s.aD[i]? =some s.aD[i]:=bT h;refine .inl ⟨s.aD.length-(i+1),_,_,by omega,ail hs hb (ho _ (List.getElem_mem h)) x w,i+1,tN (gC d k).1 k t x s.aD[i],rfl,rfl,rfl,by omega,?_⟩;rw[List.drop_eq_getElem_cons h]at hT;exact hT
 ·have:i=s.aD.length:=by omega
  subst this;rw[List.drop_length]at hT;simp only[List.foldl_nil]at hT;subst hT;simp only[bW,cA];rw[kS,bS,cR];exact .inr ⟨_,rfl,by simp,_,rfl⟩
theorem abh{s:List Sh}{ro:Sh}{r:AV→AV→AV→AV→Heap→aH}{x y z u v v':AV}{σ:Heap}(h:[x,y,z,u].any A.own=false)(e1:A.cG s [x,y,z,u]=[x,y,z,u])(e2:A.nn ro v=v')(e:r x y z u σ=some (v,σ)):A.wrap true s ro (A.vg r) [x,y,z,u] σ=some (v',σ):=by refine wrap_eq h ?_ e2;rw[e1];exact e
theorem aaU{d:bV}{s:cQ}{k:aG}{t:Int}(hs:s.aD.length≤bg)(ho:∀b∈s.aD,uS b t)(σ:Heap):Dx [.rp (tT d),.rp (uP s),.agg (aT k),.ah t] σ=some (.aM [.ah (vB d s.aD k t).out,.ah (vB d s.aD k t).owner],σ):=by refine abh rfl rfl (jC _) ?_;unfold Xp;rw[DJ,bS,sK,bS,mR,bS,Yn,bS,qZ,bS,aaQ,bS,Ia,bS,ac1,bS,apg,bS,sK,bS,mR,bS,Yp,bS,gH,bS];refine C9 (Ih (aik (d:=d) hs ho ⟨(gC d k).2.1,0,-1,0⟩ σ) ?_);rintro q ⟨u,rfl⟩;simp only[oa,bW,cA];exact⟨_,bP _ _,rfl⟩
end
section
set_option maxRecDepth 100000
open HP
def su(l:List fR):Int:=match l.getLast? with
 |none=>0
 |some a=>a.time
theorem acd(d:bV)(hl:d.cC.length≤bg)(σ:Heap):qV [.rp (tT d)] σ=some (.ah (su d.cC),σ):=by
 refine Fj rfl rfl (jC _) ?_;unfold Xz su;rw[sK,bS,mR,bS,Yo,bS,gH,bS,jQ,bS];by_cases h:d.cC.length=0
 ·rw[cz (by omega),dr,xh h];exact bP _ _
 ·have hx:d.cC[d.cC.length-1]? =some (d.cC[d.cC.length-1]'(by omega)):=bT _
  rw[cD (by omega),cR];simp only[sK,mR,bS,Yo,gH];rw[sA,cL (by unfold aV;unfold bg at hl;omega),bS,show((d.cC.length:Int) -1)=((d.cC.length-1:Nat):Int) by omega,jG hx,bS,mR,bS,List.getLast?_eq_getElem?,hx]
  exact(congrArg (Option.bind · λx=>A.fin σ x σ) (show((A.deref (.rp ((cg (d.cC[d.cC.length-1]'(by omega))).drop 0)) σ).bind λc=>A.ak 0 c)=some (.ah (d.cC[d.cC.length-1]'(by omega)).time)from rfl)).trans (bP _ _)
def vV(l:List fR)(t:Int):Int:=if bf t 0 36000000=true then(if decide (t<su l)=true then 7 else 0)else 1
theorem aaL(t:Int)(σ:Heap):JD [.ah t] σ=some (.bool (bf t 0 36000000),σ):=by refine Fj rfl rfl (jC _) ?_;unfold XW;rw[lZ,bS];exact bP _ _
theorem aes(a b:Int):(((((A.cell (.ah a)).bind λv=>some [v]).bind λc7=>(A.aq 0 c7 [(AV.ah 0),(AV.ah 0)]).bind λc8=>((A.cell (.ah b)).bind λv=>some [v]).bind λc9=>(A.aq 1 c9 c8).bind λfL=>some fL).bind λcs=>some (AV.sl 1 (fI 1 2 cs))))=some (sl 1 nV [a,b]):=rfl
theorem apu(d:bV)(hl:d.cC.length≤bg)(t:Int)(σ:Heap):EU [.rp (tT d),.ah t] σ=some (.ah (vV d.cC t),σ):=by refine Fk (z:=.az) rfl rfl (jC _) ?_;unfold XA vV;rw[aaL,bS];simp only;rw[yJ,bS,wR,bS];simp only;rw[acd d hl,bS];simp only;rw[l8,bS,wR,bS];simp only;generalize bf t 0 36000000=w;generalize decide (t<su d.cC)=e;rw[aes,bS,DG _ (by show 2≤bg;decide),bS];cases w<;>cases e<;>exact bP _ _
theorem anv{d:bV}{s:cQ}{k:aG}{t:Int}(hs:s.aD.length≤bg)(ho:∀b∈s.aD,uS b t)(hg:0≤s.oN∧s.oN≤65535)(hm:(gC d k).1=1→0≤(vB d s.aD k t).out∧(vB d s.aD k t).out≤65535)(σ:Heap):ET [.rp (tT d),.rp (uP s),.agg (aT k),.ah t] σ=some (.ah (if ¬(gC d k).1=1 then(vB d s.aD k t).out else if s.black=true then 0 else BN (vB d s.aD k t).out s.oN),σ):=by
 refine abh rfl rfl (jC _) ?_;unfold Xw;rw[DJ,bS,qZ,bS,aaU hs ho,bS];simp only;rw[lW,bS,ext1,bS,sK,bS,mR,bS,Yn,bS,bS,aaQ,bS,Ia,bS,Cd,bS,ij,bS];by_cases h1:(gC d k).1=1
 ·rw[cD (λq=>q h1),cR,sK,bS,mR,bS,ah9,bS,aP (λq=>q h1)];cases s.black
  ·rw[cR,bS,mR,bS,ah8,bS,abY (hm h1) hg,bS];simp only;rw[lW,bS,ext1,bS];exact bP _ _
  ·rw[dr];exact bP _ _
 ·rw[cz h1,dr,aQ h1];exact bP _ _
end
section
set_option maxRecDepth 100000
open HP
def Kp(g:Int)(x:bz)(eo to c:Int):jd:=⟨eo,to,c,x.ct,if g=1 then(if to<eo then x.down else x.up)else x.other,x.fB⟩
def ON(x:bz)(k:aG)(f:jd):jd:=match x.dW.find? (λm=>decide (m.key=k))with
 |none=>f
 |some m=>if m.Bk=true then{f with ct:=m.ct,time:=m.time}else f
def Ie(snap:Bool)(f:jd):jd:=if snap=true then{f with time:=0}else f
def D1(d:bV)(x:bz)(k:aG)(eo to c:Int):jd:=wj (Ie (gC d k).2.2 (ON x k (Kp (gC d k).1 x eo to c)))
theorem alP(m:gQ)(k:aG)(σ:Heap):G8 [.agg (gZ m),.rp (aT k)] σ=some (.bool (decide (m.key=k)),σ):=by refine OI rfl ?_;unfold Xj;rw[show A.cells 8 (.agg (gZ m))=some (gZ m)from rfl,bS,show A.aB 0 2 (gZ m)=some (.agg (aT m.key))from rfl,bS,oD,bS,qZ,bS,acp,bS];exact bP _ _
theorem apy{ro:Sh}{r:AV→AV→AV→AV→AV→AV→Heap→aH}{x y z u p q v v':AV}{σ σ':Heap}(e2:A.nn ro v=v')(e:r x y z u p q σ=some (v,σ')):A.wrap false [] ro (A.Ge r) [x,y,z,u,p,q] σ=some (v',σ'):=by have:A.Ge r [x,y,z,u,p,q] σ=some (v,σ'):=e;simp only[A.wrap,Bool.false_and,bE,A.cG,this,bZ,e2]
theorem al5(eo to c:Int)(x:bz):((((A.cell (.ah eo)).bind λv=>some [v]).bind λc6=>(A.aq 0 c6 [(AV.ah 0),(AV.ah 0),(AV.ah 0),(AV.ah 0),(AV.ah 0),(AV.ah 0),AV.az]).bind λc7=>((A.cell (.ah to)).bind λv=>some [v]).bind λc8=>(A.aq 1 c8 c7).bind λc9=>((A.cell (.ah c)).bind λv=>some [v]).bind λfL=>(A.aq 2 fL c9).bind λiq=>((A.cell (.ah x.ct)).bind λv=>some [v]).bind λfJ=>(A.aq 3 fJ iq).bind λkn=>((A.cell (.ah x.other)).bind λv=>some [v]).bind λlz=>(A.aq 4 lz kn).bind λmV=>(A.cells 2 (.agg (nS x.fB))).bind λpg=>(A.aq 5 pg mV).bind λpq=>some pq).bind λcs=>some (AV.agg cs))=some (.agg (gR ⟨eo,to,c,x.ct,x.other,x.fB⟩)):=rfl
theorem acq(g:jd)(σ:Heap):(((A.lb (.lbx (gR g))).bind λjf=>A.aB 0 7 jf).bind λkF=>(yc [kF] σ).bind λAE=>(A.lb (.lbx Cg)).bind λmD=>(A.cells 7 AE.1).bind λnZ=>(A.aq 0 nZ mD).bind λsV=>(A.aB 0 7 sV).bind λx90=>A.fin σ x90 AE.2)=some (.agg (gR (wj g)),σ):=by rw[ji,bS,HS,bS,T6,bS];simp only;rw[ji,bS,Fg,bS,Of _ _ rfl,bS,HS,bS];exact bP _ _
theorem ZA(d:bV)(k:aG)(f1:jd)(σ:Heap):((A.ak 5 (lQ d k)).bind λkR=>(A.cond kR (some ([(AV.lbx Cg),(AV.lbx (gR {f1 with time:=0}))],σ)) (some ([(AV.lbx Cg),(AV.lbx (gR f1))],σ))).bind λlE=>((A.lb (aj lE.1 1)).bind λjf=>A.aB 0 7 jf).bind λkF=>(yc [kF] lE.2).bind λAE=>(A.lb (aj lE.1 0)).bind λmD=>(A.cells 7 AE.1).bind λnZ=>(A.aq 0 nZ mD).bind λsV=>(A.aB 0 7 sV).bind λx90=>A.fin σ x90 AE.2)=some (.agg (gR (wj (Ie (gC d k).2.2 f1))),σ):=by
 rw[aph,bS];unfold Ie;cases(gC d k).2.2
 ·rw[cR,bS];simp only[bW,cA];exact acq f1 σ
 ·rw[dr,bS];simp only[bW,cA];exact acq {f1 with time:=0} σ
theorem aaz(d:bV)(k:aG)(f1:jd)(σ:Heap):((A.ak 5 (lQ d k)).bind λkR=>(A.cond kR (((A.cell (AV.ah 0)).bind λv=>some [v]).bind λpH=>(A.aq 4 pH (gR f1)).bind λnu=>some ([(AV.lbx Cg),(AV.lbx nu)],σ)) (some ([(AV.lbx Cg),(AV.lbx (gR f1))],σ))).bind λlE=>((A.lb (aj lE.1 1)).bind λjf=>A.aB 0 7 jf).bind λkF=>(yc [kF] lE.2).bind λAE=>(A.lb (aj lE.1 0)).bind λmD=>(A.cells 7 AE.1).bind λnZ=>(A.aq 0 nZ mD).bind λsV=>(A.aB 0 7 sV).bind λx90=>A.fin σ x90 AE.2)=some (.agg (gR (wj (Ie (gC d k).2.2 f1))),σ):=by rw[rX,bS,KG,bS];exact ZA d k f1 σ
theorem aoS{p q pm:AV}(d:bV)(x:bz)(hm:x.dW.length≤bg)(k:aG)(eo to c:Int)(σ:Heap)(h1:A.aU p=some p)(h2:A.aF 10 p=some q)(h3:((A.deref q σ).bind λc=>A.ak 0 c)=some pm) (h4:A.look (.s [0,2]) pm (.agg (aT k)) (.agg FF) σ=some (.agg (lQ d k))):Dz [p,.agg (br x),.agg (aT k),.ah eo,.ah to,.ah c] σ=some (.agg (gR (D1 d x k eo to c)),σ):=by
 refine apy (v:=.agg (gR (D1 d x k eo to c))) rfl ?_;unfold QN D1;rw[Oo,bS,DJ,bS,bS,SH,bS,ZZ,bS,Rg,bS,al5,bS,Fg,bS,Of _ _ rfl,bS,h1,bS,h2,bS,h3,bS,oD,bS,qZ,bS,h4,bS,Ia,bS,ac1,bS,Cd,bS,jQ,bS];have Gv:∀w,Jj (A.tab (λ_ _=>none) [(349,G8)]) [sl 8 gZ x.dW,.fn 349 [.rp (aT k)]] w=some (.ah (lg (λm:gQ=>decide (m.key=k)) x.dW),w):=λw=>aeP _ x.dW hm _ _ _ w λm _=>alP m k w
 have A1:∀(f0:jd),(A.cond (.bool (decide ((gC d k).1=1))) ((A.ak 3 (br x)).bind λeW=>((A.cell eW).bind λv=>some [v]).bind λvk=>(A.aq 4 vk (gR f0)).bind λgr=>(A.lss (.ah to) (.ah eo)).bind λfG=>(A.cond fG ((A.ak 4 (br x)).bind λx38=>((A.cell x38).bind λv=>some [v]).bind λoC=>(A.aq 4 oC gr).bind λBy=>some ([(AV.lbx (br x)),(AV.lbx Cg),(AV.lbx By),(AV.lbx (lQ d k))],σ)) (some ([(AV.lbx (br x)),(AV.lbx Cg),(AV.lbx gr),(AV.lbx (lQ d k))],σ))).bind λjK=>some ([(aj jK.1 0),(aj jK.1 1),(aj jK.1 2),(aj jK.1 3)],jK.2)) (some ([(AV.lbx (br x)),(AV.lbx Cg),(AV.lbx (gR f0)),(AV.lbx (lQ d k))],σ)))=some ([(AV.lbx (br x)),(AV.lbx Cg),(AV.lbx (gR {f0 with time:=if(gC d k).1=1 then(if to<eo then x.down else x.up)else f0.time})),(AV.lbx (lQ d k))],σ):=by
  intro f0;by_cases h1:(gC d k).1=1
  ·simp only[cz h1,cT,ZY,bS,rX,KG,l8,aQ h1];by_cases h2:to<eo
   ·simp only[cz h2,cT,SI,bS,rX,KG,aQ h2,bW,cA]
   ·simp only[cD h2,cF,bS,aP h2,bW,cA]
  ·simp only[cD h1,cF,aP h1]
 rw[A1,bS];simp only[bW,cA,ji,bS,Y0,Gv,uc];unfold ON;change _=some (AV.agg (gR (wj (Ie (gC d k).2.2 (match x.dW.find? (λm=>decide (m.key=k))with|none=>_|some m=>_)))),σ);rcases zj (λm:gQ=>decide (m.key=k)) x.dW with⟨e1,_,e2⟩|⟨j,m,e1,e2,e3,e4,_⟩
 ·rw[e1,e2];simp only[show decide ((0:Int)≤-1)=false from cD (by decide),wA,gU,bS,pM,cF,bW,cA,ji];exact aaz d k _ σ
 ·rw[e3,e4];simp only[cz (show(0:Int)≤(j:Int) by omega),gT,bS,jG e1,mR,nw,show((A.deref (.rp ((gZ m).drop 5)) σ).bind λc=>A.ak 0 c)=some (.bool m.Bk)from rfl];cases m.Bk
  ·simp only[cF,bS,bW,cA,ji];exact aaz d k _ σ
  ·simp only[cT,bS,show((A.deref (.rp ((gZ m).drop 6)) σ).bind λc=>A.ak 0 c)=some (.ah m.ct)from rfl,show((A.deref (.rp ((gZ m).drop 7)) σ).bind λc=>A.ak 0 c)=some (.ah m.time)from rfl,rX,adM,KG,bW,cA,ji];exact ZA d k ⟨eo,to,c,m.ct,m.time,x.fB⟩ σ
end
section
set_option maxRecDepth 100000
open HP
def ew(p:aG×cH):AV×AV:=(.agg (aT p.1),.agg (fU p.2))
theorem YD{α β:Type}(f:α→β):∀(l:List α){L:List β},L.Perm (l.map f)→∃l':List α,l'.Perm l∧l'.map f=L
 |[],L,h=>⟨[],.refl _,by have:=List.Perm.eq_nil h;rw[this];rfl⟩
 |x::l,L,h=>by have hx:f x∈L:=h.mem_iff.2 (by simp);obtain⟨s,t,rfl⟩:=List.append_of_mem hx;have h2:(s++t).Perm (l.map f):=(List.perm_cons (f x)).1 (List.perm_middle.symm.trans h);obtain⟨l',k1,k2⟩:=YD f l h2;obtain⟨a,b,rfl,e1,e2⟩:=List.map_eq_append_iff.1 k2;exact⟨a++x::b,List.perm_middle.trans (k1.cons x),by simp [e1,e2]⟩
theorem Tk(l:List (aG×cH)):∃l':List (aG×cH),l'.Perm l∧l'.map ew=A.Bn (l.map ew):=YD ew l (Sv (l.map ew))
noncomputable def Ee (l:List (aG×cH)):List (aG×cH):=Classical.choose (Tk l)
theorem Su(l:List (aG×cH)):(Ee l).Perm l:=(Classical.choose_spec (Tk l)).1
theorem aap(l:List (aG×cH)):(Ee l).map ew=A.Bn (l.map ew):=(Classical.choose_spec (Tk l)).2
theorem alu(l:List (aG×cH)):A.Bn ((Ee l).map ew)=(Ee l).map ew:=by rw[aap];exact Zt (Sv _)
theorem aao{a b:aG}(h:AV.agg (aT a)=AV.agg (aT b)):a=b:=by
 injection h with h
 simp only[aT,List.cons.injEq,AV.int.injEq,AV.str.injEq,and_true,true_and]at h;obtain⟨u,p⟩:=a;obtain⟨u',p'⟩:=b;simp only at h;rw[h.1,h.2]
theorem apN{l:List (aG×cH)}(h:(l.map (·.1)).Nodup):Ip (l.map ew):=by
 refine⟨λp hp=>?_,?_⟩
 ·obtain⟨q,_,rfl⟩:=gB.1 hp;exact⟨q.1.unit,q.1.param,rfl⟩
 ·rw[List.map_map];have e:((·.1)∘ew)=(λk:aG=>AV.agg (aT k))∘(λp:aG×cH=>p.1):=rfl;rw[e,←List.map_map];exact List.pairwise_map.2 (List.Pairwise.imp (λq e=>q (aao e)) h)
def FI(o:Option (List (aG×cH))):Prop:=∀l,o=some l→(l.map (·.1)).Nodup∧A.Bn (l.map ew)=l.map ew
theorem aci{l:List (aG×cH)}(h:(l.map (·.1)).Nodup):A.can (.fm (l.map ew))=.fm (A.Bn (l.map ew)):=by unfold A.can;exact aQ (apN h)
theorem amW{o:Option (List (aG×cH))}(h:FI o):A.can (pJ (λx=>AV.agg (aT x)) (λx=>AV.agg (fU x)) o)=pJ (λx=>AV.agg (aT x)) (λx=>AV.agg (fU x)) o:=by
 cases o with
 |none=>rfl
 |some l=>obtain⟨h1,h2⟩:=h l rfl;show A.can (.fm (l.map ew))=.fm (l.map ew);rw[aci h1,h2]
theorem akk{b:bn}(h:FI b.runs):(aN b).map A.can=aN b:=by unfold aN;simp only[ef,List.map_nil,amW h];rfl
def Es(d:bV)(e:bB):Int:=(zw d.setup.cq e.key e.value).1
noncomputable def IB (d:bV) (s:cQ) (b:bn) (k:aG) (t c:Int):Int:=if(dU b k c).2=true then xV (dU b k c).1 c else if ¬(gC d k).1=1 then(vB d s.aD k t).out else 0
noncomputable def Bi (d:bV) (s:cQ) (b:bn) (x:bz) (t c:Int) (e:bB):cH:=
 if(dU b e.key c).2=true∧(dU b e.key c).1.ending=false∧(dU b e.key c).1.ia.to=Es d e then(dU b e.key c).1
 else⟨D1 d x e.key (IB d s b e.key t c) (Es d e) c,s.aC,false⟩
noncomputable def vP (d:bV) (s:cQ) (b:bn) (x:bz) (c:Int) (seen:List bB) (k:aG):Option cH:=
 if(dU b k c).2=false∨(nG seen k).isSome=true∨¬(gC d k).1=1 then none
 else some (if(dU b k c).1.ending=true then(dU b k c).1 else⟨wj ⟨xV (dU b k c).1 c,0,c,x.ct,x.down,x.fB⟩,s.aC,true⟩)
def zD(b:bn)(x:bz):List bB:=(A0 b.bH x.aC).1
noncomputable def Fp (d:bV) (s:cQ) (b:bn) (x:bz) (t:Int):List (aG×cH):=(zD b x).map (λe=>(e.key,Bi d s b x t (dL b.aI t) e))++(b.runs.getD []).filterMap (λp=>(vP d s b x (dL b.aI t) (zD b x) p.1).map (λr=>(p.1,r)))
noncomputable def nv (d:bV) (s:cQ) (b:bn) (x:bz) (to t:Int):bn:=
 {b with aI:=⟨dL b.aI t,t,false⟩,cm:=to,runs:=some (Ee (Fp d s b x t)),eA:=if 0≤x.eA∧to+1<(b.bH.length:Int)then IntKind.i64.wrap (dL b.aI t+x.eA)else -1}
abbrev TY:Sh:=.p Gb
abbrev TF:Sh:=.p [(.s 10),.k,.k,.k]
structure vf (p : AV) (d : bV) (σ : Heap) : Prop where
 nc:A.aU p=some p
 f2:∃q1 q2,A.aF 4 p=some q1∧A.aF 2 q1=some q2∧∀ex,((A.deref q2 (σ++ex)).bind λc=>A.ak 0 c)=some (sl 3 ff d.setup.cq)
 f10:∃q pm,A.aF 10 p=some q∧∀ex,((A.deref q (σ++ex)).bind λc=>A.ak 0 c)=some pm∧∀k,A.look (.s [0,2]) pm (.agg (aT k)) (.agg FF) (σ++ex)=some (.agg (lQ d k))
 lt:∀ex,Lt (σ++ex) TY p (.rp (tT d))
theorem akx(l:List bn)(σ:Heap)(n d:Nat):A.kT σ n d (l.map aN)=some (l.map aN):=UN AT l σ n d
abbrev bF(v:AV)(s:cQ):au:=[v,.ah s.aC,.ah s.oN,.bool s.black]
theorem amb{W:Heap}{ids bk g:Nat}{s:cQ}(h1:W[ids]? =some (.box (bF (.os bk g 10 0 s.aD.length) s)))(h2:W[bk]? =some (.arr g 10 (s.aD.map aN))):Lt W TF (.op ids 0) (.rp (uP s)):=by refine⟨⟨.rp (uP s),?_,rfl,rfl⟩,rfl,λh=>by cases h⟩;have q:=Kt (c:=aN) (sz:=10) (l:=s.aD) AT h2 (n:=0) (by omega) 6;simp only[A.bG,Nat.not_lt_zero,if_false,h1,List.drop_zero,bF,A.wY,q,aX,bZ];rfl
theorem amc{W:Heap}{pd ps:AV}{d:bV}{s:cQ}{k:aG}{t:Int}(hd:Lt W TY pd (.rp (tT d)))(hs':Lt W TF ps (.rp (uP s)))(hs:s.aD.length≤bg)(ho:∀b∈s.aD,uS b t):Dx [pd,ps,.agg (aT k),.ah t] W=some (.aM [.ah (vB d s.aD k t).out,.ah (vB d s.aD k t).owner],W):=
 zY (dG:=[pd,ps,.agg (aT k),.ah t]) (ts:=[.rp (tT d),.rp (uP s),.agg (aT k),.ah t]) ⟨hd,hs',KC (wV (BZ k)) rfl,TS t,trivial⟩ (λσ=>aaU (d:=d) hs ho σ) rfl
def Eh(p:aG×Bool):AV×AV:=(.agg (aT p.1),.bool p.2)
abbrev rM(σ:Heap)(m1:List (aG×cH))(m2:List (aG×Bool)):Heap:=σ++[.map (m1.map ew),.map (m2.map Eh)]
theorem apS(σ:Heap)(m1:List (aG×cH))(m2:List (aG×Bool)):(rM σ m1 m2)[σ.length]? =some (.map (m1.map ew)):=by rw[iZ (bD _),Nat.sub_self];rfl
theorem apT(σ:Heap)(m1:List (aG×cH))(m2:List (aG×Bool)):(rM σ m1 m2)[σ.length+1]? =some (.map (m2.map Eh)):=by rw[iZ (by omega),show σ.length+1-σ.length=1 by omega];rfl
theorem acB(σ:Heap)(m1:List (aG×cH))(m2:List (aG×Bool))(k:aG)(r:cH):A.fV (.s [0,2]) (.om σ.length) (.agg (aT k)) (.agg (fU r)) (rM σ m1 m2)=some (rM σ (eH k r m1) m2):=by rw[B3 _ rfl (apS σ m1 m2),show A.upd (.s [0,2]) (.agg (aT k)) (.agg (fU r)) (m1.map ew)=some ((eH k r m1).map ew)from FE (eK:=λk=>AV.agg (aT k)) (eV:=λr=>AV.agg (fU r)) tL k r m1,bZ,qu _ _ (bD _),Nat.sub_self];rfl
theorem aoY(σ:Heap)(m1:List (aG×cH))(m2:List (aG×Bool))(k:aG)(r:Bool):A.fV (.s [0,2]) (.om (σ.length+1)) (.agg (aT k)) (.bool r) (rM σ m1 m2)=some (rM σ m1 (eH k r m2)):=by rw[B3 _ rfl (apT σ m1 m2),show A.upd (.s [0,2]) (.agg (aT k)) (.bool r) (m2.map Eh)=some ((eH k r m2).map Eh)from FE (eK:=λk=>AV.agg (aT k)) (eV:=λr=>AV.bool r) tL k r m2,bZ,qu _ _ (by omega),show σ.length+1-σ.length=1 by omega];rfl
structure I1 (p : AV) (b : bn) (σ : Heap) : Prop where
 nc:A.aU p=some p
 f:∀o,∃q,A.aF o p=some q∧∀ex,A.deref q (σ++ex)=some ((aN b).drop o)
theorem bRd{σ:Heap}{bk g ib:Nat}{l:List bn}{b:bn}(h:σ[bk]? =some (.arr g 10 (l.map aN)))(hb:l[ib]? =some b):I1 (.oe bk g ib 0) b σ:=by refine⟨rfl,λo=>⟨.oe bk g ib o,by simp [A.aF],λex=>?_⟩⟩;have hl:=(bM.1 h).1;simp only[A.deref,jg hl,h,if_true,sy,hb,bZ]
theorem SU{σ:Heap}{p:AV}{b:bn}(h:I1 p b σ)(k:aG)(c:Int)(ex:Heap):oJ [p,.agg (aT k),.ah c] (σ++ex)=some (.aM [.agg (fU (dU b k c).1),.bool (dU b k c).2],σ++ex):=by obtain⟨q,h2,h3⟩:=h.f 9;refine SV b k c (σ++ex) h.nc h2 ?_;rw[h3 ex];exact Hw b (σ:=[])
theorem aoR{σ:Heap}{p:AV}{d:bV}(h:vf p d σ)(x:bz)(hm:x.dW.length≤bg)(k:aG)(eo to c:Int)(ex:Heap):Dz [p,.agg (br x),.agg (aT k),.ah eo,.ah to,.ah c] (σ++ex)=some (.agg (gR (D1 d x k eo to c)),σ++ex):=by obtain⟨q,pm,h2,h3⟩:=h.f10;exact aoS d x hm k eo to c (σ++ex) h.nc h2 (h3 ex).1 ((h3 ex).2 k)
theorem Tw(f:jd)(n:Int)(b:Bool):(((A.cells 7 (.agg (gR f))).bind λAm=>(A.aq 0 Am [(AV.ah 0),(AV.ah 0),(AV.ah 0),(AV.ah 0),(AV.ah 0),(AV.ah 0),AV.az,(AV.ah 0),aO]).bind λn9=>((A.cell (.ah n)).bind λv=>some [v]).bind λsW=>(A.aq 7 sW n9).bind λsB=>((A.cell (AV.bool b)).bind λv=>some [v]).bind λsC=>(A.aq 8 sC sB).bind λCu=>some Cu).bind λcs=>some (AV.agg cs))=some (.agg (fU ⟨f,n,b⟩)):=rfl
theorem go_step1{d:bV}{s:cQ}{σ:Heap}{pd bp:AV}{ids bk g:Nat}{b:bn}{x:bz}{t:Int}(hd:vf pd d σ)(h1:σ[ids]? =some (.box (bF (.os bk g 10 0 s.aD.length) s)))(h2:σ[bk]? =some (.arr g 10 (s.aD.map aN)))(hb:b∈s.aD)(BB:I1 bp b σ)(hs:s.aD.length≤bg)(ho:∀b∈s.aD,uS b t)(hp:gu BV d.setup.cq)(hx:x.dW.length≤bg){seen:List bB}(Dh:seen.length≤bg){i:Nat}{e:bB}(he:seen[i]? =some e)(m1:List (aG×cH))(m2:List (aG×Bool)):((λlp AJ=>
   (A.lss (aj lp 1) (AV.ah (seen.length:Int))).bind λx32=>
   A.cond x32 (
    (A.aY 5 (sl 5 dP seen) (aj lp 1)).bind λeW=>
    ((A.deref eW AJ).bind λvk=>A.aB 0 5 vk).bind λjc=>
    (A.cells 5 jc).bind λjJ=>
    (A.aq 0 jJ [(AV.ah 0),bA,(AV.ah 0),(AV.ah 0),(AV.ah 0)]).bind λiu=>
    (A.aB 0 2 iu).bind λx38=>
    (A.fV (.s [0,2]) (AV.om (σ.length+1)) x38 dR AJ).bind λuu=>
    (A.aU pd).bind λdV=>
    (A.aF 4 dV).bind λeX=>
    (A.aF 2 eX).bind λgz=>
    ((A.deref gz uu).bind λxI=>A.ak 0 xI).bind λeY=>
    (A.aB 0 2 iu).bind λfO=>
    (A.aB 2 2 iu).bind λgP=>
    (A.quiet (E3 [eY,fO,gP] uu) uu).bind λkr=>
    (A.ext 0 kr).bind λgK=>
    (A.ext 1 kr).bind λeZ=>
    (A.aB 0 2 iu).bind λlG=>
    (oJ [bp,lG,(AV.ah (dL b.aI t))] uu).bind λmW=>
    (A.ext 0 mW.1).bind λeP=>
    (A.ext 1 mW.1).bind λiy=>
    (A.cells 9 eP).bind λyP=>
    (A.aq 0 yP [(AV.ah 0),(AV.ah 0),(AV.ah 0),(AV.ah 0),(AV.ah 0),(AV.ah 0),AV.az,(AV.ah 0),aO]).bind λjS=>
    (A.guard iy true (A.ak 8 jS) ay).bind λfH=>
    (A.guard iy true (A.not fH) ay).bind λmq=>
    (A.pick iy mq aO).bind λiG=>
    (A.guard iG true (A.ak 1 jS) ay).bind λfK=>
    (A.guard iG true (some gK) ay).bind λjE=>
    (A.guard iG true (A.eql .i fK jE) ay).bind λjF=>
    (A.pick iG jF aO).bind λfc=>
    A.cond fc (
     (A.aB 0 2 iu).bind λgW=>
     (A.aB 0 9 jS).bind λku=>
     (A.fV (.s [0,2]) (AV.om σ.length) gW ku mW.2).bind λLF=>
     (A.add (aj lp 1) (AV.ah 1)).bind λgG=>
     some (AX.normal,[(aj lp 0),gG],LF)) (
     (A.cond iy (
      (A.aB 0 9 jS).bind λiI=>
      (xZ [iI,(AV.ah (dL b.aI t))] mW.2).bind λEF=>
      some ([(aj lp 0),(AV.lbx iu),EF.1],EF.2)) (
      (A.aU pd).bind λgM=>
      (A.aF 10 gM).bind λmM=>
      ((A.deref mM mW.2).bind λlN=>A.ak 0 lN).bind λiz=>
      (A.aB 0 2 iu).bind λjr=>
      (A.look (.s [0,2]) iz jr (AV.agg [bA,(AV.ah 0),(AV.ah 0),(AV.ah 0),(AV.ah 0),aO,AV.az]) mW.2).bind λfP=>
      ((A.cells 7 fP).bind λqM=>A.ak 1 qM).bind λqT=>
      (A.neq .i qT (AV.ah 1)).bind λkR=>
      (A.cond kR (
       (A.aB 0 2 iu).bind λgm=>
       (Dx [pd,(AV.op ids 0),gm,(AV.ah t)] mW.2).bind λAB=>
       (A.ext 0 AB.1).bind λnD=>
       (A.ext 1 AB.1).bind λnN=>
       some ([(aj lp 0),(AV.lbx iu),nD],AB.2)) (
       some ([(aj lp 0),(AV.lbx iu),(AV.ah 0)],mW.2))).bind λlE=>
      some ([(aj lE.1 0),(aj lE.1 1),(aj lE.1 2)],lE.2))).bind λfQ=>
     ((A.lb (aj fQ.1 1)).bind λ_=>some (0)).bind λGK=>
     ((A.lb (aj fQ.1 1)).bind λsU=>A.aB GK 2 sU).bind λlH=>
     ((A.lb (aj fQ.1 0)).bind λnZ=>A.aB 0 11 nZ).bind λkG=>
     ((A.lb (aj fQ.1 1)).bind λ_=>some (0)).bind λGM=>
     ((A.lb (aj fQ.1 1)).bind λmE=>A.aB GM 2 mE).bind λx91=>
     (A.quiet (Dz [pd,kG,x91,(aj fQ.1 2),gK,(AV.ah (dL b.aI t))] fQ.2) fQ.2).bind λnE=>
     (A.aU (AV.op ids 0)).bind λx93=>
     (A.aF 1 x93).bind λuD=>
     ((A.deref uD fQ.2).bind λlC=>A.ak 0 lC).bind λx96=>
     (((A.cells 7 nE).bind λAm=>(A.aq 0 Am [(AV.ah 0),(AV.ah 0),(AV.ah 0),(AV.ah 0),(AV.ah 0),(AV.ah 0),AV.az,(AV.ah 0),aO]).bind λn9=>((A.cell x96).bind λv=>some [v]).bind λsW=>(A.aq 7 sW n9).bind λsB=>((A.cell aO).bind λv=>some [v]).bind λsC=>(A.aq 8 sC sB).bind λCu=>some Cu).bind λcs=>some (AV.agg cs)).bind λyN=>
     (A.fV (.s [0,2]) (AV.om σ.length) lH yN fQ.2).bind λFX=>
     (A.add (aj lp 1) (AV.ah 1)).bind λCT=>
     some (AX.normal,[(aj fQ.1 0),CT],FX))) (
    some (AX.exit 0,[(aj lp 0),(aj lp 1)],AJ)))) [.lbx (br x),.ah (i:Int)] (rM σ m1 m2)=some (.normal,[.lbx (br x),.ah ((i+1:Nat):Int)],rM σ (eH e.key (Bi d s b x t (dL b.aI t) e) m1) (eH e.key true m2)):=by
 obtain⟨c,hc⟩:∃c,c=dL b.aI t:=⟨_,rfl⟩
 have Ey:=ho b hb;have CK:=Ey.sX;have Gt:(dU b e.key c).2=true→uO (dU b e.key c).1.ia:=λq=>by rw[hc]at q ⊢;exact B9 Ey q
 rw[←hc]at CK;rw[←hc];obtain⟨q1,q2,f1,f2,f3⟩:=hd.f2;obtain⟨Jg,pm,g1,g2⟩:=hd.f10;have h1':∀ex,(σ++ex)[ids]? =some (.box (bF (.os bk g 10 0 s.aD.length) s)):=λex=>by rw[jg (bM.1 h1).1];exact h1
 have h2':∀ex,(σ++ex)[bk]? =some (.arr g 10 (s.aD.map aN)):=λex=>by rw[jg (bM.1 h2).1];exact h2
 simp only[bW,cA];rw[kU he,bS,dr,jG he,bS,oD];simp only[bS,show A.aB 0 5 (dP e)=some (.agg (dP e))from rfl,show A.cells 5 (.agg (dP e))=some (dP e)from rfl,show A.aq 0 (dP e) [(AV.ah 0),bA,(AV.ah 0),(AV.ah 0),(AV.ah 0)]=some (dP e)from rfl,show A.aB 0 2 (dP e)=some (.agg (aT e.key))from rfl,show A.aB 2 2 (dP e)=some (.agg (yp e.value))from rfl];rw[aoY,bS];simp only[hd.nc,bS,f1,f2,f3,eT (X8 (abk d.setup.cq hp e.key e.value)),lW,ext1];rw[SU BB,bS];simp only[lW,ext1,bS,zn,BY _ _ (show pY.length=9 from rfl)]
 have tail:∀(W:Heap)(eo:Int)(hW:W=rM σ m1 (eH e.key true m2)),((A.lb (AV.lbx (dP e))).bind λ_=>some 0).bind (λGK=>((A.lb (AV.lbx (dP e))).bind λsU=>A.aB GK 2 sU).bind λlH=>((A.lb (.lbx (br x))).bind λnZ=>A.aB 0 11 nZ).bind λkG=>((A.lb (AV.lbx (dP e))).bind λ_=>some (0)).bind λGM=>((A.lb (AV.lbx (dP e))).bind λmE=>A.aB GM 2 mE).bind λx91=>(A.quiet (Dz [pd,kG,x91,.ah eo,.ah (Es d e),.ah c] W) W).bind λnE=>(A.aU (AV.op ids 0)).bind λx93=>(A.aF 1 x93).bind λuD=>((A.deref uD W).bind λlC=>A.ak 0 lC).bind λx96=>
   (((A.cells 7 nE).bind λAm=>(A.aq 0 Am [(AV.ah 0),(AV.ah 0),(AV.ah 0),(AV.ah 0),(AV.ah 0),(AV.ah 0),AV.az,(AV.ah 0),aO]).bind λn9=>((A.cell x96).bind λv=>some [v]).bind λsW=>(A.aq 7 sW n9).bind λsB=>((A.cell aO).bind λv=>some [v]).bind λsC=>(A.aq 8 sC sB).bind λCu=>some Cu).bind λcs=>some (AV.agg cs)).bind λyN=>(A.fV (.s [0,2]) (AV.om σ.length) lH yN W).bind λFX=>(A.add (AV.ah (i:Int)) (AV.ah 1)).bind λCT=>some (AX.normal,[(.lbx (br x)),CT],FX))=some (.normal,[.lbx (br x),.ah ((i+1:Nat):Int)],rM σ (eH e.key ⟨D1 d x e.key eo (Es d e) c,s.aC,false⟩ m1) (eH e.key true m2)):=by
  intro W eo hW;subst hW;simp only[ji,bS,show A.aB 0 2 (dP e)=some (.agg (aT e.key))from rfl,show A.aB 0 11 (br x)=some (.agg (br x))from rfl,eT (aoR hd x hx e.key eo (Es d e) c _)];rw[show A.aU (.op ids 0)=some (.op ids 0)from rfl,bS,show A.aF 1 (.op ids 0)=some (.op ids 1)from rfl,bS,show((A.deref (.op ids 1) (rM σ m1 (eH e.key true m2))).bind λlC=>A.ak 0 lC)=some (.ah s.aC)from by simp only[A.deref,h1'];rfl,bS,Tw,bS,acB,bS,gY he Dh,bS]
 unfold Bi;by_cases oh:(dU b e.key c).2=true
 ·have hfo:=Gt oh;rw[oh];cases EB:(dU b e.key c).1.ending
  case false=>
   simp only[gT,bS,JR,EB,yJ,Bool.not_false,nw,ajx,jQ];by_cases hto:(dU b e.key c).1.ia.to=Es d e
   ·rw[show(zw d.setup.cq e.key e.value).1=Es d e from rfl,cz hto,dr,aQ ⟨trivial,trivial,hto⟩];simp only[yj,bS];rw[acB,bS,gY he Dh,bS]
   ·rw[show(zw d.setup.cq e.key e.value).1=Es d e from rfl,cD hto,cR,aP (λq=>hto q.2.2),dr];simp only[yj,bS,Ki hfo CK,bW,cA];have:=tail _ (xV (dU b e.key c).1 c) rfl;unfold IB;rw[aQ oh];exact this
  case true=>
   simp only[gT,wA,bS,JR,EB,yJ,Bool.not_true,nw,pM];rw[cR,aP (λq=>by cases q.2.1),dr];simp only[yj,bS,Ki hfo CK,bW,cA];have:=tail _ (xV (dU b e.key c).1 c) rfl;unfold IB;rw[aQ oh];exact this
 ·have FY:(dU b e.key c).2=false:=by simpa using oh
  rw[FY];simp only[wA,gU,bS,pM];rw[cR,aP (λq=>by cases q.1),cR];simp only[hd.nc,bS,g1,g2,show A.aB 0 2 (dP e)=some (.agg (aT e.key))from rfl,Ia,Cd,ij];by_cases hg:(gC d e.key).1=1
  ·rw[cD (λq=>q hg),cR];simp only[bS,bW,cA];have:=tail _ 0 rfl;unfold IB;rw[aP oh,aP (λq=>q hg)];exact this
  ·rw[cz hg,dr];simp only[bS,amc (hd.lt _) (amb (h1' _) (h2' _)) hs ho,lW,ext1,bW,cA];have:=tail _ (vB d s.aD e.key t).out rfl;unfold IB;rw[aP oh,aQ hg];exact this
end
section
set_option maxRecDepth 100000
open HP
theorem Kw{κ ν:Type}[DecidableEq κ]{k:κ}{v:ν}:∀{l:List (κ×ν)},(∀p∈l,p.1≠k)→eH k v l=l++[(k,v)]
 |[],_=>rfl
 |(k',v')::r,h=>by rw[eH,aP (λe=>h (k',v') (by simp) e.symm),Kw λp hp=>h p (by simp [hp])];rfl
theorem Ix{κ ν:Type}[DecidableEq κ]{k:κ}{v:ν}:∀{l:List (κ×ν)},dM k l=some v→(k,v)∈l
 |[],h=>by cases h
 |(k',v')::r,h=>by
  rw[dM]at h;by_cases e:k=k'
  ·rw[aQ e]at h;injection h with h;subst h;subst e;simp
  ·rw[aP e]at h;exact rE _ (Ix h)
theorem alh{seen:List bB}(h:oT seen){i:Nat}{e:bB}(he:seen[i]? =some e):∀a∈seen.take i,a.key≠e.key:=by
 have hp:(seen.take (i+1)).Pairwise λa b=>gI a.key b.key=true:=List.Pairwise.sublist (List.take_sublist _ _) h
 rw[List.take_add_one,he]at hp;intro a ha q;have:=(List.pairwise_append.1 hp).2.2 a ha e (by simp);rw[q,B0]at this;cases this
theorem go_loop1{d:bV}{s:cQ}{σ:Heap}{pd bp:AV}{ids bk g:Nat}{b:bn}{x:bz}{t:Int}(hd:vf pd d σ)(h1:σ[ids]? =some (.box (bF (.os bk g 10 0 s.aD.length) s)))(h2:σ[bk]? =some (.arr g 10 (s.aD.map aN)))(hb:b∈s.aD)(BB:I1 bp b σ)(hs:s.aD.length≤bg)(ho:∀b∈s.aD,uS b t)(hp:gu BV d.setup.cq)(hx:x.dW.length≤bg){seen:List bB}(Dh:seen.length≤bg)(xR:oT seen):A.loop ((λlp AJ=>
   (A.lss (aj lp 1) (AV.ah (seen.length:Int))).bind λx32=>
   A.cond x32 (
    (A.aY 5 (sl 5 dP seen) (aj lp 1)).bind λeW=>
    ((A.deref eW AJ).bind λvk=>A.aB 0 5 vk).bind λjc=>
    (A.cells 5 jc).bind λjJ=>
    (A.aq 0 jJ [(AV.ah 0),bA,(AV.ah 0),(AV.ah 0),(AV.ah 0)]).bind λiu=>
    (A.aB 0 2 iu).bind λx38=>
    (A.fV (.s [0,2]) (AV.om (σ.length+1)) x38 dR AJ).bind λuu=>
    (A.aU pd).bind λdV=>
    (A.aF 4 dV).bind λeX=>
    (A.aF 2 eX).bind λgz=>
    ((A.deref gz uu).bind λxI=>A.ak 0 xI).bind λeY=>
    (A.aB 0 2 iu).bind λfO=>
    (A.aB 2 2 iu).bind λgP=>
    (A.quiet (E3 [eY,fO,gP] uu) uu).bind λkr=>
    (A.ext 0 kr).bind λgK=>
    (A.ext 1 kr).bind λeZ=>
    (A.aB 0 2 iu).bind λlG=>
    (oJ [bp,lG,(AV.ah (dL b.aI t))] uu).bind λmW=>
    (A.ext 0 mW.1).bind λeP=>
    (A.ext 1 mW.1).bind λiy=>
    (A.cells 9 eP).bind λyP=>
    (A.aq 0 yP [(AV.ah 0),(AV.ah 0),(AV.ah 0),(AV.ah 0),(AV.ah 0),(AV.ah 0),AV.az,(AV.ah 0),aO]).bind λjS=>
    (A.guard iy true (A.ak 8 jS) ay).bind λfH=>
    (A.guard iy true (A.not fH) ay).bind λmq=>
    (A.pick iy mq aO).bind λiG=>
    (A.guard iG true (A.ak 1 jS) ay).bind λfK=>
    (A.guard iG true (some gK) ay).bind λjE=>
    (A.guard iG true (A.eql .i fK jE) ay).bind λjF=>
    (A.pick iG jF aO).bind λfc=>
    A.cond fc (
     (A.aB 0 2 iu).bind λgW=>
     (A.aB 0 9 jS).bind λku=>
     (A.fV (.s [0,2]) (AV.om σ.length) gW ku mW.2).bind λLF=>
     (A.add (aj lp 1) (AV.ah 1)).bind λgG=>
     some (AX.normal,[(aj lp 0),gG],LF)) (
     (A.cond iy (
      (A.aB 0 9 jS).bind λiI=>
      (xZ [iI,(AV.ah (dL b.aI t))] mW.2).bind λEF=>
      some ([(aj lp 0),(AV.lbx iu),EF.1],EF.2)) (
      (A.aU pd).bind λgM=>
      (A.aF 10 gM).bind λmM=>
      ((A.deref mM mW.2).bind λlN=>A.ak 0 lN).bind λiz=>
      (A.aB 0 2 iu).bind λjr=>
      (A.look (.s [0,2]) iz jr (AV.agg [bA,(AV.ah 0),(AV.ah 0),(AV.ah 0),(AV.ah 0),aO,AV.az]) mW.2).bind λfP=>
      ((A.cells 7 fP).bind λqM=>A.ak 1 qM).bind λqT=>
      (A.neq .i qT (AV.ah 1)).bind λkR=>
      (A.cond kR (
       (A.aB 0 2 iu).bind λgm=>
       (Dx [pd,(AV.op ids 0),gm,(AV.ah t)] mW.2).bind λAB=>
       (A.ext 0 AB.1).bind λnD=>
       (A.ext 1 AB.1).bind λnN=>
       some ([(aj lp 0),(AV.lbx iu),nD],AB.2)) (
       some ([(aj lp 0),(AV.lbx iu),(AV.ah 0)],mW.2))).bind λlE=>
      some ([(aj lE.1 0),(aj lE.1 1),(aj lE.1 2)],lE.2))).bind λfQ=>
     ((A.lb (aj fQ.1 1)).bind λ_=>some (0)).bind λGK=>
     ((A.lb (aj fQ.1 1)).bind λsU=>A.aB GK 2 sU).bind λlH=>
     ((A.lb (aj fQ.1 0)).bind λnZ=>A.aB 0 11 nZ).bind λkG=>
     ((A.lb (aj fQ.1 1)).bind λ_=>some (0)).bind λGM=>
     ((A.lb (aj fQ.1 1)).bind λmE=>A.aB GM 2 mE).bind λx91=>
     (A.quiet (Dz [pd,kG,x91,(aj fQ.1 2),gK,(AV.ah (dL b.aI t))] fQ.2) fQ.2).bind λnE=>
     (A.aU (AV.op ids 0)).bind λx93=>
     (A.aF 1 x93).bind λuD=>
     ((A.deref uD fQ.2).bind λlC=>A.ak 0 lC).bind λx96=>
     (((A.cells 7 nE).bind λAm=>(A.aq 0 Am [(AV.ah 0),(AV.ah 0),(AV.ah 0),(AV.ah 0),(AV.ah 0),(AV.ah 0),AV.az,(AV.ah 0),aO]).bind λn9=>((A.cell x96).bind λv=>some [v]).bind λsW=>(A.aq 7 sW n9).bind λsB=>((A.cell aO).bind λv=>some [v]).bind λsC=>(A.aq 8 sC sB).bind λCu=>some Cu).bind λcs=>some (AV.agg cs)).bind λyN=>
     (A.fV (.s [0,2]) (AV.om σ.length) lH yN fQ.2).bind λFX=>
     (A.add (aj lp 1) (AV.ah 1)).bind λCT=>
     some (AX.normal,[(aj fQ.1 0),CT],FX))) (
    some (AX.exit 0,[(aj lp 0),(aj lp 1)],AJ)))) [.lbx (br x),.ah 0] (rM σ [] [])=some (.exit 0,[.lbx (br x),.ah (seen.length:Int)],rM σ (seen.map (λe=>(e.key,Bi d s b x t (dL b.aI t) e))) (seen.map (λe=>(e.key,true)))):=by
 refine C9 (ou (Q:=λq=>q=(.exit 0,[.lbx (br x),.ah (seen.length:Int)],rM σ (seen.map (λe=>(e.key,Bi d s b x t (dL b.aI t) e))) (seen.map (λe=>(e.key,true))))) (λz v w=>∃i:Nat,i≤seen.length∧v=[.lbx (br x),.ah (i:Int)]∧w=rM σ ((seen.take i).map (λe=>(e.key,Bi d s b x t (dL b.aI t) e))) ((seen.take i).map (λe=>(e.key,true)))∧z=seen.length-i) ?_ (n:=seen.length) ⟨0,kY _,rfl,rfl,rfl⟩);rintro z v w ⟨i,hi,rfl,rfl,hz⟩;by_cases h:i<seen.length
 ·have he:seen[i]? =some seen[i]:=bT h;have hk:=alh xR he;refine .inl ⟨seen.length-(i+1),_,_,by omega,go_step1 hd h1 h2 hb BB hs ho hp hx Dh he _ _,i+1,h,rfl,?_,rfl⟩;rw[Kw (λp hp=>by obtain⟨a,ha,rfl⟩:=gB.1 hp;exact hk a ha),Kw (λp hp=>by obtain⟨a,ha,rfl⟩:=gB.1 hp;exact hk a ha),List.take_add_one,he];simp only[List.map_append,Option.toList_some,ef,List.map_nil]
 ·have:i=seen.length:=by omega
  subst this;refine .inr ⟨_,?_,by simp,rfl⟩;simp only[bW,cA];rw[kS,bS,cR,List.take_length]
abbrev vn(σ:Heap)(m1:List (aG×cH))(m2:List (aG×Bool))(c l:List (AV×AV)):Heap:=σ++[.map (m1.map ew),.map (m2.map Eh),.it c l]
theorem acA(σ:Heap)(m1:List (aG×cH))(m2:List (aG×Bool))(c l:List (AV×AV)):(vn σ m1 m2 c l)[σ.length+2]? =some (.it c l):=by rw[iZ (by omega),show σ.length+2-σ.length=2 by omega];rfl
theorem anw(σ:Heap)(m1:List (aG×cH))(m2:List (aG×Bool))(c l c' l':List (AV×AV)):(vn σ m1 m2 c l).set (σ.length+2) (.it c' l')=vn σ m1 m2 c' l':=by rw[qu _ _ (by omega),show σ.length+2-σ.length=2 by omega];rfl
theorem aoX(σ:Heap)(m1:List (aG×cH))(m2:List (aG×Bool))(c l:List (AV×AV))(k:aG)(r:cH):A.fV (.s [0,2]) (.om σ.length) (.agg (aT k)) (.agg (fU r)) (vn σ m1 m2 c l)=some (vn σ (eH k r m1) m2 c l):=by rw[B3 _ rfl (show(vn σ m1 m2 c l)[σ.length]? =some (.map (m1.map ew)) by rw[iZ (bD _),Nat.sub_self];rfl),show A.upd (.s [0,2]) (.agg (aT k)) (.agg (fU r)) (m1.map ew)=some ((eH k r m1).map ew)from FE (eK:=λk=>AV.agg (aT k)) (eV:=λr=>AV.agg (fU r)) tL k r m1,bZ,qu _ _ (bD _),Nat.sub_self];rfl
theorem aoW(σ:Heap)(m1:List (aG×cH))(m2:List (aG×Bool))(c l:List (AV×AV))(k:aG):A.look (.s [0,2]) (.om (σ.length+1)) (.agg (aT k)) (.bool false) (vn σ m1 m2 c l)=some (.bool ((dM k m2).getD false)):=by
 have h:(vn σ m1 m2 c l)[σ.length+1]? =some (.map (m2.map Eh)):=by rw[iZ (by omega),show σ.length+1-σ.length=1 by omega];rfl
 simp only[A.look,show A.lq (.s [0,2]) (.agg (aT k))=true from rfl,ck,A.entries,h,aX,show A.find (.s [0,2]) (.agg (aT k)) (m2.map Eh)=some ((dM k m2).map AV.bool)from DU (eK:=λk=>AV.agg (aT k)) (eV:=λr=>AV.bool r) tL k m2,bZ];cases dM k m2<;>rfl
theorem amG(seen:List bB)(k:aG):(dM k (seen.map (λe=>(e.key,true)))).getD false=(nG seen k).isSome:=by
 induction seen with
 |nil=>rfl
 |cons e l ih=>
  rw[ef,dM];unfold nG at ih ⊢;rw[List.find?_cons];by_cases h:k=e.key
  ·rw[aQ h,cz h.symm];rfl
  ·rw[aP h,cD (λq=>h q.symm)];exact ih
theorem al7(eo c:Int)(x:bz):((((A.cell (.ah eo)).bind λv=>some [v]).bind λwg=>(A.aq 0 wg [(AV.ah 0),(AV.ah 0),(AV.ah 0),(AV.ah 0),(AV.ah 0),(AV.ah 0),AV.az]).bind λzP=>((A.cell (.ah c)).bind λv=>some [v]).bind λzQ=>(A.aq 2 zQ zP).bind λKO=>((A.cell (.ah x.ct)).bind λv=>some [v]).bind λUB=>(A.aq 3 UB KO).bind λKP=>((A.cell (.ah x.down)).bind λv=>some [v]).bind λUC=>(A.aq 4 UC KP).bind λKQ=>(A.cells 2 (.agg (nS x.fB))).bind λFR=>(A.aq 5 FR KQ).bind λCG=>some CG).bind λcs=>some (AV.agg cs))=some (.agg (gR ⟨eo,0,c,x.ct,x.down,x.fB⟩)):=rfl
theorem Za(o:Option (List (aG×cH))):A.yt (pJ (λx=>AV.agg (aT x)) (λx=>AV.agg (fU x)) o)=some ((o.getD []).map ew):=by cases o<;>rfl
theorem Kn{W:Heap}{bk g ib o:Nat}{rows:List au}{row row' new:au}(h:W[bk]? =some (.arr g 10 rows))(hr:rows[ib]? =some row)(hs:A.aq o new row=some row'):A.storeAt (.oe bk g ib o) new W=some (W.set bk (.arr g 10 (rows.set ib row'))):=by simp only[A.storeAt,h,if_true,hr,aX,hs,bZ]
theorem ZG{W:Heap}{n:Nat}{B:aS}:∀{τ:Heap}{i:Nat}{ex:Heap}{b:aS},τ[i]? =some b→B≠b→A.yA W n τ (τ.set i B++ex)=(A.Ei W n B).map (λB'=>τ.set i B')
 |[],i,ex,b,h,_=>by cases h
 |a::τ,0,ex,b,h,hn=>by
  injection h with h
  subst h;rw[List.set_cons_zero,nI];simp only[A.yA,aP hn]
  have key:∀τ:Heap,A.yA W n τ (τ++ex)=some τ:=by
   intro τ;induction τ with
   |nil=>simp [A.yA]
   |cons y τ ih=>simp only[nI,A.yA,if_true,aX,ih,bZ]
  rw[key];cases A.Ei W n B<;>rfl
 |a::τ,i+1,ex,b,h,hn=>by rw[List.set_cons_succ,nI];simp only[A.yA,if_true,aX];rw[ZG (i:=i) (b:=b) h hn];cases A.Ei W n B<;>rfl
theorem aoT{W:Heap}{n:Nat}{l:List (aG×cH)}(h:W[n]? =some (.map (l.map ew)))(d:Nat):A.bG W n (d+1) (.om n)=some (.fm (l.map ew)):=by simp only[A.bG,Nat.lt_irrefl,if_false,h];rw[Ow d (λp hp=>by obtain⟨q,_,rfl⟩:=gB.1 hp;exact⟨wV (BZ _),wV (aaI _)⟩)];rfl
theorem ZH{W:Heap}{n d:Nat}{row' adJ:au}(hrow:A.ga W n d row'=some adJ):∀{l:List bn}{ib:Nat},A.kT W n d ((l.map aN).set ib row')=some ((l.map aN).set ib adJ)
 |[],ib=>by simp [A.kT]
 |b::l,0=>by simp only[ef,List.set_cons_zero,A.kT,hrow,aX,akx l W n d,bZ]
 |b::l,ib+1=>by simp only[ef,List.set_cons_succ,A.kT,AT b W n d,aX,ZH hrow (l:=l),bZ]
theorem R5{σ:Heap}{ex:Heap}{bk g ib:Nat}{l:List bn}{b b':bn}{m R:List (aG×cH)}(h2:σ[bk]? =some (.arr g 10 (l.map aN)))(hb:l[ib]? =some b)(hcan:∀b∈l,FI b.runs)(hR:b'.runs=some (Ee R))(hm:m.Perm R)(hnd:(m.map (·.1)).Nodup)(hex:ex[0]? =some (.map (m.map ew))):
  A.CJ σ (.aM []) ((σ++ex).set bk (.arr g 10 ((l.map aN).set ib [.ah b'.aI.shown,.ah b'.aI.since,.bool b'.aI.jv,.ah b'.aC,.ah b'.kH,sl 11 br b'.bH,.ah b'.cm,.ah b'.iK,.ah b'.eA,.om σ.length])))=some (.aM [],σ.set bk (.arr g 10 ((l.set ib b').map aN))):=by
 have hl:=(bM.1 h2).1;have hib:=(bM.1 hb).1;obtain⟨row,hrow⟩:∃row:au,row=[.ah b'.aI.shown,.ah b'.aI.since,.bool b'.aI.jv,.ah b'.aC,.ah b'.kH,sl 11 br b'.bH,.ah b'.cm,.ah b'.iK,.ah b'.eA,.om σ.length]:=⟨_,rfl⟩
 rw[←hrow];rw[List.set_append_left _ _ hl];obtain⟨W,hW⟩:∃W,W=σ.set bk (.arr g 10 ((l.map aN).set ib row))++ex:=⟨_,rfl⟩
 have hWn:W[σ.length]? =some (.map (m.map ew)):=by rw[hW,iZ (by simp),List.length_set,Nat.sub_self];exact hex
 have hne:aS.arr g 10 ((l.map aN).set ib row)≠.arr g 10 (l.map aN):=by
  intro q;injection q with _ _ q
  have q2:((l.map aN).set ib row)[ib]? =(l.map aN)[ib]? :=by rw[q]
  rw[pZ (by simpa using hib),sy,hb,bZ]at q2;injection q2 with q2
  rw[hrow]at q2;unfold aN at q2;simp only[List.cons.injEq,and_true]at q2;have:=q2.2.2.2.2.2.2.2.2.2;revert this;cases b.runs<;>intro this<;>cases this
 have hfr:A.ga W σ.length 8 row=some [.ah b'.aI.shown,.ah b'.aI.since,.bool b'.aI.jv,.ah b'.aC,.ah b'.kH,sl 11 br b'.bH,.ah b'.cm,.ah b'.iK,.ah b'.eA,.fm (m.map ew)]:=by rw[hrow];simp only[A.ga,dA _ _ W σ.length 8,A8 _ W σ.length 8,rA Ox _ W σ.length 8,aoT hWn 7,aX,bZ]
 have hB:A.Ei W σ.length (.arr g 10 ((l.map aN).set ib row))=some (.arr g 10 ((l.set ib b').map aN)):=by
  simp only[A.Ei,ZH hfr,bZ];congr 2;rw[List.map_set,List.map_set,List.map_map];have e1:l.map ((λx=>x.map A.can)∘aN)=l.map aN:=List.map_congr_left λb hb=>akk (hcan b hb)
  rw[e1];congr 1;unfold aN;rw[hR];simp only[ef,List.map_nil,aci hnd,Zt (hm.map ew),←aap];rfl
 unfold A.CJ;rw[←hW];conv=>lhs;arg 1;rw[hW]
 rw[ZG h2 hne,←hW,hB];simp only[bZ,aX];have:A.bG W σ.length 8 (.aM [])=some (.aM []):=by simp [A.bG,A.ga]
 rw[this];rfl
end
end Go.Proofs.YtooknfkholjpbaaGreat
