/- Parts of the proof of PickSpreadsMatchSpec, in order. -/
import Derived.Orders
import Derived.Below
import Derived.WalkKit
import Derived.Laws.StructEq
import Derived.Laws.Append
import Derived.Laws.AppendOwn
import Derived.Test.YtjjjjbgohkklnaaRows
import Derived.KernelRfl
import Derived.Lib.Bytealg
import Derived.Sort.Defs
import Derived.Lib.BitFns
import Derived.Test.YtjjjjbgohkklnaaShelf
import Derived.WalkSpells
import Derived.ProofKit
import Derived.OpenShut
import Derived.Deep.QuietTactic
import Derived.BigQuiet
import Derived.Lib.Hide
import Derived.IntWalk
import Derived.Deep.RegionHeld3
import Derived.Deep.Slices
import Derived.OwnWalk
import Derived.Laws.OwnMore
import Derived.Deep.OwnRows
import Derived.Deep.RegionHeld
import Derived.Deep.AppendLies
import Derived.StillTailTactics
import Derived.Lib.Overlaps
import Derived.Lib.Strings
import Derived.Sort.Statements
import Derived.Lib.SmallJoins
import Derived.Test.YtjjjjbgohkklnaaKPickSpreadsMatchSpec4
namespace Go.Proofs.Ytjjjjbgohkklnaa
set_option linter.unusedVariables false
set_option linter.unusedSimpArgs false
set_option linter.unusedSectionVars false
section
set_option maxRecDepth 100000
noncomputable def Gi (a0:Int):Option Bool:=some (!(bz a0 0 65535))
theorem Uo{a0:Int}{σ:Heap}{r:Bool}(h:Gi a0=some r):A9 [(AV.ah a0)] σ=some ((AV.bool r),σ):=by refine zR (f:=Gh) (y0:=(AV.ah a0)) (enc:=λr:Bool=>(AV.bool r)) (T:=Gi a0) rfl rfl ?_ r h;unfold Gh Gi;refine aF _ (VP a0 σ)<|aF _ rfl ?_;exact fu _ (ff _ _) ⟨rfl,rfl⟩
noncomputable def zi (a0:iF):Option Int:=
 if(a0.dg.length:Int)=0 then
  some 8
 else
 if 20<(a0.dg.length:Int)then
  some 2
 else
 (tq (a0.dg.length≤bQ) (a0.dg.any (λx=>(!(bz x 0 65535))))).bind λr1=>
 if r1=true then
  some 1
 else
 if((!(bz a0.block 1 9999))||(!(bz a0.eR 1 50)))=true then
  some 1
 else
 some 0
theorem UC{a0:iF}{σ:Heap}{r:Int}(h:zi a0=some r):Gw [(AV.agg (kS a0))] σ=some ((AV.ah r),σ):=by
 refine zR (f:=DE) (y0:=(AV.agg (kS a0))) (enc:=λr:Int=>(AV.ah r)) (T:=zi a0) rfl rfl ?_ r h;unfold DE zi;refine aF _ rfl<|aF (sl 1 cC a0.dg) rfl<|aF _ (jc _ _ _)<|aF _ (uH _ _ _) ?_;refine oc (p:=(a0.dg.length:Int)=0) (λc5=>?_) (λc5=>?_)
 ·exact fu _ (ff _ _) ⟨rfl,rfl⟩
 refine aF (sl 1 cC a0.dg) rfl<|aF _ (jc _ _ _)<|aF _ rfl ?_;refine oc (p:=20<(a0.dg.length:Int)) (λc4=>?_) (λc4=>?_)
 ·exact fu _ (ff _ _) ⟨rfl,rfl⟩
 refine aF (sl 1 cC a0.dg) rfl ?_;refine ig (λr1:Bool=>((AV.bool r1),σ)) (λr1 fP=>(qP (e:=λr:Bool=>((AV.bool r),σ)) (λhs=>TV _ a0.dg hs _ _ (λx=>(!(bz x 0 65535))) σ (λx hx=>Uo (σ:=σ) (r:=(!(bz x 0 65535))) rfl))) fP) (λr1 fP=>?_);refine uh (c:=r1) (λc3=>?_) (λc3=>?_)
 ·exact fu _ (ff _ _) ⟨rfl,rfl⟩
 refine aF _ rfl<|aF _ (pX a0.block 1 9999 σ)<|aF _ rfl<|nR (AV.ah a0.eR) (λhg=>rfl)<|nR (AV.bool (bz a0.eR 1 50)) (λhg=>by(try rw[hg]);exact(xh (pX a0.eR 1 50 σ)))<|nR (AV.bool (!(bz a0.eR 1 50))) (λhg=>by(try rw[hg]);exact rfl)<|aF _ (E4 _ _) ?_;refine uh (c:=((!(bz a0.block 1 9999))||(!(bz a0.eR 1 50)))) (λc2=>?_) (λc2=>?_)
 ·exact fu _ (ff _ _) ⟨rfl,rfl⟩
 exact fu _ (ff _ _) ⟨rfl,rfl⟩
noncomputable def zl (a0:iF):Option Int:=
 if(a0.dg.length:Int)=0 then
  some 8
 else
 if 20<(a0.dg.length:Int)then
  some 2
 else
 nw a0.dg (λ(i8:Nat)e7(s1:Unit)=>(show Option (Lr Unit Unit Int)from
   if(!(bz e7 0 65535))=true then
    some (.ret 1)
   else
   some (.go ()))) (λs1=>some ()) () (λb2=>
  if((!(bz a0.block 1 9999))||(!(bz a0.eR 1 50)))=true then
   some 1
  else
  some 0) (λb2=>
  some b2)
theorem U2{a0:iF}{σ:Heap}{r:Int}(h:zl a0=some r):GH [(AV.agg (kS a0))] σ=some ((AV.ah r),σ):=by
 refine zR (f:=GL) (y0:=(AV.agg (kS a0))) (enc:=λr:Int=>(AV.ah r)) (T:=zl a0) rfl rfl ?_ r h;unfold GL zl;refine aF _ rfl<|aF (sl 1 cC a0.dg) rfl<|aF _ (jc _ _ _)<|aF _ (uH _ _ _) ?_;refine oc (p:=(a0.dg.length:Int)=0) (λdG=>?_) (λdG=>?_)
 ·exact fu _ (ff _ _) ⟨rfl,rfl⟩
 refine aF (sl 1 cC a0.dg) rfl<|aF _ (jc _ _ _)<|aF _ rfl ?_;refine oc (p:=20<(a0.dg.length:Int)) (λfW=>?_) (λfW=>?_)
 ·exact fu _ (ff _ _) ⟨rfl,rfl⟩
 refine aF (sl 1 cC a0.dg) rfl<|aF _ (jc _ _ _) ?_;refine xA (B:=Unit) (R:=Int) (λ(i8:Nat)(s1:Unit)v w3=>v=[(AV.lbx (kS a0)),(AV.ah 0),(AV.ah (i8:Int))]∧σ=w3) (λ(b2:Unit)(q:LS)=>∃u2 Db,q=((AX.exit 1),([(AV.lbx (kS a0)),u2,Db]:an),σ)) (λ(b2:Int)(q:LS)=>∃u1 Db,q=(AX.ret,([u1,(AV.ah b2),Db]:an),σ)) ?_ ?_ ⟨rfl,rfl⟩ ?_ ?_
 ·intro J4 i8 e7 s1 v w3 yC hI;obtain⟨rfl,rfl⟩:=hI;refine aF _ (xF yC)<|xH<|aF _ (xy yC)<|aF _ rfl<|aF _ (vu e7 σ)<|aF _ rfl ?_;refine uh (c:=(!(bz e7 0 65535))) (λc9=>?_) (λc9=>?_)
  ·exact jt (z7 (by simp) ⟨_,_,rfl⟩)
  refine aF _ (xz yC J4) ?_;exact jt (xB ⟨rfl,rfl⟩)
 ·intro hl s1 v w3 hI;obtain⟨rfl,rfl⟩:=hI;refine aF _ (xx _)<|xG ?_;exact jt ⟨by simp,⟨_,_,rfl⟩⟩
 ·intro hl b2 q hq;obtain⟨u2,Db,rfl⟩:=hq;refine qO rfl<|aF _ rfl<|aF _ rfl<|aF _ (oI a0.block 1 9999 σ)<|aF _ rfl<|aF _ rfl<|nR (AV.ah a0.eR) (λhg=>rfl)<|nR (AV.bool (bz a0.eR 1 50)) (λhg=>by(try rw[hg]);exact(xh (oI a0.eR 1 50 σ)))<|nR (AV.bool (!(bz a0.eR 1 50))) (λhg=>by(try rw[hg]);exact rfl)<|aF _ (E4 _ _) ?_;refine uh (c:=((!(bz a0.block 1 9999))||(!(bz a0.eR 1 50)))) (λlN=>?_) (λlN=>?_)
  ·exact fu _ (ff _ _) ⟨rfl,rfl⟩
  exact fu _ (ff _ _) ⟨rfl,rfl⟩
 ·intro hl b2 q hq;obtain⟨u1,Db,rfl⟩:=hq;refine E6 rfl<|qO rfl ?_;exact fu _ (ff _ _) ⟨rfl,rfl⟩
noncomputable def zn (a0:dP) (a1:(List Int)) (a2:ByteArray) (a3:iF):Option ((List aA)×Int):=
 (tq (nQ a0) (eS a0)).bind λr1=>
 (zi a3).bind λr2=>
 (tq (([r1,r2,(if(decide (400<(a1.length:Int)))=true then 2 else 0)]:(List Int)).length≤bQ) ((([r1,r2,(if(decide (400<(a1.length:Int)))=true then 2 else 0)]:(List Int)).find? λn=>decide (¬n=0)).getD 0)).bind λr3=>
 if ¬(r3=0)then
  some ([],r3)
 else
 (zA a0).bind λr4=>
 nw a1 (λ(FR:Nat)mR(s7:(List (Int×Bool)))=>(show Option (Lr (List (Int×Bool)) (List (Int×Bool)) Int)from
   if(!((gR (⟨mR,a2⟩:aS) r4).getD false))=true then
    some (.ret 8)
   else
   if((gR mR s7).getD false)=true then
    some (.ret 6)
   else
   some (.go (me mR true s7)))) (λs7=>some s7) ([]:List (Int×Bool)) (λb8=>
  (tq (wN a3.dg a3.block a3.eR (a1.length:Int)) ((mG a3.dg a3.block.toNat a3.eR.toNat (a1.length:Int).toNat,(0:Int)))).bind λep=>
  nw a1 (λ(FT:Nat)ow(vg:(List aA))=>(show Option (Lr (List aA) (List aA) Unit)from
    (yQ ep.1 (FT:Int)).bind λcG=>
    if vg.length+([(⟨(⟨(⟨ow,a2⟩:aS).unit,(⟨ow,a2⟩:aS).param⟩:aS),cG⟩:aA)]:(List aA)).length≤4398046511104 then
    some (.go (vg++([(⟨(⟨(⟨ow,a2⟩:aS).unit,(⟨ow,a2⟩:aS).param⟩:aS),cG⟩:aA)]:(List aA))))
    else none)) (λvg=>some vg) ([]:List aA) (λwC=>
   some (wC,0)) (λwC=>
   none)) (λb8=>
  some ([],b8))
theorem U4{a0:dP}{a1:(List Int)}{a2:ByteArray}{a3:iF}{σ:Heap}{r:((List aA)×Int)}(h:zn a0 a1 a2 a3=some r):GJ [(AV.agg (dr a0)),(sl 1 cC a1),(AV.str a2),(AV.agg (kS a3))] σ=some ((AV.aD [(sl 3 aH r.1),(AV.ah r.2)]),σ):=by
 refine OO (f:=GN) (y0:=(AV.agg (dr a0))) (y1:=(sl 1 cC a1)) (y2:=(AV.str a2)) (y3:=(AV.agg (kS a3))) (enc:=λr:((List aA)×Int)=>(AV.aD [(sl 3 aH r.1),(AV.ah r.2)])) (T:=zn a0 a1 a2 a3) rfl rfl ?_ r h;unfold GN zn;refine aF _ rfl<|aF _ rfl<|aF _ rfl ?_;refine ig (λr1:Int=>(AV.ah r1)) (λr1 fP=>(xh ((qP (e:=λr:Int=>((AV.ah r),σ)) (λhs=>G3 a0 hs σ)) fP))) (λr1 fP=>?_);refine aF _ rfl ?_;refine ig (λr2:Int=>(AV.ah r2)) (λr2 pK=>(xh (UC pK))) (λr2 pK=>?_);refine aF _ (jc _ _ _)<|aF _ rfl<|aF _ (xh (Y7 (decide (400<(a1.length:Int))) 2 σ))<|aF (sl 1 cC ([r1,r2,(if(decide (400<(a1.length:Int)))=true then 2 else 0)]:(List Int))) rfl ?_;refine ig (λr3:Int=>(AV.ah r3)) (λr3 CX=>(xh ((qP (e:=λr:Int=>((AV.ah r),σ)) (λhs=>X7 ([r1,r2,(if(decide (400<(a1.length:Int)))=true then 2 else 0)]:(List Int)) hs σ)) CX))) (λr3 CX=>?_);refine aF _ (uI _ _ _) ?_;refine oc (p:=¬(r3=0)) (λmo=>?_) (λmo=>?_)
 ·exact fu _ (ff _ _) ⟨(qo (iE (by first|rfl|exact vH _ _) (iE rfl qh))),rfl⟩
 refine aF _ rfl ?_;refine ig (λr4:(List (aS×Bool))=>((CD (λx=>(AV.agg (cu x))) (λx=>(AV.bool x)) r4),σ)) (λr4 CY=>VO CY) (λr4 CY=>?_);have hp5:Hp σ σ []:=Ji σ;have hp6:Hp σ (σ++[bk.map []]) [((AV.om σ.length),(Ct.m (List.map (λp=>((λx=>(AV.ah x)) p.1,(λx=>(AV.bool x)) p.2)) ([]:List (Int×Bool)))))]:=Q5 hp5;refine aF _ (jc _ _ _) ?_;refine xA (B:=(List (Int×Bool))) (R:=Int) (λ(FR:Nat)(s7:(List (Int×Bool)))v w9=>v=[(AV.lbx (kS a3)),AV.aN,(AV.ah 0),(AV.ah (FR:Int))]∧Hp σ w9 [((AV.om σ.length),(Ct.m (List.map (λp=>((λx=>(AV.ah x)) p.1,(λx=>(AV.bool x)) p.2)) s7)))]) (λ(b8:(List (Int×Bool)))(q:LS)=>∃u8 u9 Dd rR,q=((AX.exit 0),([(AV.lbx (kS a3)),u8,u9,Dd]:an),rR)∧Hp σ rR [((AV.om σ.length),(Ct.m (List.map (λp=>((λx=>(AV.ah x)) p.1,(λx=>(AV.bool x)) p.2)) b8)))]) (λ(b8:Int)(q:LS)=>∃u7 Dd rR,q=(AX.ret,([u7,AV.aN,(AV.ah b8),Dd]:an),rR)∧Hp σ rR []) ?_ ?_ ⟨rfl,hp6⟩ ?_ ?_
 ·intro abj FR mR s7 v w9 JY hI;obtain⟨rfl,Ar⟩:=hI;refine aF _ (xF JY)<|xH<|aF _ (xy JY)<|aF _ rfl<|aF (AV.agg (cu (⟨mR,a2⟩:aS))) rfl<|aF _ (Yo (ek:=(.s [0,2])) (eK:=(λx=>(AV.agg (cu x)))) (eV:=(λx=>(AV.bool x))) EA (⟨mR,a2⟩:aS) false rfl)<|aF (AV.bool (!((gR (⟨mR,a2⟩:aS) r4).getD false))) rfl ?_;refine uh (c:=(!((gR (⟨mR,a2⟩:aS) r4).getD false))) (λpq=>?_) (λpq=>?_)
  ·exact jt (z7 (by simp) ⟨_,_,_,rfl,(Pq Ar)⟩)
  refine aF _ (Yw (ek:=.i) (eK:=(λx=>(AV.ah x))) (eV:=(λx=>(AV.bool x))) Ar 0 rfl (Pb _) mR false rfl) ?_;refine uh (c:=((gR mR s7).getD false)) (λiU=>?_) (λiU=>?_)
  ·exact jt (z7 (by simp) ⟨_,_,_,rfl,(Pq Ar)⟩)
  obtain⟨Tm,e17,Rv⟩:=Pp (ek:=.i) (eK:=(λx=>(AV.ah x))) (eV:=(λx=>(AV.bool x))) Ar 0 rfl (Pb _) mR true rfl;change Hp σ Tm [((AV.om σ.length),(Ct.m (List.map (λp=>((λx=>(AV.ah x)) p.1,(λx=>(AV.bool x)) p.2)) (me mR true s7))))]at Rv;refine aF Tm e17<|aF _ (xz JY abj) ?_;exact jt (xB ⟨rfl,Rv⟩)
 ·intro hl s7 v w9 hI;obtain⟨rfl,Ar⟩:=hI;refine aF _ (xx _)<|xG ?_;exact jt ⟨by simp,⟨_,_,_,_,rfl,Ar⟩⟩
 ·intro hl b8 q hq;obtain⟨u8,u9,Dd,rR,rfl,J5⟩:=hq;refine qO rfl<|aF _ rfl<|aF _ (jc _ _ _) ?_;refine ig (λep:((List Int)×Int)=>((AV.aD [(sl 1 cC ep.1),(AV.ah ep.2)]),rR)) (λep RE=>(qP (e:=λr:((List Int)×Int)=>((AV.aD [(sl 1 cC r.1),(AV.ah r.2)]),rR)) (λhs=>XB hs rR)) RE) (λep RE=>?_);refine aF (sl 1 cC ep.1) rfl<|aF _ rfl<|aF _ (jc _ _ _) ?_;have aco:Hp σ rR [((AV.om σ.length),(Ct.m (List.map (λp=>((λx=>(AV.ah x)) p.1,(λx=>(AV.bool x)) p.2)) b8))),(AV.aN,(Ct.s 3 (List.map aH ([]:List aA))))]:=Qe J5 3;refine xA (B:=(List aA)) (R:=Unit) (λ(FT:Nat)(vg:(List aA))v LM=>∃wK,v=[wK,(AV.ah (FT:Int))]∧Hp σ LM [((AV.om σ.length),(Ct.m (List.map (λp=>((λx=>(AV.ah x)) p.1,(λx=>(AV.bool x)) p.2)) b8))),(wK,(Ct.s 3 (List.map aH vg)))]) (λ(wC:(List aA))(q:LS)=>∃Tk wK LN,q=((AX.exit 2),([wK,Tk]:an),LN)∧Hp σ LN [((AV.om σ.length),(Ct.m (List.map (λp=>((λx=>(AV.ah x)) p.1,(λx=>(AV.bool x)) p.2)) b8))),(wK,(Ct.s 3 (List.map aH wC)))]) (λ(wC:Unit)(q:LS)=>False) ?_ ?_ ⟨_,rfl,aco⟩ ?_ ?_
  ·intro abl FT ow vg v LM J1 hI;obtain⟨wK,rfl,J7⟩:=hI;refine aF _ (xF J1)<|xH<|aF _ (xy J1)<|aF _ rfl<|aF (AV.agg (cu (⟨ow,a2⟩:aS))) rfl ?_;refine ig (λcG:Int=>(AV.rp [(AV.ah cG)])) (λcG RL=>JB RL) (λcG RL=>?_);refine aF _ rfl<|aF (AV.agg (aH (⟨(⟨(⟨ow,a2⟩:aS).unit,(⟨ow,a2⟩:aS).param⟩:aS),cG⟩:aA))) rfl<|aF (sl 3 aH ([(⟨(⟨(⟨ow,a2⟩:aS).unit,(⟨ow,a2⟩:aS).param⟩:aS),cG⟩:aA)]:(List aA))) rfl ?_;refine JG (λhm=>?_);obtain⟨h34,w31,e33,Rz⟩:=Po (c:=aH) (ys:=([(⟨(⟨(⟨ow,a2⟩:aS).unit,(⟨ow,a2⟩:aS).param⟩:aS),cG⟩:aA)]:(List aA))) (most:=4398046511104) J7 1 rfl hm;change Hp σ w31 [((AV.om σ.length),(Ct.m (List.map (λp=>((λx=>(AV.ah x)) p.1,(λx=>(AV.bool x)) p.2)) b8))),(h34,(Ct.s 3 (List.map aH (vg++([(⟨(⟨(⟨ow,a2⟩:aS).unit,(⟨ow,a2⟩:aS).param⟩:aS),cG⟩:aA)]:(List aA))))))]at Rz;refine aF _ e33<|aF _ (xz J1 abl) ?_;exact jt (xB ⟨_,rfl,Rz⟩)
  ·intro hl vg v LM hI;obtain⟨wK,rfl,J7⟩:=hI;refine aF _ (xx _)<|xG ?_;exact jt ⟨by simp,⟨_,_,_,rfl,J7⟩⟩
  ·intro hl wC q hq;obtain⟨Tk,wK,LN,rfl,Rx⟩:=hq;refine qO rfl ?_;obtain⟨ra0,KM,KN⟩:=Pj (c:=aH) (l:=wC) Rx (k:=1) rfl Bj;exact fu _ (EM Rx (I1 (zF KM (zF (BX (xu _ _)) ID)))) ⟨(qo (iE (PB KN) (iE rfl qh))),rfl⟩
  ·intro hl wC q hq;exact False.elim hq
 ·intro hl b8 q hq;obtain⟨u7,Dd,rR,rfl,J5⟩:=hq;refine E6 rfl<|qO rfl ?_;exact fu _ (EM J5 (I1 (zF (BX Qb) (zF (BX (xu _ _)) ID)))) ⟨(qo (iE (by first|rfl|exact vH _ _) (iE rfl qh))),rfl⟩
noncomputable def zz (a0:dP) (a1:(List Int)) (a2:ByteArray) (a3:iF):Option ((List aA)×Int):=
 (tq (nQ a0) (eS a0)).bind λr1=>
 if ¬(r1=0)then
  some ([],r1)
 else
 (zl a3).bind λr2=>
 if ¬(r2=0)then
  some ([],r2)
 else
 if 400<(a1.length:Int)then
  some ([],2)
 else
 nw a1 (λ(AP:Nat)e9(s3:Unit)=>(show Option (Lr Unit Unit Int)from
   (tq (nQ a0) (tW a0 (⟨e9,a2⟩:aS))).bind λdQ=>
   if(!dQ.2)=true then
    some (.ret 8)
   else
   (AY a1 none (some (AP:Int))).bind λbT=>
   (tq (bT.length≤bQ) (bT.any λx=>decide (e9=x))).bind λiL=>
   if iL=true then
    some (.ret 6)
   else
   some (.go ()))) (λs3=>some ()) () (λb4=>
  (tq (wN a3.dg a3.block a3.eR (a1.length:Int)) (mG a3.dg a3.block.toNat a3.eR.toNat (a1.length:Int).toNat)).bind λrJ=>
  nw rJ (λ(i26:Nat)yt(oF:(List aA))=>(show Option (Lr (List aA) (List aA) Unit)from
    (yQ a1 (i26:Int)).bind λcg=>
    if oF.length+([(⟨(⟨(⟨cg,a2⟩:aS).unit,(⟨cg,a2⟩:aS).param⟩:aS),yt⟩:aA)]:(List aA)).length≤4398046511104 then
    some (.go (oF++([(⟨(⟨(⟨cg,a2⟩:aS).unit,(⟨cg,a2⟩:aS).param⟩:aS),yt⟩:aA)]:(List aA))))
    else none)) (λoF=>some oF) ([]:List aA) (λwB=>
   some (wB,0)) (λwB=>
   none)) (λb4=>
  some ([],b4))
theorem VN{a0:dP}{a1:(List Int)}{a2:ByteArray}{a3:iF}{σ:Heap}{r:((List aA)×Int)}(h:zz a0 a1 a2 a3=some r):G8 [(AV.agg (dr a0)),(sl 1 cC a1),(AV.str a2),(AV.agg (kS a3))] σ=some ((AV.aD [(sl 3 aH r.1),(AV.ah r.2)]),σ):=by
 refine OO (f:=Hl) (y0:=(AV.agg (dr a0))) (y1:=(sl 1 cC a1)) (y2:=(AV.str a2)) (y3:=(AV.agg (kS a3))) (enc:=λr:((List aA)×Int)=>(AV.aD [(sl 3 aH r.1),(AV.ah r.2)])) (T:=zz a0 a1 a2 a3) rfl rfl ?_ r h;unfold Hl zz;refine aF _ rfl<|aF _ rfl<|aF _ rfl ?_;refine ig (λr1:Int=>((AV.ah r1),σ)) (λr1 fP=>(qP (e:=λr:Int=>((AV.ah r),σ)) (λhs=>Vl a0 hs σ)) fP) (λr1 fP=>?_);refine aF _ (uI _ _ _) ?_;refine oc (p:=¬(r1=0)) (λpG=>?_) (λpG=>?_)
 ·exact fu _ (ff _ _) ⟨(qo (iE (by first|rfl|exact vH _ _) (iE rfl qh))),rfl⟩
 refine aF _ rfl ?_;refine ig (λr2:Int=>((AV.ah r2),σ)) (λr2 pK=>U2 pK) (λr2 pK=>?_);refine aF _ (uI _ _ _) ?_;refine oc (p:=¬(r2=0)) (λuK=>?_) (λuK=>?_)
 ·exact fu _ (ff _ _) ⟨(qo (iE (by first|rfl|exact vH _ _) (iE rfl qh))),rfl⟩
 refine aF _ (jc _ _ _)<|aF _ rfl ?_;refine oc (p:=400<(a1.length:Int)) (λCr=>?_) (λCr=>?_)
 ·exact fu _ (ff _ _) ⟨(qo (iE (by first|rfl|exact vH _ _) (iE rfl qh))),rfl⟩
 refine aF _ (jc _ _ _) ?_;refine xA (B:=Unit) (R:=Int) (λ(AP:Nat)(s3:Unit)v w5=>v=[(AV.lbx (dr a0)),(AV.lbx (kS a3)),AV.aN,(AV.ah 0),(AV.ah (AP:Int))]∧σ=w5) (λ(b4:Unit)(q:LS)=>∃u4 u8 u9 Dc,q=((AX.exit 0),([u4,(AV.lbx (kS a3)),u8,u9,Dc]:an),σ)) (λ(b4:Int)(q:LS)=>∃u4 u7 Dc,q=(AX.ret,([u4,u7,AV.aN,(AV.ah b4),Dc]:an),σ)) ?_ ?_ ⟨rfl,rfl⟩ ?_ ?_
 ·intro acg AP e9 s3 v w5 KY hI;obtain⟨rfl,rfl⟩:=hI;refine aF _ (xF KY)<|xH<|aF _ (xy KY)<|aF _ rfl<|aF _ rfl<|aF (AV.agg (cu (⟨e9,a2⟩:aS))) rfl ?_;refine ig (λdQ:(dR×Bool)=>((AV.aD [(AV.agg (b7 dQ.1)),(AV.bool dQ.2)]),σ)) (λdQ RA=>(qP (e:=λr:(dR×Bool)=>((AV.aD [(AV.agg (b7 r.1)),(AV.bool r.2)]),σ)) (λhs=>VD a0 hs (⟨e9,a2⟩:aS) σ)) RA) (λdQ RA=>?_);refine aF _ rfl<|aF _ rfl<|aF _ rfl<|aF _ (jq _ _ rfl)<|aF _ rfl ?_;refine uh (c:=(!dQ.2)) (λgp=>?_) (λgp=>?_)
  ·exact jt (z7 (by simp) ⟨_,_,_,rfl⟩)
  refine ig (λbT:(List Int)=>(sl 1 cC bT)) (λbT RH=>(aa3 RH)) (λbT RH=>?_);refine ig (λiL:Bool=>((AV.bool iL),σ)) (λiL RB=>(qP (e:=λr:Bool=>((AV.bool r),σ)) (λhs=>Md bT hs e9 σ)) RB) (λiL RB=>?_);refine uh (c:=iL) (λiq=>?_) (λiq=>?_)
  ·exact jt (z7 (by simp) ⟨_,_,_,rfl⟩)
  refine aF _ (xz KY acg) ?_;exact jt (xB ⟨rfl,rfl⟩)
 ·intro hl s3 v w5 hI;obtain⟨rfl,rfl⟩:=hI;refine aF _ (xx _)<|xG ?_;exact jt ⟨by simp,⟨_,_,_,_,rfl⟩⟩
 ·intro hl b4 q hq;obtain⟨u4,u8,u9,Dc,rfl⟩:=hq;refine qO rfl<|aF _ rfl<|aF _ (jc _ _ _) ?_;refine ig (λrJ:(List Int)=>((sl 1 cC rJ),σ)) (λrJ RD=>(qP (e:=λr:(List Int)=>((sl 1 cC r),σ)) (λhs=>XA hs σ)) RD) (λrJ RD=>?_);refine aF _ (jc _ _ _) ?_;have acm:Hp σ σ []:=Ji σ;have acn:Hp σ σ [(AV.aN,(Ct.s 3 (List.map aH ([]:List aA))))]:=Qe acm 3;refine xA (B:=(List aA)) (R:=Unit) (λ(i26:Nat)(oF:(List aA))v LK=>∃hh0,v=[hh0,(AV.ah (i26:Int))]∧Hp σ LK [(hh0,(Ct.s 3 (List.map aH oF)))]) (λ(wB:(List aA))(q:LS)=>∃Tj hh0 LL,q=((AX.exit 2),([hh0,Tj]:an),LL)∧Hp σ LL [(hh0,(Ct.s 3 (List.map aH wB)))]) (λ(wB:Unit)(q:LS)=>False) ?_ ?_ ⟨_,rfl,acn⟩ ?_ ?_
  ·intro abk i26 yt oF v LK JZ hI;obtain⟨hh0,rfl,J6⟩:=hI;refine aF _ (xF JZ)<|xH<|aF _ (xy JZ)<|aF _ rfl ?_;refine ig (λcg:Int=>(AV.rp [(AV.ah cg)])) (λcg RJ=>JB RJ) (λcg RJ=>?_);refine aF _ rfl<|aF (AV.agg (cu (⟨cg,a2⟩:aS))) rfl<|aF (AV.agg (aH (⟨(⟨(⟨cg,a2⟩:aS).unit,(⟨cg,a2⟩:aS).param⟩:aS),yt⟩:aA))) rfl<|aF (sl 3 aH ([(⟨(⟨(⟨cg,a2⟩:aS).unit,(⟨cg,a2⟩:aS).param⟩:aS),yt⟩:aA)]:(List aA))) rfl ?_;refine JG (λhm=>?_);obtain⟨h31,w28,e30,Ry⟩:=Po (c:=aH) (ys:=([(⟨(⟨(⟨cg,a2⟩:aS).unit,(⟨cg,a2⟩:aS).param⟩:aS),yt⟩:aA)]:(List aA))) (most:=4398046511104) J6 0 rfl hm;change Hp σ w28 [(h31,(Ct.s 3 (List.map aH (oF++([(⟨(⟨(⟨cg,a2⟩:aS).unit,(⟨cg,a2⟩:aS).param⟩:aS),yt⟩:aA)]:(List aA))))))]at Ry;refine aF _ e30<|aF _ (xz JZ abk) ?_;exact jt (xB ⟨_,rfl,Ry⟩)
  ·intro hl oF v LK hI;obtain⟨hh0,rfl,J6⟩:=hI;refine aF _ (xx _)<|xG ?_;exact jt ⟨by simp,⟨_,_,_,rfl,J6⟩⟩
  ·intro hl wB q hq;obtain⟨Tj,hh0,LL,rfl,Rw⟩:=hq;refine qO rfl ?_;obtain⟨ra0,KM,KN⟩:=Pj (c:=aH) (l:=wB) Rw (k:=0) rfl Bj;exact fu _ (EM Rw (I1 (zF KM (zF (BX (xu _ _)) ID)))) ⟨(qo (iE (PB KN) (iE rfl qh))),rfl⟩
  ·intro hl wB q hq;exact False.elim hq
 ·intro hl b4 q hq;obtain⟨u4,u7,Dc,rfl⟩:=hq;refine E6 rfl<|qO rfl ?_;exact fu _ (ff _ _) ⟨(qo (iE (by first|rfl|exact vH _ _) (iE rfl qh))),rfl⟩
noncomputable def zm (a0:(List aA)):Option ((List aA)×Int):=
 if 20000<(a0.length:Int)then
  some ([],2)
 else
 (tq (a0.length≤900000) (uE a0)).bind λr1=>
 some (r1,0)
theorem U3{a0:(List aA)}{σ:Heap}{r:((List aA)×Int)}(h:zm a0=some r):GI [(sl 3 aH a0)] σ=some ((AV.aD [(sl 3 aH r.1),(AV.ah r.2)]),σ):=by
 refine zR (f:=GM) (y0:=(sl 3 aH a0)) (enc:=λr:((List aA)×Int)=>(AV.aD [(sl 3 aH r.1),(AV.ah r.2)])) (T:=zm a0) rfl rfl ?_ r h;unfold GM zm;refine aF _ (jc _ _ _)<|aF _ rfl ?_;refine oc (p:=20000<(a0.length:Int)) (λc2=>?_) (λc2=>?_)
 ·exact fu _ (ff _ _) ⟨(qo (iE (by first|rfl|exact vH _ _) (iE rfl qh))),rfl⟩
 refine ig (λr1:(List aA)=>((sl 3 aH r1),σ)) (λr1 fP=>(qP (e:=λr:(List aA)=>((sl 3 aH r),σ)) (λhs=>aa7 hs σ)) fP) (λr1 fP=>?_);exact fu _ (ff _ _) ⟨(qo (iE rfl (iE rfl qh))),rfl⟩
noncomputable def zy (a0:(List aA)):Option ((List aA)×Int):=
 if 20000<(a0.length:Int)then
  some ([],2)
 else
 (tq (a0.length≤900000) (uE a0)).bind λr1=>
 some (r1,0)
theorem VM{a0:(List aA)}{σ:Heap}{r:((List aA)×Int)}(h:zy a0=some r):G7 [(sl 3 aH a0)] σ=some ((AV.aD [(sl 3 aH r.1),(AV.ah r.2)]),σ):=by
 refine zR (f:=Hj) (y0:=(sl 3 aH a0)) (enc:=λr:((List aA)×Int)=>(AV.aD [(sl 3 aH r.1),(AV.ah r.2)])) (T:=zy a0) rfl rfl ?_ r h;unfold Hj zy;refine aF _ (jc _ _ _)<|aF _ rfl ?_;refine oc (p:=20000<(a0.length:Int)) (λc2=>?_) (λc2=>?_)
 ·exact fu _ (ff _ _) ⟨(qo (iE (by first|rfl|exact vH _ _) (iE rfl qh))),rfl⟩
 refine ig (λr1:(List aA)=>((sl 3 aH r1),σ)) (λr1 fP=>(qP (e:=λr:(List aA)=>((sl 3 aH r),σ)) (λhs=>aa6 hs σ)) fP) (λr1 fP=>?_);exact fu _ (ff _ _) ⟨(qo (iE rfl (iE rfl qh))),rfl⟩
noncomputable def wU (a0:(List aA)) (a1:(List aA)):Option Bool:=
 if ¬((a0.length:Int)=(a1.length:Int))then
  some false
 else
 nw a0 (λ(i8:Nat)e7(s1:Unit)=>(show Option (Lr Unit Unit Unit)from
   (yQ a1 (i8:Int)).bind λx9=>
   if ¬(e7=x9)then
    some (.ret ())
   else
   some (.go ()))) (λs1=>some ()) () (λb2=>
  some true) (λb2=>
  some false)
theorem Ma{a0:(List aA)}{a1:(List aA)}{σ:Heap}{r:Bool}(h:wU a0 a1=some r):Dv [(sl 3 aH a0),(sl 3 aH a1)] σ=some ((AV.bool r),σ):=by
 refine Eo (f:=F7) (y0:=(sl 3 aH a0)) (y1:=(sl 3 aH a1)) (enc:=λr:Bool=>(AV.bool r)) (T:=wU a0 a1) rfl rfl ?_ r h;unfold F7 wU;refine aF _ (jc _ _ _)<|aF _ (jc _ _ _)<|aF _ (uI _ _ _) ?_;refine oc (p:=¬((a0.length:Int)=(a1.length:Int))) (λfW=>?_) (λfW=>?_)
 ·exact fu _ (ff _ _) ⟨rfl,rfl⟩
 refine aF _ (jc _ _ _) ?_;refine xA (B:=Unit) (R:=Unit) (λ(i8:Nat)(s1:Unit)v w3=>v=[bI,(AV.ah (i8:Int))]∧σ=w3) (λ(b2:Unit)(q:LS)=>∃u4 Da,q=((AX.exit 0),([u4,Da]:an),σ)) (λ(b2:Unit)(q:LS)=>∃Da,q=(AX.ret,([bI,Da]:an),σ)) ?_ ?_ ⟨rfl,rfl⟩ ?_ ?_
 ·intro J4 i8 e7 s1 v w3 yC hI;obtain⟨rfl,rfl⟩:=hI;refine aF _ (xF yC)<|xH<|aF _ (xy yC)<|aF _ rfl ?_;refine ig (λx9:aA=>(AV.rp (aH x9))) (λx9 S7=>JB S7) (λx9 S7=>?_);refine aF _ rfl<|aF _ (WB _ _) ?_;refine oc (p:=¬(e7=x9)) (λlN=>?_) (λlN=>?_)
  ·exact jt (z7 (by simp) ⟨_,rfl⟩)
  refine aF _ (xz yC J4) ?_;exact jt (xB ⟨rfl,rfl⟩)
 ·intro hl s1 v w3 hI;obtain⟨rfl,rfl⟩:=hI;refine aF _ (xx _)<|xG ?_;exact jt ⟨by simp,⟨_,_,rfl⟩⟩
 ·intro hl b2 q hq;obtain⟨u4,Da,rfl⟩:=hq;refine qO rfl ?_;exact fu _ (ff _ _) ⟨rfl,rfl⟩
 ·intro hl b2 q hq;obtain⟨Da,rfl⟩:=hq;refine E6 rfl<|qO rfl ?_;exact fu _ (ff _ _) ⟨rfl,rfl⟩
noncomputable def A5 (a0:dP) (a1:(List Int)) (a2:ByteArray) (a3:iF) (a4:(List aA)):Option Bool:=
 (zn a0 a1 a2 a3).bind λr1=>
 (zz a0 a1 a2 a3).bind λr2=>
 (wU r1.1 r2.1).bind λr3=>
 if((!r3)||(decide (¬(r1.2=r2.2))))=true then
  some false
 else
 (zm a4).bind λr4=>
 (zy a4).bind λr5=>
 (wU r4.1 r5.1).bind λr6=>
 some (r6&&(decide (r4.2=r5.2)))
theorem T9{a0:dP}{a1:(List Int)}{a2:ByteArray}{a3:iF}{a4:(List aA)}{σ:Heap}{r:Bool}(h:A5 a0 a1 a2 a3 a4=some r):Mc [(AV.agg (dr a0)),(sl 1 cC a1),(AV.str a2),(AV.agg (kS a3)),(sl 3 aH a4)] σ=some ((AV.bool r),σ):=by
 refine YK (f:=F8) (y0:=(AV.agg (dr a0))) (y1:=(sl 1 cC a1)) (y2:=(AV.str a2)) (y3:=(AV.agg (kS a3))) (y4:=(sl 3 aH a4)) (enc:=λr:Bool=>(AV.bool r)) (T:=A5 a0 a1 a2 a3 a4) rfl rfl ?_ r h;unfold F8 A5;refine aF _ rfl<|aF _ rfl<|aF _ rfl<|aF _ rfl ?_;refine ig (λr1:((List aA)×Int)=>((AV.aD [(sl 3 aH r1.1),(AV.ah r1.2)]),σ)) (λr1 fP=>U4 fP) (λr1 fP=>?_);refine aF (sl 3 aH r1.1) rfl<|aF _ rfl<|aF _ rfl<|aF _ rfl ?_;refine ig (λr2:((List aA)×Int)=>((AV.aD [(sl 3 aH r2.1),(AV.ah r2.2)]),σ)) (λr2 pK=>VN pK) (λr2 pK=>?_);refine aF (sl 3 aH r2.1) rfl<|aF _ rfl ?_;refine ig (λr3:Bool=>((AV.bool r3),σ)) (λr3 CX=>Ma CX) (λr3 CX=>?_);refine aF _ rfl<|nR (AV.ah r1.2) (λhg=>rfl)<|nR (AV.ah r2.2) (λhg=>rfl)<|nR (AV.bool (decide (¬(r1.2=r2.2)))) (λhg=>by(try rw[hg]);exact(uI _ _ _))<|aF _ (E4 _ _) ?_;refine uh (c:=((!r3)||(decide (¬(r1.2=r2.2))))) (λc7=>?_) (λc7=>?_)
 ·exact fu _ (ff _ _) ⟨rfl,rfl⟩
 refine ig (λr4:((List aA)×Int)=>((AV.aD [(sl 3 aH r4.1),(AV.ah r4.2)]),σ)) (λr4 CY=>U3 CY) (λr4 CY=>?_);refine aF (sl 3 aH r4.1) rfl<|aF _ rfl ?_;refine ig (λr5:((List aA)×Int)=>((AV.aD [(sl 3 aH r5.1),(AV.ah r5.2)]),σ)) (λr5 SV=>VM SV) (λr5 SV=>?_);refine aF (sl 3 aH r5.1) rfl<|aF _ rfl ?_;refine ig (λr6:Bool=>((AV.bool r6),σ)) (λr6 SX=>Ma SX) (λr6 SX=>?_);refine JF (AV.ah r4.2) (λhg=>rfl)<|JF (AV.ah r5.2) (λhg=>rfl)<|JF (AV.bool (decide (r4.2=r5.2))) (λhg=>by(try rw[hg]);exact(uH _ _ _))<|aF _ (Qu _ _) ?_;exact fu _ (ff _ _) ⟨rfl,rfl⟩
end
section
set_option maxRecDepth 100000
open HP
theorem ZH{r:dP}(hr:nQ r)(h0:eS r=0):∃M,zA r=some M∧∀k,(gR k M).getD false=uw r k:=by refine⟨(p9 r).foldl (λs x=>me x true s) [],?_,λk=>by rw[Oe,Yv h0];simp [gR]⟩;unfold zA;have:=Yy h0;simp only[sL hr,aQ,h0,if_true];rw[Xr (λs x=>me x true s) (λ_ _=>True) (by unfold bQ;omega) trivial (λ_ _ _ _ _=>trivial) (λ_ _ _ _ _=>rfl)];rfl
end
section
set_option maxRecDepth 100000
theorem Zl{α:Type}{l:List α}{body:Nat→α→Unit→Option (Lr Unit Unit Unit)}{K:Unit→Option Bool}(hl:l.length≤bQ)(hb:∀i x,l[i]? =some x→body i x ()=some (.go ())):nw l body (λs=>some ()) () (λ_=>some true) K=some true:=by
 rw[Xq (p:=λ_=>false) (r:=λ_=>()) hl (λi x hx=>by rw[hb i x hx];rfl)];have:l.find? (λ_=>false)=none:=by simp
 rw[this]
theorem Og(l:List aA)(hl:l.length≤bQ):wU l l=some true:=by
 unfold wU;simp only[not_true_eq_false,if_false];refine Zl hl λi x hx=>?_
 rw[Ja (x:=x) (by omega) (by simpa using hx)];simp
def kL(f:iF):Int:=
 if(f.dg.length:Int)=0 then 8 else if 20<(f.dg.length:Int)then 2
 else if(f.dg.any λx=>!(bz x 0 65535))=true then 1
 else if((!(bz f.block 1 9999))||(!(bz f.eR 1 50)))=true then 1 else 0
theorem O5{α:Type}(b:α→Bool):∀(l:List α)(i:Nat),sW (λ_ x=>if b x=true then 1 else 0) l i=if l.any b=true then 1 else 0
 |[],i=>by simp [sW]
 |x::l,i=>by rw[sW,O5 b l];cases h:b x<;>simp [h]
theorem We(f:iF)(hf:f.dg.length≤bQ):zi f=some (kL f):=by
 unfold zi kL;rw[sL hf];simp only[aQ];repeat (split;rfl)
 rfl
theorem VB(f:iF)(hf:f.dg.length≤bQ):zl f=some (kL f):=by
 unfold zl kL;split
 ·rfl
 split
 ·rfl
 rw[Yp (f:=λ_ x=>if(!(bz x 0 65535))=true then 1 else 0) hf (λi x hx=>by cases bz x 0 65535<;>simp),O5 (λx=>!(bz x 0 65535))];cases f.dg.any λx=>!(bz x 0 65535)
 ·simp only[Bool.false_eq_true,if_false,if_true];split<;>rfl
 ·rfl
theorem P7{f:iF}(h:kL f=0){n:Nat}(hn:n≤400):wN f.dg f.block f.eR (n:Int):=by
 unfold kL at h;split at h
 ·cases h
 split at h
 ·cases h
 split at h
 ·cases h
 rename_i h3;split at h
 ·cases h
 rename_i h4;simp [bz]at h4;refine⟨by omega,by omega,λx hx=>?_,h4.1,h4.2,by omega,by omega⟩;have h5:∀x∈f.dg,bz x 0 65535=true:=by simpa using h3
 simpa [bz]using h5 x hx
def oW(has:Int→Bool):List Int→List Int→Int
 |_,[]=>0
 |pre,x::l=>if(!has x)=true then 8 else if decide (x∈pre)=true then 6 else oW has (pre++[x]) l
theorem Oq{has:Int→Bool}{us:List Int}{body:Nat→Int→List (Int×Bool)→Option (Lr (List (Int×Bool)) (List (Int×Bool)) Int)}
  (hb:∀i x s,us[i]? =some x→body i x s=if(!has x)=true then some (.ret 8)else if((gR x s).getD false)=true then some (.ret 6)else some (.go (me x true s))):
  ∀(rest pre:List Int)(s:List (Int×Bool)),us=pre++rest→(∀n,(gR n s).getD false=decide (n∈pre))→∃s',iG body (λs=>some s) rest pre.length s=some (if oW has pre rest=0 then .inl s' else .inr (oW has pre rest))
 |[],pre,s,h,hs=>⟨s,by simp [iG,oW]⟩
 |x::rest,pre,s,h,hs=>by
  have hx:us[pre.length]? =some x:=by rw[h];simp
  rw[iG,hb _ _ _ hx,hs,oW];cases hh:has x
  ·exact⟨s,by simp⟩
  cases hd:decide (x∈pre)
  ·obtain⟨s',e⟩:=Oq hb rest (pre++[x]) (me x true s) (by rw[h];simp) (λn=>by
    rw[Ie];by_cases hn:n=x
    ·subst hn;simp
    ·rw[aI hn,hs];simp [hn])
   refine⟨s',?_⟩;rw[List.length_append,List.length_singleton]at e;simpa using e
  ·exact⟨s,by simp⟩
theorem Nw{has:Int→Bool}{us:List Int}{body:Nat→Int→Unit→Option (Lr Unit Unit Int)}
  (hb:∀i x,us[i]? =some x→body i x ()=if(!has x)=true then some (.ret 8)else if decide (x∈us.take i)=true then some (.ret 6)else some (.go ())):
  ∀(rest pre:List Int),us=pre++rest→iG body (λs=>some ()) rest pre.length ()=some (if oW has pre rest=0 then .inl ()else .inr (oW has pre rest))
 |[],pre,h=>by simp [iG,oW]
 |x::rest,pre,h=>by
  have hx:us[pre.length]? =some x:=by rw[h];simp
  have ht:us.take pre.length=pre:=by rw[h];simp
  rw[iG,hb _ _ hx,ht,oW];cases hh:has x
  ·simp
  cases hd:decide (x∈pre)
  ·have e:=Nw hb rest (pre++[x]) (by rw[h];simp);rw[List.length_append,List.length_singleton]at e;simpa using e
  ·simp
theorem NC{α β γ:Type}{l:List α}{Z:List β}{body:Nat→α→List β→Option (Lr (List β) (List β) Unit)}{K1:List β→Option γ}{K2:Unit→Option γ}(hl:l.length≤bQ)(hZ:Z.length=l.length)(hb:∀i x,l[i]? =some x→body i x (Z.take i)=some (.go (Z.take (i+1)))):nw l body (λs=>some s) [] K1 K2=K1 Z:=by
 rw[zV hl]
 have key:∀(rest pre:List α),l=pre++rest→iG body (λs=>some s) rest pre.length (Z.take pre.length)=some (.inl Z):=by
  intro rest;induction rest with
  |nil=>intro pre hp;rw[iG,fF (by rw[hZ,hp];simp)];rfl
  |cons x rest ih=>intro pre hp;rw[iG,hb pre.length x (by rw[hp];simp),aQ];have:=ih (pre++[x]) (by simpa using hp);simpa using this
 have:=key l [] rfl;rw[List.length_nil,List.take_zero]at this;rw[this];rfl
def yO(p:ByteArray)(us lv:List Int):List aA:=List.zipWith (λu n=>(⟨⟨u,p⟩,n⟩:aA)) us lv
def Aa(r:dP)(us:List Int)(p:ByteArray)(f:iF):List aA×Int:=
 if ¬(eS r=0)then([],eS r)else if ¬(kL f=0)then([],kL f)else if 400<(us.length:Int)then([],2)
 else if oW (λu=>uw r ⟨u,p⟩) [] us=0 then(yO p us (mG f.dg f.block.toNat f.eR.toNat us.length),0)else([],oW (λu=>uw r ⟨u,p⟩) [] us)
theorem II(c:List Int)(B G n:Nat):(mG c B G n).length=n:=by simp [mG]
theorem I8{p:ByteArray}{us lv:List Int}(h:lv.length=us.length):(yO p us lv).length=us.length:=by simp [yO,h]
theorem PT{p:ByteArray}{us lv:List Int}{i:Nat}{u n:Int}(h1:us[i]? =some u)(h2:lv[i]? =some n):(yO p us lv)[i]? =some ⟨⟨u,p⟩,n⟩:=by simp [yO,List.getElem?_zipWith,h1,h2]
theorem Od{α:Type}{l:List α}{i:Nat}{x:α}(h:l[i]? =some x):l.take i++[x]=l.take (i+1):=by rw[List.take_add_one,h];rfl
theorem X9(r:dP)(us:List Int)(p:ByteArray)(f:iF)(hr:nQ r)(hu:us.length≤bQ)(hf:f.dg.length≤bQ):zn r us p f=some (Aa r us p f):=by
 unfold zn Aa;rw[sL hr,aQ,We f hf,aQ,sL (by show 3≤bQ;unfold bQ;omega),aQ,abg];by_cases h0:eS r=0;case neg=>rw[aK (c:=¬(eS r=0)) h0,aK (c:=¬(eS r=0)) h0,aK (c:=¬(eS r=0)) h0]
 rw[aI (c:=¬(eS r=0)) (λh=>h h0),aI (c:=¬(eS r=0)) (λh=>h h0)];by_cases h1:kL f=0;case neg=>rw[aK (c:=¬(kL f=0)) h1,aK (c:=¬(kL f=0)) h1,aK (c:=¬(kL f=0)) h1]
 rw[aI (c:=¬(kL f=0)) (λh=>h h1),aI (c:=¬(kL f=0)) (λh=>h h1)];by_cases h2:400<(us.length:Int)
 ·rw[eY h2,aK (c:=true=true) rfl,aK (c:=400<(us.length:Int)) h2,aK (c:=¬((2:Int)=0)) (by decide)]
 rw[dL h2,aI (c:=false=true) (by decide),aI (c:=400<(us.length:Int)) h2,aI (c:=¬((0:Int)=0)) (by simp)];obtain⟨M,hM1,hM2⟩:=ZH hr h0;rw[hM1,aQ,zV hu]
 obtain⟨s',e⟩:=Oq (has:=λu=>uw r ⟨u,p⟩) (us:=us) (body:=λ(FR:Nat)mR(s7:(List (Int×Bool)))=>(show Option (Lr (List (Int×Bool)) (List (Int×Bool)) Int)from
   if(!((gR (⟨mR,p⟩:aS) M).getD false))=true then
    some (.ret 8)
   else
   if((gR mR s7).getD false)=true then
    some (.ret 6)
   else
   some (.go (me mR true s7)))) (λi x s hx=>by rw[hM2]) us [] [] rfl (λn=>by simp [gR])
 rw[List.length_nil]at e;rw[e,aQ];by_cases h3:oW (λu=>uw r ⟨u,p⟩) [] us=0;case neg=>rw[aI h3,aI h3];rfl
 rw[aK h3,aK h3];simp only[Sum.elim_inl];rw[sL (P7 h1 (by omega)),aQ];have CW:=II f.dg f.block.toNat f.eR.toNat us.length;rw[Int.toNat_natCast];generalize mG f.dg f.block.toNat f.eR.toNat us.length=lv at CW ⊢;have hZ:=I8 (p:=p) CW;rw[NC (Z:=yO p us lv) hu hZ];intro i x hx;have hi:=(bU.1 hx).1
 have hn:lv[i]? =some (lv[i]'(by omega)):=cI (by omega)
 rw[Ja (x:=lv[i]'(by omega)) (by omega) (by simp),aQ,aK (by rw[gn,List.length_singleton];omega)]
 exact congrArg (λz=>some (Lr.go z)) (Od (PT hx hn))
theorem W5(r:dP)(us:List Int)(p:ByteArray)(f:iF)(hr:nQ r)(hu:us.length≤bQ)(hf:f.dg.length≤bQ):zz r us p f=some (Aa r us p f):=by
 unfold zz Aa;rw[sL hr,aQ];by_cases h0:eS r=0;case neg=>rw[aK (c:=¬(eS r=0)) h0,aK (c:=¬(eS r=0)) h0]
 rw[aI (c:=¬(eS r=0)) (λh=>h h0),aI (c:=¬(eS r=0)) (λh=>h h0),VB f hf,aQ];by_cases h1:kL f=0;case neg=>rw[aK (c:=¬(kL f=0)) h1,aK (c:=¬(kL f=0)) h1]
 rw[aI (c:=¬(kL f=0)) (λh=>h h1),aI (c:=¬(kL f=0)) (λh=>h h1)];by_cases h2:400<(us.length:Int)
 ·rw[aK (c:=400<(us.length:Int)) h2,aK (c:=400<(us.length:Int)) h2]
 rw[aI (c:=400<(us.length:Int)) h2,aI (c:=400<(us.length:Int)) h2,zV hu]
 have e:=Nw (has:=λu=>uw r ⟨u,p⟩) (us:=us) (body:=λ(AP:Nat)e9(s3:Unit)=>(show Option (Lr Unit Unit Int)from
   (tq (nQ r) (tW r (⟨e9,p⟩:aS))).bind λdQ=>
   if(!dQ.2)=true then
    some (.ret 8)
   else
   (AY us none (some (AP:Int))).bind λbT=>
   (tq (bT.length≤bQ) (bT.any λx=>decide (e9=x))).bind λiL=>
   if iL=true then
    some (.ret 6)
   else
   some (.go ()))) (λi x hx=>by
    have hi:=(bU.1 hx).1;simp only[sL hr,aQ,aad (Nat.le_of_lt hi)];rw[sL (by rw[gn];omega),aQ]
    have ab1:((us.take i).any λy=>decide (x=y))=decide (x∈us.take i):=by
     rw[lH,List.any_eq_true,decide_eq_true_iff]
     exact ⟨λ⟨y,hy,he⟩=>(show x=y by simpa using he)▸hy,λh=>⟨x,h,by simp⟩⟩
    rw[ab1]
    rfl) us [] rfl
 rw[List.length_nil]at e;rw[e,aQ];by_cases h3:oW (λu=>uw r ⟨u,p⟩) [] us=0;case neg=>rw[aI h3,aI h3];rfl
 rw[aK h3,aK h3];simp only[Sum.elim_inl];rw[sL (P7 h1 (by omega)),aQ];have CW:=II f.dg f.block.toNat f.eR.toNat us.length;rw[Int.toNat_natCast];generalize mG f.dg f.block.toNat f.eR.toNat us.length=lv at CW ⊢;have hZ:=I8 (p:=p) CW;rw[NC (Z:=yO p us lv) (by omega) (by omega)];intro i x hx;have hi:=(bU.1 hx).1
 have hn:us[i]? =some (us[i]'(by omega)):=cI (by omega)
 rw[Ja (x:=us[i]'(by omega)) (by omega) (by simp),aQ,aK (by rw[gn,List.length_singleton];omega)]
 exact congrArg (λz=>some (Lr.go z)) (Od (PT hn hx))
theorem OJ{α:Type}[DecidableEq α]:∀{a b:List α},a.Nodup→(∀x∈a,x∈b)→a.length≤b.length
 |[],b,_,_=>gU _
 |x::a,b,h,hs=>by have hx:=hs x (by simp);rw[List.nodup_cons]at h;have:=OJ (a:=a) (b:=b.erase x) h.2 (λy hy=>(List.mem_erase_of_ne (λe:y=x=>h.1 (e▸hy))).2 (hs y (by simp [hy])));rw[List.length_erase_of_mem hx]at this;have:=List.length_pos_of_mem hx;simp only[List.length_cons];omega
theorem YR{l:List aA}(hl:l.length≤900000):(uE l).length≤l.length:=by have h:=Is hl;have hn:(uE l).Nodup:=h.tJ.imp (λ{a b}hab e=>by subst e;unfold bH at hab;rw[I3]at hab;cases hab);exact OJ hn λs hs=>(List.mem_filter.1 (List.mem_of_getLast? ((h.mem s).1 hs))).1
theorem Ub(r:dP)(us:List Int)(p:ByteArray)(f:iF)(l:List aA)(hr:nQ r)(hu:fR aZ us)(hp:iK p)(hf:Q8 f)(hl:fR NS l):A5 r us p f l=some true:=by
 unfold A5
 have hsp:(Aa r us p f).1.length≤bQ:=by
  unfold Aa;split
  ·simp
  split
  ·simp
  split
  ·simp
  split
  ·rw[I8 (II ..)];exact hu.1
  ·simp
 have hso:∃q:List aA×Int,zm l=some q∧zy l=some q∧q.1.length≤bQ:=by
  unfold zm zy;by_cases h:20000<(l.length:Int)
  ·rw[aK h];exact⟨_,rfl,rfl,by simp⟩
  ·rw[aI h,sL (by omega)];refine⟨_,rfl,rfl,?_⟩;have:=YR (l:=l) (by omega);show(uE l).length≤bQ;unfold bQ;omega
 obtain⟨q,e1,e2,hq⟩:=hso;rw[X9 r us p f hr hu.1 hf.1.1,aQ,W5 r us p f hr hu.1 hf.1.1,aQ,Og _ hsp,aQ,e1,e2,aI (by simp),aQ,aQ,Og _ hq,aQ];simp
end
section
open Go.ChangeShapes Go.WideShapes Go.ChangeAt Go.RowKit
theorem own:ownKnob Try.prog.godebug=none:=by kernel_rfl
theorem laidOut:laidOutB Try.prog=true:=by kernel_rfl
theorem Mp{H:Type}{enc:TypeId×Value→H}{P:Program}(hl:laidOutB P=true){W W':World}(hb:Below W.heap.size W W'):
  ∀{ts:List TypeId}{vs:List Value}{ds:List (DataW H)}{ps:List MemPlace},(ts.all λt=>P.readableRec t&&decide (t<P.types.size))=true→
   DataW.TrodAll enc P W 0 (λ_=>true) true ts vs ds ps→(∀x∈ps,x.block<W.heap.size)→DataW.TrodAll enc P W' 0 (λb=>decide (b<W.heap.size)) true ts vs ds ps
 |[],[],[],_,_,h,_=>h
 |t::ts,v::vs,d::ds,ps,hts,h,hlt=>by
  obtain⟨p,q,h1,h2,rfl⟩:=h;simp only[List.all_cons,eH,decide_eq_true_eq]at hts
  exact⟨p,q,Below.trod hl hts.1.1 hts.1.2 h1 hb (λx hx=>hlt x (List.mem_append_left _ hx)),
   Mp hl hb (by simpa using hts.2) h2 (λx hx=>hlt x (List.mem_append_right _ hx)),rfl⟩
 |[],_::_,_,_,_,h,_=>h.elim
 |[],[],_::_,_,_,h,_=>h.elim
 |_::_,[],_,_,_,h,_=>h.elim
 |_::_,_::_,[],_,_,h,_=>h.elim
theorem Yz{H:Type}{enc:TypeId×Value→H}{f:Func}{s:ChangeSpec}{W W':World}{args:Array Value}{ds gs:List (DataW H)}{before:List MemPlace}{t:TypeId}
  (hts:(f.params.toList.all λt=>Try.prog.readableRec t&&decide (t<Try.prog.types.size))=true) (uX:f.resultTypes=#[t]) (ht:Try.prog.underlying t=some .bool) (hvs:s.vars=[])
  (hW:DataW.Whole enc Try.prog f.params.toList s.vars false W args.toList ds gs before) (hb:Below W.heap.size W W')
  (JA:s.fn H (ds++gs)={results:=[.lit (.bool true)],args:=ds}):
  s.post enc Try.prog f false true false false W args (.bool true) W':=by
 have FG:=hW;obtain⟨p,q,hA,hV,rfl,hfz,hnd⟩:=hW;have hlt:∀x∈p++q,x.block<W.heap.size:=λx hx=>FG.lt x hx
 refine⟨ds,gs,p++q,[],p,[],FG,?_,?_,?_,hb.frame _,λh=>by cases h⟩
 ·rw[JA,uX];exact trodAll_cons_mk (shut_bool ht _) trodAll_mk0
 ·rw[JA];exact Mp laidOut hb hts hA (λx hx=>hlt x (List.mem_append_left _ hx))
 ·rw[JA,hvs];exact rfl
end
section
open Go.RowKit Go.Deep
section
variable {c : RC}
theorem tT:aC c [] []:=by simp [aC]
theorem fH{a:AV}{v:Value}{l:an}{vs:List Value}(h:ak c a v)(k:aC c l vs):aC c (a::l) (v::vs):=by simp only[aC];exact⟨v,vs,rfl,h,k⟩
theorem nj(k:IntKind)(n:Int):ak c (.int k n) (.int k n):=by simp [ak]
theorem YJ(b:Bool):ak c (.bool b) (.bool b):=by simp [ak]
theorem zZ(s:ByteArray):ak c (.str s) (.string s):=by simp [ak]
def RP{α:Type}(c:RC)(d:cA α)(e:α→an)(ok:α→Prop):Prop:=∀cs x,d.is c.w cs x→aC c (e x) cs∧ok x∧(∀v∈cs,cD v=true)
theorem ON:∀{l:an}{vs:List Value},aC c l vs→l.length=vs.length
 |[],vs,h=>by simp only[aC]at h;subst h;rfl
 |a::l,vs,h=>by simp only[aC]at h;obtain⟨v,vs',rfl,_,h⟩:=h;simp [ON h]
theorem OL{b:Nat}:∀{l:an}{vs:List Value}{off:Nat},aC c l vs→(∀v∈vs,cD v=true)→(∀j,j<vs.length→c.w.cell? ⟨b,off+j,none⟩=vs[j]?)→aT c b off l
 |[],vs,off,h,_,_=>by simp [aT]
 |a::l,vs,off,h,ho,hc=>by simp only[aC]at h;obtain⟨v,vs',rfl,h1,h2⟩:=h;simp only[aT];refine⟨⟨v,by simpa using hc 0 (by simp),ho v (by simp),h1⟩,OL h2 (λv hv=>ho v (by simp [hv])) λj hj=>?_⟩;have:=hc (j+1) (by simpa using hj);rw[show off+1+j=off+(j+1) by omega];simpa using this
theorem OM{α:Type}{d:cA α}{e:α→an}{ok:α→Prop}(H:RP c d e ok){b sz:Nat}(hsz:d.size=sz):∀{l:List α}{off:Nat},(∀(i:Nat)(x:α),l[i]? =some x→∃cs',(∀j,j<d.size→c.w.cell? ⟨b,off+(i*d.size+j),none⟩=cs'[j]?)∧d.is c.w cs' x)→aX c sz b off (l.map e)∧∀x∈l,ok x
 |[],off,h=>by simp [aX]
 |x::l,off,h=>by
  obtain⟨cs,h1,h2⟩:=h 0 x rfl;obtain⟨k1,k2,k3⟩:=H cs x h2;have hl:cs.length=d.size:=d.len h2
  obtain⟨r1,r2⟩:=OM H hsz (l:=l) (off:=off+sz) (λi y hy=>by
   obtain⟨cs',q1,q2⟩:=h (i+1) y (by simpa using hy);refine⟨cs',λj hj=>?_,q2⟩;have:=q1 j hj;rw[←hsz]
   rwa[show off+d.size+(i*d.size+j)=off+((i+1)*d.size+j) by rw[Nat.succ_mul];omega])
  refine⟨?_,λy hy=>?_⟩
  ·simp only[fJ,aX];refine⟨by rw[ON k1,hl,hsz],OL k1 k3 λj hj=>?_,r1⟩;have:=h1 j (by rw[←hl];exact hj);simpa using this
  ·rcases eM.1 hy with rfl|hy
   ·exact k2
   ·exact r2 y hy
theorem Ze{w:World}{b off:Nat}{v:Value}(h:w.cell? ⟨b,off,none⟩=some v):b<w.heap.size:=by
 rcases Nat.lt_or_ge b w.heap.size with k|k
 ·exact k
 ·simp [World.cell?,Array.getElem?_eq_none k]at h
theorem xk{α:Type}{d:cA α}{e:α→an}{ok:α→Prop}(hX:∀b,¬c.X b)(H:RP c d e ok){sz:Nat}(hsz:d.size=sz)(h0:0<sz){v:Value}{l:List α}(h:(ck d).is c.w [v] l):ak c (sl sz e l) v∧fR ok l∧cD v=true:=by
 rcases h with⟨h1,rfl⟩|⟨b,off,sp,cap,h1,h2,h3,h4⟩
 ·simp only[List.cons.injEq,and_true]at h1;subst h1;exact⟨by simp [sl,ak,h0],⟨by simp,by simp⟩,rfl⟩
 ·simp only[List.cons.injEq,and_true]at h1;subst h1
  have tC:sp=none∨l=[]:=by
   cases l with
   |nil=>exact .inr rfl
   |cons x l=>exact .inl (h4 0 (by simp)).1
  have hh:∀(i:Nat)(x:α),l[i]? =some x→∃cs',(∀j,j<d.size→c.w.cell? ⟨b,off+(i*d.size+j),none⟩=cs'[j]?)∧d.is c.w cs' x:=by intro i x hx;obtain⟨hi,hx⟩:=bU.1 hx;subst hx;exact(h4 i hi).2
  obtain⟨r1,r2⟩:=OM H hsz hh;refine⟨?_,⟨by unfold maxLen at h3;unfold bQ;omega,r2⟩,rfl⟩;simp only[sl,ak];refine⟨some ⟨b,off,sp⟩,cap,by simp,by simpa using h2,h0,?_⟩;rcases tC with rfl|rfl
  ·cases l with
   |nil=>exact .inl rfl
   |cons x l=>
    refine .inr ⟨b,off,rfl,?_,hX b,r1⟩;obtain⟨cs,q1,q2⟩:=hh 0 x rfl;have hl:cs.length=d.size:=d.len q2;have:=q1 0 (by omega);obtain⟨y,hy⟩:∃y,cs[0]? =some y:=⟨cs[0],cI (by omega)⟩
    rw[hy]at this;exact Ze this
  ·exact .inl rfl
theorem xm:∀v∈([]:List Value),cD v=true:=by simp
theorem gY{v:Value}{vs:List Value}(h:cD v=true)(k:∀x∈vs,cD x=true):∀x∈v::vs,cD x=true:=by
 intro x hx;rcases eM.1 hx with rfl|hx
 ·exact h
 ·exact k x hx
theorem Qw:RP c bu cC aZ:=by rintro cs x ⟨rfl,h⟩;exact⟨fH (nj _ _) tT,h,by simp [cD]⟩
theorem YO:RP c ud gm I7:=by rintro cs x ⟨rfl,h0,h1,h2⟩;exact⟨(fH (nj _ _) (fH (nj _ _) (fH (zZ _) tT))),⟨h0,h1,(show iK _ by unfold iK bQ;have:=h2;unfold maxLen at this;omega)⟩,(gY rfl (gY rfl (gY rfl xm)))⟩
theorem YN(hX:∀b,¬c.X b):RP c uc b7 I6:=by rintro cs x ⟨v0,rfl,h0,h1,h2,h3,h4,h6⟩;obtain⟨r6,o6,n6⟩:=xk hX YO (sz:=3) rfl (by decide) h6;exact⟨(fH (zZ _) (fH (nj _ _) (fH (nj _ _) (fH (nj _ _) (fH (nj _ _) (fH (YJ _) (fH r6 tT))))))),⟨(show iK _ by unfold iK bQ;have:=h0;unfold maxLen at this;omega),h1,h2,h3,h4,o6⟩,(gY rfl (gY rfl (gY rfl (gY rfl (gY rfl (gY rfl (gY n6 xm)))))))⟩
theorem WK(hX:∀b,¬c.X b):RP c tQ cH wY:=by rintro cs x ⟨v0,rfl,h0,h1,h2⟩;obtain⟨r2,o2,n2⟩:=xk hX (YN hX) (sz:=7) rfl (by decide) h2;exact⟨(fH (zZ _) (fH (nj _ _) (fH r2 tT))),⟨(show iK _ by unfold iK bQ;have:=h0;unfold maxLen at this;omega),h1,o2⟩,(gY rfl (gY rfl (gY n2 xm)))⟩
theorem Z4:RP c uj eD Qn:=by rintro cs x ⟨rfl,h0,h1,h2,h3⟩;exact⟨(fH (nj _ _) (fH (zZ _) (fH (nj _ _) (fH (nj _ _) tT)))),⟨h0,(show iK _ by unfold iK bQ;have:=h1;unfold maxLen at this;omega),h2,h3⟩,(gY rfl (gY rfl (gY rfl (gY rfl xm))))⟩
theorem aaZ(hX:∀b,¬c.X b):RP c RU dr nQ:=by rintro cs x ⟨v0,v1,rfl,h0,h1⟩;obtain⟨r0,o0,n0⟩:=xk hX (WK hX) (sz:=3) rfl (by decide) h0;obtain⟨r1,o1,n1⟩:=xk hX Z4 (sz:=4) rfl (by decide) h1;exact⟨(fH r0 (fH r1 tT)),⟨o0,o1⟩,(gY n0 (gY n1 xm))⟩
theorem WL:RP c Er aH NS:=by rintro cs x ⟨rfl,h0,h1,h2⟩;exact⟨(fH (nj _ _) (fH (zZ _) (fH (nj _ _) tT))),⟨⟨h0,(show iK _ by unfold iK bQ;have:=h1;unfold maxLen at this;omega)⟩,h2⟩,(gY rfl (gY rfl (gY rfl xm)))⟩
theorem aaY(hX:∀b,¬c.X b):RP c Rn kS Q8:=by rintro cs x ⟨v0,rfl,h0,h1,h2⟩;obtain⟨r0,o0,n0⟩:=xk hX Qw (sz:=1) rfl (by decide) h0;exact⟨(fH r0 (fH (nj _ _) (fH (nj _ _) tT))),⟨o0,h1,h2⟩,(gY n0 (gY rfl (gY rfl xm)))⟩
theorem Qx{α:Type}{d:cA α}{e:α→an}{ok:α→Prop}(H:RP c d e ok){cs:Array Value}{x:α}(h:d.is c.w cs.toList x):ak c (.agg (e x)) (.agg cs)∧ok x:=by obtain⟨h1,h2,h3⟩:=H _ _ h;simp only[ak];exact⟨⟨cs,rfl,h1,h3⟩,h2⟩
end
end
section
open Go.RowKit
theorem aaQ{s:ByteArray}(h:s.size≤maxLen):iK s:=by unfold iK bQ;unfold maxLen at h;omega
noncomputable def base (W:World):RC:=ctx ⟨W,[],λ_=>False,aJ⟩ W [] bY
theorem EI(W:World):∀b,¬(base W).X b:=by
 rintro b (k|⟨p,hp,_⟩|⟨i,k⟩)
 ·exact k
 ·cases hp
 ·cases k
theorem ZJ{n:FuncId}{m:an→Heap→az}{kD:an}(hs:Sound Try.prog aJ n m)(hc:∀us w,(callFunc n us).run Try.prog w=.ok (.enter n us) w)(W:World)(vs:Array Value)(hr:aC (base W) kD vs.toList)(hm:m kD []=some (.bool true,[])):
  Calls Try.prog n vs W λe W'=>e=.returned (.bool true)∧Below W.heap.size W W':=by
 have hh0:eB (ctx ⟨W,[],λ_=>False,aJ⟩ W [] bY) []:=by
  refine⟨rfl,λi j p q hp=>?_,λi p x hp=>?_⟩
  ·simp [ctx]at hp
  ·simp [ctx]at hp
 rcases hs _ _ _ _ hm with⟨g,h1,h2⟩|hv
 case inr=>
  obtain⟨v,w',E',k1,_⟩:=hv ⟨W,[],λ_=>False,aJ⟩ vs rfl (λb k=>k.elim) hh0 hr;rw[hc]at k1;injection k1 with k1
  cases k1
 have hg:g=n:=by
  have e1:=h1 #[] W;rw[hc #[] W]at e1;injection e1 with e1
  injection e1 with e1
  exact e1.symm
 subst hg
 have hh:eB (ctx ⟨W,[],λ_=>False,aJ⟩ W [] bY) []:=by
  refine⟨rfl,λi j p q hp=>?_,λi p x hp=>?_⟩
  ·simp [ctx]at hp
  ·simp [ctx]at hp
 refine(h2 ⟨W,[],λ_=>False,aJ⟩ vs rfl (λb k=>k.elim) hh hr).mono ?_;rintro e w' ⟨v,E',rfl,ho,_,hv⟩;simp only[ak]at hv;subst hv;exact⟨rfl,ho.os,ho.tape,ho.output,ho.size,λk hk=>ho.stay k hk (λp hp=>by cases hp)⟩
end
end Go.Proofs.Ytjjjjbgohkklnaa
