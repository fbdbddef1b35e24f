/- Parts of the proof of PlayReplaysComeBack, in order. -/
import Derived.Orders
import Derived.Below
import Derived.WalkKit
import Derived.Laws.StructEq
import Derived.Laws.Append
import Derived.Laws.AppendOwn
import Derived.Test.YtooknfkholjpbaaGreatRows
import Derived.KernelRfl
import Derived.Lib.Bytealg
import Derived.Sort.Defs
import Derived.Lib.BitFns
import Derived.Test.YtooknfkholjpbaaGreatShelf
import Derived.Laws.Externs
import Derived.Lib.Overlaps
import Derived.IntWalk
import Derived.Sort.Statements
import Derived.Shelf.SlSortCmp.WholeK
import Derived.Shelf.SlSortCmp.NoneTotal
import Derived.Sort.AssemblyPlain
import Derived.Lib.Strings
import Derived.Test.YtooknfkholjpbaaGreatKPlayReplaysComeBack4
namespace Go.Proofs.YtooknfkholjpbaaGreat
set_option linter.unusedVariables false
set_option linter.unusedSimpArgs false
set_option linter.unusedSectionVars false
section
set_option maxRecDepth 100000
open HP
theorem akY {s:List Sh} {ro:Sh} {r:AV→AV→AV→Heap→Option (AV×Heap)} {x y z v v':AV} {σ:Heap} (h:[x,y,z].any A.own=false) (e1:A.bV s [x,y,z]=[x,y,z]) (e2:A.nn ro v=v') (e:r x y z σ=some (v,σ)):A.wrap true s ro (A.lp r) [x,y,z] σ=some (v',σ):=by
 refine wrap_eq h ?_ e2
 rw[e1]
 exact e
theorem BH {x y X Y:Int} (hx:0≤x) (hx2:x≤X) (hy:0≤y) (hy2:y≤Y):0≤x*y∧x*y≤X*Y:=⟨Int.mul_nonneg hx hy,Int.mul_le_mul hx2 hy2 hy (by omega)⟩
def mo (l:List lE) (p q:Int):Nat→Nat→Nat
 |0,i=>i
 |f+1,i=>if i+2<l.length∧(l.getD (i+1) dS).time*q≤1000*p then mo l p q f (i+1)else i
def SM (l:List lE) (p q:Int):Int:=(l.getD (mo l p q l.length 0) dS).way*((l.getD (mo l p q l.length 0+1) dS).time-(l.getD (mo l p q l.length 0) dS).time)*q+((l.getD (mo l p q l.length 0+1) dS).way-(l.getD (mo l p q l.length 0) dS).way)*(1000*p-(l.getD (mo l p q l.length 0) dS).time*q)
def SL (l:List lE) (p q:Int):Int:=(l.getD (mo l p q l.length 0+1) dS).time-(l.getD (mo l p q l.length 0) dS).time
def mZ (c:oM) (p q:Nat):Nat×Nat:=
 if c.kind=2 then(p*p,q*q)else if c.kind=3 then(p*(2*q-p),q*q)else if c.kind=4 then(p*p*(3*q-2*p),q*q*q)else if c.kind=5 then(if p<q then(0,1)else(1,1))
 else if c.kind=6 then((SM c.points p q).toNat,(1000*SL c.points p q).toNat*q)else(p,q)
structure Z9 (l : List lE) : Prop where
 two:2≤l.length
 len:l.length≤20
 bd:∀i,i<l.length→0≤(l.getD i dS).time∧(l.getD i dS).time≤1000∧0≤(l.getD i dS).way∧(l.getD i dS).way≤1000
 fst:(l.getD 0 dS).time=0
 lst:(l.getD (l.length-1) dS).time=1000
 ord:∀i,i+1<l.length→(l.getD i dS).time<(l.getD (i+1) dS).time∧(l.getD i dS).way≤(l.getD (i+1) dS).way
theorem alE {c:oM} (h:oN c=0) (h6:c.kind=6):Z9 c.points:=by
 unfold oN at h
 split at h
 ·cases h
 try rw[if_pos h6]at h
 split at h
 ·cases h
 split at h
 ·cases h
 rename_i h2 IZ
 unfold SE at h
 split at h
 ·cases h
 rename_i hb
 split at h
 ·cases h
 rename_i hf
 split at h
 ·cases h
 rename_i hl
 split at h
 ·cases h
 rename_i ho
 have hb':∀p∈c.points,Dv p=false:=by
  intro p hp
  cases q:Dv p
  ·rfl
  ·exact absurd (List.any_eq_true.2 ⟨p,hp,q⟩) hb
 have hf:=Decidable.not_not.1 hf
 have hl:=Decidable.not_not.1 hl
 refine⟨by omega,by omega,fun i hi=>?_,hf.1,hl.1,fun i hi=>?_⟩
 ·have e:=Bx hi
  have:=hb' _ (List.mem_of_getElem? e)
  unfold Dv aR at this
  simp only[Bool.or_eq_false_iff,Bool.not_eq_false',decide_eq_true_eq]at this
  omega
 ·have h1:¬DO c.points (i+1)=true:=fun q=>ho (List.any_eq_true.2 ⟨i+1,by rw[List.mem_range'];exact⟨i,by omega,by omega⟩,q⟩)
  unfold DO at h1
  simp only[decide_eq_true_eq,Nat.add_sub_cancel]at h1
  omega
theorem Yk {l:List lE} {p q:Int}:∀(f i:Nat),i+f=l.length→i+1<l.length→(l.getD i dS).time*q≤1000*p→mo l p q f i+1<l.length∧(l.getD (mo l p q f i) dS).time*q≤1000*p∧(1000*p<(l.getD (mo l p q f i+1) dS).time*q∨mo l p q f i+2=l.length)
 |0,i,h1,h2,_=>by omega
 |f+1,i,h1,h2,h3=>by
  rw[mo]
  split
  ·rename_i h
   exact Yk f (i+1) (by omega) (by omega) h.2
  ·rename_i h
   refine⟨h2,h3,?_⟩
   by_cases h4:i+2<l.length
   ·exact .inl (Int.lt_of_not_ge fun q=>h ⟨h4,q⟩)
   ·exact .inr (by omega)
theorem ajg {l : List lE} (hl : Z9 l) {p q : Int} (hp : 0 ≤ p) (hp2 : p ≤ 36000000) (hq : 0 < q) (vL : q ≤ 36000000) (σ : Heap) : ∃ r, A.loop ((fun v64 gp =>
        (A.add (v64.getD 2 AV.undef) (AV.int .i64 2)).bind fun jR=>
        (A.bJ (sl 2 gX l)).bind fun iq=>
        (A.lss jR iq).bind fun fP=>
        (A.guard fP true (some (AV.int .i64 p)) an).bind fun ff=>
        (A.guard fP true (A.mul (AV.int .i64 1000) ff) an).bind fun n5=>
        (A.guard fP true (some (sl 2 gX l)) an).bind fun pY=>
        (A.guard fP true (some (v64.getD 2 AV.undef)) an).bind fun iH=>
        (A.guard fP true (A.add iH aH) an).bind fun iu=>
        (A.guard fP true (A.aT 2 pY iu) an).bind fun eE=>
        (A.guard fP true (A.aA 0 eE) an).bind fun je=>
        (A.guard fP true ((A.deref je gp).bind fun lR=>A.aj 0 lR) an).bind fun jC=>
        (A.guard fP true (some (AV.int .i64 q)) an).bind fun jS=>
        (A.guard fP true (A.mul jC jS) an).bind fun fT=>
        (A.guard fP true (A.geq n5 fT) an).bind fun pZ=>
        (A.pick fP pZ aM).bind fun p4=>
        A.cond p4 (
         (A.add (v64.getD 2 AV.undef) aH).bind fun rj=>
         some (AX.normal,[(v64.getD 0 AV.undef),(v64.getD 1 AV.undef),rj],gp)) (
         some (AX.exit 1,[(v64.getD 0 AV.undef),(v64.getD 1 AV.undef),(v64.getD 2 AV.undef)],gp)))) [.lbx [(AV.int .u64 0),(AV.int .u64 0)],.lbx [(AV.int .u64 0),(AV.int .u64 0)],.int .i64 0] σ=some r∧r=(.exit 1,[.lbx [(AV.int .u64 0),(AV.int .u64 0)],.lbx [(AV.int .u64 0),(AV.int .u64 0)],.int .i64 (mo l p q l.length 0:Nat)],σ):=by
 have IZ:=hl.len
 refine mm (fun z v w=>∃i:Nat,v=[.lbx [(AV.int .u64 0),(AV.int .u64 0)],.lbx [(AV.int .u64 0),(AV.int .u64 0)],.int .i64 (i:Int)]∧w=σ∧z=l.length-i∧i≤l.length∧mo l p q (l.length-i) i=mo l p q l.length 0) ?_ (n:=l.length) ⟨0,rfl,rfl,rfl,Nat.zero_le _,rfl⟩
 rintro z v w ⟨i,rfl,rfl,hz,hi,hT⟩
 simp only[List.getD_cons_zero,List.getD_cons_succ]
 rw[show A.add (.int .i64 (i:Int)) (.int .i64 2)=some (.int .i64 ((i+2:Nat):Int))from Bq (b:=2) (by omega),bS,fL,bS,kN,bS]
 by_cases h1:i+2<l.length
 ·obtain⟨b1,b2,_,_⟩:=hl.bd (i+1) (by omega)
  have m1:=BH b1 b2 (Int.le_of_lt hq) vL
  have ex:=Bx (l:=l) (i:=i+1) (by omega)
  rw[decide_eq_true (by omega)]
  simp only[gT,bS]
  rw[wF,wrap64 (by unfold aP;omega),bS,show A.add (.int .i64 (i:Int)) (.int .i64 1)=some (.int .i64 ((i+1:Nat):Int))from Bq (b:=1) (by omega),bS,iQ ex,bS,show A.aA 0 (.rp (gX (l.getD (i+1) dS)))=some (.rp (gX (l.getD (i+1) dS)))from rfl,bS,nU,bS,show A.aj 0 (gX (l.getD (i+1) dS))=some (.int .i64 (l.getD (i+1) dS).time)from rfl,bS,wF,wrap64 (by unfold aP;omega),bS,rQ,bS]
  simp only[lD,bS]
  rw[show l.length-i=(l.length-(i+1))+1 by omega,mo]at hT
  by_cases h2:(l.getD (i+1) dS).time*q≤1000*p
  ·rw[decide_eq_true h2,cW]
   rw[if_pos ⟨h1,h2⟩]at hT
   exact .inl ⟨l.length-(i+1),_,_,by omega,rfl,i+1,rfl,rfl,rfl,by omega,hT⟩
  ·rw[decide_eq_false h2,cD]
   rw[if_neg (fun q=>h2 q.2)]at hT
   exact .inr ⟨_,rfl,by simp,by rw[hT]⟩
 ·rw[decide_eq_false (by omega)]
  simp only[uw,bS,mg]
  rw[cD]
  refine .inr ⟨_,rfl,by simp,?_⟩
  have:mo l p q (l.length-i) i=i:=by
   cases hf:l.length-i with
   |zero=>rfl
   |succ f=>rw[mo,if_neg (fun q=>h1 q.1)]
  rw[←hT,this]
theorem AR {α:Type} {X:Option α} {v:α} (h:∃b,X=some b∧b=v):X=some v:=by obtain⟨b,h,rfl⟩:=h;exact h
theorem aaG {c:oM} (hc:oN c=0) {p q:Nat} (hp:0<p) (hpq:p<q) (hq:q≤36000000) (σ:Heap):KI [.agg (lN c),.int .i64 (p:Int),.int .i64 (q:Int)] σ=some (.aG [.agg (wd (mZ c p q).1),.agg (wd (mZ c p q).2)],σ)∧(mZ c p q).1≤(mZ c p q).2∧0<(mZ c p q).2∧(mZ c p q).2<100000000000000000000000000:=by
 have q2:q*q≤36000000*36000000:=Nat.mul_le_mul hq hq
 have q3:q*q*q≤36000000*36000000*36000000:=Nat.mul_le_mul q2 hq
 have TZ:0<q*q:=Nat.mul_pos (by omega) (by omega)
 have q3p:0<q*q*q:=Nat.mul_pos TZ (by omega)
 have pp:p*p≤q*q:=Nat.mul_le_mul (by omega) (by omega)
 have head:∀{v:AV},A.nn .k v=v→True:=fun _=>trivial
 have go:(KP (.agg (lN c)) (.int .i64 (p:Int)) (.int .i64 (q:Int)) σ=some (.aG [.agg (wd (mZ c p q).1),.agg (wd (mZ c p q).2)],σ))→KI [.agg (lN c),.int .i64 (p:Int),.int .i64 (q:Int)] σ=some (.aG [.agg (wd (mZ c p q).1),.agg (wd (mZ c p q).2)],σ):=fun h=>akY rfl (iS (qH rfl) rfl) (iM _) h
 suffices KP (.agg (lN c)) (.int .i64 (p:Int)) (.int .i64 (q:Int)) σ=some (.aG [.agg (wd (mZ c p q).1),.agg (wd (mZ c p q).2)],σ)∧(mZ c p q).1≤(mZ c p q).2∧0<(mZ c p q).2∧(mZ c p q).2<100000000000000000000000000 from⟨go this.1,this.2⟩
 clear go head
 unfold KP mZ
 rw[show A.cells 2 (.agg (lN c))=some (lN c)from rfl,bS,yQ (by omega),bS,wq (by omega) (by omega) (by omega),bS,nA,bS,oO,bS,show A.aj 0 (lN c)=some (.int .i64 c.kind)from rfl,bS,iN,bS]
 by_cases k2:c.kind=2
 ·rw[decide_eq_true k2,cW,if_pos k2,quiet_of (yQ (by omega) σ),bS,quiet_of (wq (by omega) (by omega) (by omega) σ),bS,mS,bS,nA,bS,oO,bS,nA,bS,oO,bS,mS,bS,mS,bS]
  exact⟨bC _ _,pp,TZ,by omega⟩
 rw[decide_eq_false k2,cD,if_neg k2,iN,bS]
 by_cases k3:c.kind=3
 ·have hm:p*(2*q-p)≤q*q:=by
   obtain⟨t,rfl⟩:∃t,q=p+t:=⟨q-p,by omega⟩
   rw[show 2*(p+t) -p=p+2*t by omega,Nat.mul_add,Nat.add_mul,Nat.mul_add,Nat.mul_add]
   have e1:p*(2*t)=p*t+p*t:=by rw[←Nat.mul_add];congr 1;omega
   have e2:t*p=p*t:=Nat.mul_comm _ _
   rw[e1,e2];omega
  rw[decide_eq_true k3,cW,if_pos k3,quiet_of (yQ (by omega) σ),bS,Fj (by omega),bS,PX (by omega) (by omega),bS,quiet_of (wq (by omega) (by omega) (by omega) σ),bS,mS,bS,nA,bS,oO,bS,nA,bS,oO,bS,mS,bS,mS,bS]
  exact⟨bC _ _,hm,TZ,by omega⟩
 rw[decide_eq_false k3,cD,if_neg k3,iN,bS]
 by_cases k4:c.kind=4
 ·have hm:p*p*(3*q-2*p)≤q*q*q:=by
   obtain⟨t,rfl⟩:∃t,q=p+t:=⟨q-p,by omega⟩
   rw[show 3*(p+t) -2*p=p+3*t by omega]
   have e1:(p+t)*(p+t)*(p+t)=p*p*(p+3*t)+(3*p*(t*t)+t*t*t):=by
    simp only[Nat.add_mul,Nat.mul_add]
    have a1:p*p*(3*t)=p*p*t+p*p*t+p*p*t:=by rw[show 3*t=t+t+t by omega,Nat.mul_add,Nat.mul_add]
    have a2:p*t*p=p*p*t:=by rw[Nat.mul_right_comm]
    have a3:t*p*p=p*p*t:=by rw[Nat.mul_comm t p,Nat.mul_right_comm]
    have a4:t*p*t=p*(t*t):=by rw[Nat.mul_comm t p,Nat.mul_assoc]
    have a5:p*t*t=p*(t*t):=Nat.mul_assoc _ _ _
    have a6:t*t*p=p*(t*t):=Nat.mul_comm _ _
    have a7:3*p*(t*t)=p*(t*t)+p*(t*t)+p*(t*t):=by rw[show 3*p=p+p+p by omega,Nat.add_mul,Nat.add_mul]
    rw[a1,a2,a3,a4,a5,a6,a7];omega
   rw[e1];omega
  rw[decide_eq_true k4,cW,if_pos k4,quiet_of (yQ (by omega) σ),bS,quiet_of (wq (by omega) (by omega) (by omega) σ),bS,show A.mul (.int .i64 3) (.int .i64 (q:Int))=some (.int .i64 ((3*q:Nat):Int))from ahx (a:=3) (by omega),bS,Fj (by omega),bS,PX (by omega) (by omega),bS,quiet_of (wq (by omega) (by omega) (by omega) σ),bS,mS,bS,quiet_of (wq (by omega) (by omega) (by omega) σ),bS,nA,bS,oO,bS,nA,bS,oO,bS,mS,bS,mS,bS]
  exact⟨bC _ _,hm,q3p,by omega⟩
 rw[decide_eq_false k4,cD,if_neg k4,iN,bS]
 by_cases k5:c.kind=5
 ·rw[decide_eq_true k5,cW,if_pos k5,kN,bS,decide_eq_true (by omega),cW,if_pos hpq,show oc [.int .i64 0] σ=some (.agg (wd 0),σ)from yQ (n:=0) (by omega) σ,bS]
  simp only
  rw[show oc [.int .i64 1] σ=some (.agg (wd 1),σ)from yQ (n:=1) (by omega) σ,bS]
  simp only
  rw[nA,bS,oO,bS,nA,bS,oO,bS,mS,bS,mS,bS]
  exact⟨bC _ _,by omega,by omega,by omega⟩
 rw[decide_eq_false k5,cD,if_neg k5,iN,bS]
 by_cases k6:c.kind=6
 ·rw[decide_eq_true k6,cW,if_pos k6,show A.aj 1 (lN c)=some (sl 2 gX c.points)from rfl,bS]
  have hl:=alE hc k6
  have IZ:=hl.len
  obtain⟨s1,s2,s3⟩:=Yk (l:=c.points) (p:=(p:Int)) (q:=(q:Int)) c.points.length 0 (by omega) (by have:=hl.two;omega) (by rw[hl.fst];omega)
  generalize hI:mo c.points (p:Int) (q:Int) c.points.length 0=i at s1 s2 s3
  obtain⟨a1,a2,a3,a4⟩:=hl.bd i (by omega)
  obtain⟨b1,b2,b3,b4⟩:=hl.bd (i+1) s1
  obtain⟨o1,o2⟩:=hl.ord i s1
  have exA:=Bx (l:=c.points) (i:=i) (by omega)
  have exB:=Bx (l:=c.points) (i:=i+1) s1
  have eN:SM c.points (p:Int) (q:Int)=(c.points.getD i dS).way*((c.points.getD (i+1) dS).time-(c.points.getD i dS).time)*(q:Int)+((c.points.getD (i+1) dS).way-(c.points.getD i dS).way)*(1000*(p:Int) -(c.points.getD i dS).time*(q:Int)):=by unfold SM;rw[hI]
  have eL:SL c.points (p:Int) (q:Int)=(c.points.getD (i+1) dS).time-(c.points.getD i dS).time:=by unfold SL;rw[hI]
  have hbt:1000*(p:Int)≤(c.points.getD (i+1) dS).time*(q:Int):=by
   rcases s3 with s3|s3
   ·omega
   ·have:=hl.lst
    rw[show c.points.length-1=i+1 by omega]at this
    rw[this];omega
  rw[eN,eL]
  generalize hA:c.points.getD i dS=pa at exA a1 a2 a3 a4 o1 o2 s2
  generalize hB:c.points.getD (i+1) dS=pb at exB b1 b2 b3 b4 o1 o2 hbt
  obtain⟨T,hT⟩:∃T,T=pb.time-pa.time:=⟨_,rfl⟩
  obtain⟨D,hD⟩:∃D,D=pb.way-pa.way:=⟨_,rfl⟩
  have m1:=BH a1 a2 (show(0:Int)≤(q:Int) by omega) (show(q:Int)≤36000000 by omega)
  obtain⟨U,hU⟩:∃U,U=1000*(p:Int) -pa.time*(q:Int):=⟨_,rfl⟩
  have m2:=BH a3 a4 (show 0≤T by omega) (show T≤1000 by omega)
  have m3:=BH m2.1 m2.2 (show(0:Int)≤(q:Int) by omega) (show(q:Int)≤36000000 by omega)
  have m4:=BH (show 0≤D by omega) (show D≤1000 by omega) (show 0≤U by omega) (show U≤36000000000 by omega)
  have m5:=BH (show 0≤T by omega) (show T≤1000 by omega) (show(0:Int)≤(q:Int) by omega) (show(q:Int)≤36000000 by omega)
  have hUT:U≤T*(q:Int):=by rw[hT,Int.sub_mul];omega
  have m6:D*U≤D*(T*(q:Int)):=Int.mul_le_mul_of_nonneg_left hUT (by omega)
  have m7:pb.way*(T*(q:Int))≤1000*(T*(q:Int)):=Int.mul_le_mul_of_nonneg_right b4 m5.1
  have m8:pa.way*T*(q:Int)+D*(T*(q:Int))=pb.way*(T*(q:Int)):=by rw[hD,Int.sub_mul,Int.mul_assoc];omega
  rw[←hT,←hD,←hU]
  have t1:0<T:=by omega
  have t2:0<T*(q:Int):=Int.mul_pos t1 (by omega)
  have pV:(((1000*T).toNat*q:Nat):Int)=1000*(T*(q:Int)):=by rw[Int.natCast_mul,Int.toNat_of_nonneg (by omega),Int.mul_assoc]
  refine⟨AR (FN (ajg hl (p:=(p:Int)) (q:=(q:Int)) (by omega) (by omega) (by omega) (by omega) σ) ?_),by show(_:Nat)≤_;omega,by show 0<(_:Nat);omega,by show(_:Nat)<_;omega⟩
  rintro r rfl
  simp only[l9,List.getD_cons_zero,List.getD_cons_succ]
  rw[hI,iQ exA,bS,nU,bS,C1,bS,show A.add (.int .i64 (i:Int)) (.int .i64 1)=some (.int .i64 ((i+1:Nat):Int))from Bq (b:=1) (by omega),bS,iQ exB,bS,nU,bS,C1,bS,CX,bS,C3 _ _ rfl,bS,CX,bS,C3 _ _ rfl,bS]
  rw[show A.aj 0 (gX pb)=some (.int .i64 pb.time)from rfl,bS,show A.aj 0 (gX pa)=some (.int .i64 pa.time)from rfl,bS,oW,wrap64 (by unfold aP;omega),←hT,bS,show A.aj 1 (gX pa)=some (.int .i64 pa.way)from rfl,bS,wF,wrap64 (by unfold aP;omega),bS,wF,wrap64 (by unfold aP;omega),bS,show A.aj 1 (gX pb)=some (.int .i64 pb.way)from rfl,bS,bS,oW,wrap64 (by unfold aP;omega),←hD,bS,wF,wrap64 (by unfold aP;omega),bS,bS,wF,wrap64 (by unfold aP;omega),bS,oW,wrap64 (by unfold aP;omega),←hU,bS,wF,wrap64 (by unfold aP;omega),bS,kV,wrap64 (by unfold aP;omega),bS]
  have of1:∀w,oc [.int .i64 (pa.way*T*(q:Int)+D*U)] w=some (.agg (wd (pa.way*T*(q:Int)+D*U).toNat),w):=fun w=>by
   have:=yQ (n:=(pa.way*T*(q:Int)+D*U).toNat) (by omega) w
   rwa[Int.toNat_of_nonneg (by omega)]at this
  have of2:∀w,oc [.int .i64 (1000*T)] w=some (.agg (wd (1000*T).toNat),w):=fun w=>by
   have:=yQ (n:=(1000*T).toNat) (by omega) w
   rwa[Int.toNat_of_nonneg (by omega)]at this
  rw[of1,bS,wF,wrap64 (by unfold aP;omega),bS]
  simp only
  rw[of2,bS]
  simp only
  rw[wq (by omega) (by omega) (by omega),bS]
  simp only
  rw[show A.lb (.lbx [(AV.int .u64 0),(AV.int .u64 0)])=some [(AV.int .u64 0),(AV.int .u64 0)]from rfl,bS,nA,bS,oO,bS,bS,nA,bS,oO,bS,mS,bS,mS,bS]
  exact⟨_,bC _ _,rfl⟩
 ·rw[decide_eq_false k6,cD,if_neg k6,yQ (by omega),bS,yQ (by omega),bS,nA,bS,oO,bS,nA,bS,oO,bS,mS,bS,mS,bS]
  exact⟨bC _ _,by omega,by omega,by omega⟩
end
section
set_option maxRecDepth 100000
open HP
structure rJ (f : gE) : Prop where
 a:0≤f.dw∧f.dw≤65535
 b:0≤f.to∧f.to≤65535
 s:0≤f.start∧f.start≤36000000
 d:0≤f.delay∧f.delay≤36000000
 t:0≤f.time∧f.time≤36000000
 e:f.start+f.delay+f.time≤36000000
 c:oN f.fq=0
noncomputable def El (f:gE) (t:Int):Int:=
 if f.start+f.delay+f.time≤t then f.to
 else if t≤f.start+f.delay then f.dw
 else DT f.dw f.to (mZ f.fq (t-(f.start+f.delay)).toNat f.time.toNat).1 (mZ f.fq (t-(f.start+f.delay)).toNat f.time.toNat).2
theorem Fw {s:List Sh} {ro:Sh} {r:AV→AV→Heap→Option (AV×Heap)} {x y z v v':AV} {σ:Heap} (h:[x,y].any A.own=false) (e1:A.bV s [x,y]=[x,y]) (e2:A.nn ro v=v') (e:r x y σ=some (v,σ)):A.wrap true s ro (A.cQ r) [x,y] σ=some (v',σ):=by
 refine wrap_eq h ?_ e2
 rw[e1]
 exact e
theorem amL {f:gE} (h:rJ f) (t:Int) (σ:Heap):Pu [.agg (fF f),.int .i64 t] σ=some (.int .i64 (El f t),σ):=by
 obtain⟨a1,a2⟩:=h.a
 obtain⟨b1,b2⟩:=h.b
 obtain⟨s1,s2⟩:=h.s
 obtain⟨d1,d2⟩:=h.d
 obtain⟨t1,t2⟩:=h.t
 have he:=h.e
 refine Fw (z:=.int .i64 0) rfl (iS (qH rfl) rfl) (iM _) ?_
 unfold Wa El
 rw[C6,bS,KV,bS,Px,bS,kV,wrap64 (by unfold aP;omega),bS,V5,bS,kV,wrap64 (by unfold aP;omega),bS,rQ,bS]
 by_cases h1:f.start+f.delay+f.time≤t
 ·rw[decide_eq_true h1,cW,if_pos h1,V4,bS]
  exact bC _ _
 rw[decide_eq_false h1,cD,if_neg h1,MM,bS]
 by_cases h2:t≤f.start+f.delay
 ·rw[decide_eq_true h2,cW,if_pos h2,V3,bS]
  exact bC _ _
 rw[decide_eq_false h2,cD,if_neg h2,adD,bS,oW,wrap64 (by unfold aP;omega),bS,bS]
 obtain⟨w,l1,l2,l3⟩:=aaG h.c (p:=(t-(f.start+f.delay)).toNat) (q:=f.time.toNat) (by omega) (by omega) (by omega) σ
 rw[Int.toNat_of_nonneg (by omega),Int.toNat_of_nonneg (by omega)]at w
 rw[w,bS]
 simp only
 generalize mZ f.fq (t-(f.start+f.delay)).toNat f.time.toNat=nd at l1 l2 l3 ⊢
 rw[kP,bS,ext1,bS,nA,bS,oO,bS,nA,bS,oO,bS,V3,bS,V4,bS,mS,bS,mS,bS,aji a1 a2 b1 b2 l2 l1 l3,bS]
 exact bC _ _
end
section
set_option maxRecDepth 100000
open HP
theorem Fv {s:List Sh} {ro:Sh} {r:AV→Heap→Option (AV×Heap)} {x v v':AV} {σ:Heap} (h:[x].any A.own=false) (e1:A.bV s [x]=[x]) (e2:A.nn ro v=v') (e:r x σ=some (v,σ)):A.wrap true s ro (A.cK r) [x] σ=some (v',σ):=by
 refine wrap_eq h ?_ e2
 rw[e1]
 exact e
theorem EE {n lo hi:Int} (h1:lo≤n) (h2:n≤hi):aR n lo hi=true:=by unfold aR;exact decide_eq_true ⟨h1,h2⟩
theorem pG (cs:List AV):A.aL (.rp cs)=some (.rp cs):=rfl
theorem lG (k:Nat) (cs:List AV):A.aA k (.rp cs)=some (.rp (cs.drop k)):=rfl
theorem WV {a b:Int} (h1:0≤a∧a≤65535) (h2:0≤b∧b≤65535):CP [a,b]=some 0:=by
 unfold CP
 rw[Br (f:=fun _ n=>if(!(aR n 0 65535))=true then 1 else 0) (by show 2≤aW;decide) (fun i x _=>by show(if _ then _ else _)=_;by_cases h:(!(aR x 0 65535))=true<;>simp only[h,if_true,if_false]<;>rfl)]
 simp only[iE,EE h1.1 h1.2,EE h2.1 h2.2]
 rfl
theorem ala {f:gE} (h:rJ f):GU f=some 0:=by
 obtain⟨s1,s2⟩:=h.s
 obtain⟨d1,d2⟩:=h.d
 obtain⟨t1,t2⟩:=h.t
 have he:=h.e
 unfold GU
 rw[WV h.a h.b,Option.bind_some,if_neg (fun q=>q rfl),EE s1 s2,EE d1 d2,EE t1 t2,show IntKind.i64.wrap (f.start+f.delay)=f.start+f.delay from wrap64 (by unfold aP;omega),wrap64 (by unfold aP;omega),EE (by omega) he,h.c]
 rfl
theorem alX {f:gE} (h:rJ f) {t:Int} (ht:0≤t) (ht2:t≤36000000) (σ:Heap):Pt [.agg (fF f),.int .i64 t] σ=some (.aG [.int .i64 (El f t),.int .i64 0],σ):=by
 refine Fw (z:=.int .i64 0) rfl (iS (qH rfl) rfl) (iM _) ?_
 unfold V9
 rw[C6,bS,Ft,bS,acW (ala h),bS]
 simp only
 rw[G3 (r:=true) (by unfold Kt;rw[EE ht ht2]),bS]
 simp only
 rw[aoi,bS,uT,bS]
 simp only
 rw[show((((A.cell (.int .i64 0)).bind fun v=>some [v]).bind fun c7=>(A.splice 0 c7 [ah,ah]).bind fun c8=>((A.cell (.int .i64 (if false=true then 1 else 0))).bind fun v=>some [v]).bind fun c9=>(A.splice 1 c9 c8).bind fun dZ=>some dZ).bind fun cs=>some (AV.sl 1 (chunks 1 2 cs)))=some (sl 1 rS [0,0])from rfl,bS,C4 _ (by decide),bS]
 simp only
 rw[show((List.find? (fun n=>decide (¬n=0)) ([0,0]:List Int)).getD 0)=0 from rfl,aaO,bS,decide_eq_false (fun q=>q rfl),cD,bS,amL h,bS]
 exact bC _ _
noncomputable def uG (r:cr) (c:Int):Int:=El r.jN (if 36000000<c then 36000000 else c)
theorem HI {r:cr} (h:rJ r.jN) {c:Int} (hc:0≤c) (σ:Heap):uK [.agg (fk r),.int .i64 c] σ=some (.int .i64 (uG r c),σ):=by
 refine Fw (z:=.int .i64 0) rfl (iS (qH rfl) rfl) (iM _) ?_
 unfold UJ
 rw[yl,bS,ad0,bS,show A.min (.int .i64 c) (.int .i64 36000000)=some (.int .i64 (if 36000000<c then 36000000 else c))from rfl,bS,alX h (by split<;>omega) (by split<;>omega),bS,kP,bS,ext1,bS]
 exact bC _ _
def dz (c:zA) (t:Int):Int:=if c.kU=true then c.shown else IntKind.i64.wrap (IntKind.i64.wrap (c.shown+t) -c.since)
theorem Mw (c:zA) (t:Int) (σ:Heap):vT [.agg (uU c),.int .i64 t] σ=some (.int .i64 (dz c t),σ):=by
 refine Mf rfl ?_
 unfold UN dz
 rw[PO,bS,afb,bS]
 cases c.kU
 ·rw[cD,if_neg (by decide),VD,bS,kV,bS,afa,bS,oW,bS];exact bC _ _
 ·rw[cW,if_pos rfl,VD,bS];exact bC _ _
def SG (r:cr):Int:=IntKind.i64.wrap (IntKind.i64.wrap (r.jN.start+r.jN.delay)+r.jN.time)
theorem al8 (r:cr) (σ:Heap):Ow [.agg (fk r)] σ=some (.int .i64 (SG r),σ):=by
 refine Fv rfl (iS (qH rfl) rfl) (iM _) ?_
 unfold UT
 rw[yl,bS,agi,bS,agj,bS,kV,bS,agk,bS,kV,bS]
 exact bC _ _
def iA (b:bg):Int:=if b.follow<0∨b.clock.kU=true then -1 else IntKind.i64.wrap (IntKind.i64.wrap (b.clock.since+b.follow) -b.clock.shown)
theorem al7 (b:bg) (σ:Heap):Bj [.rp (aK b)] σ=some (.int .i64 (iA b),σ):=by
 refine Fv rfl rfl (iM _) ?_
 unfold UI iA
 rw[pG,bS,lG,bS,Vq,bS,kN,bS]
 by_cases hf:b.follow<0
 ·rw[decide_eq_true hf]
  simp only[xC,bS,lD]
  rw[cW,if_pos (.inl hf)]
  exact bC _ _
 rw[decide_eq_false hf]
 simp only[gF,bS,pG,lG,mg,List.drop_zero,aeT]
 cases hs:b.clock.kU
 ·rw[cD,if_neg (fun q=>q.elim hf (fun q=>by cases q))]
  simp only[aeS,show ∀(x:bg) {σ:Heap},((A.deref (.rp (aK x)) σ).bind fun c=>A.aj 0 c)=some (.int .i64 x.clock.shown)from fun _ _=>rfl,Vq,bS,kV,oW]
  exact bC _ _
 ·rw[cW,if_pos (.inr rfl)]
  exact bC _ _
end
section
set_option maxRecDepth 100000
open HP
theorem gU (X:Option AV) (w:Bool) (d:Option AV):A.guard (.aG []) w X d=d:=by have h:A.guard (.aG []) w X d=d:=rfl;exact h.trans (Eq.refl d)
theorem wX (b:Bool):A.not (.bool b)=some (.bool (!b)):=rfl
section
variable {κ ν : Type} [DecidableEq κ] {ek : A.EK} {eK : κ → AV} {eV : ν → AV} {σ : Heap} {o : Option (List (κ × ν))}
theorem afQ (hq:∀a b,A.ef ek (eK a) (eK b)=some (decide (a=b))) (x:κ) (z:AV) (hok:A.jt ek (eK x)=true):A.Dh ek (nq eK eV o) (eK x) z σ=some (.aG [((cH x (o.getD [])).map eV).getD z,.bool (cH x (o.getD [])).isSome]):=by
 cases o with
 |none=>simp only[A.Dh,nq,hok,cond_true,A.entries,Option.bind_some,Option.getD_none,cH];rfl
 |some l=>simp only[A.Dh,nq,uv,hok,cond_true,A.entries,Option.bind_some,BG hq,Option.map_some,Option.getD_some,Option.isSome_map]
theorem aiv (hq:∀a b,A.ef ek (eK a) (eK b)=some (decide (a=b))) (x:κ) (z:AV) (hok:A.jt ek (eK x)=true):A.look ek (nq eK eV o) (eK x) z σ=some (((cH x (o.getD [])).map eV).getD z):=by
 cases o with
 |none=>simp only[A.look,nq,hok,cond_true,A.entries,Option.bind_some,Option.getD_none,cH];rfl
 |some l=>simp only[A.look,nq,uv,hok,cond_true,A.entries,Option.bind_some,BG hq,Option.map_some,Option.getD_some]
end
def amG:cr:=⟨⟨0,0,0,0,0,⟨0,[]⟩⟩,0,false⟩
def dJ (b:bg) (k:aB) (c:Int):cr×Bool:=match cH k (b.runs.getD [])with
 |none=>(amG,false)
 |some r=>(r,!(r.ending&&decide (SG r≤c)))
abbrev mX:List AV:=[ah,ah,ah,ah,ah,ah,AV.au,ah,aM]
theorem Ri {ro:Sh} {r:AV→AV→AV→Heap→Option (AV×Heap)} {x y z v v':AV} {σ σ':Heap} (e2:A.nn ro v=v') (e:r x y z σ=some (v,σ')):A.wrap false [] ro (A.lp r) [x,y,z] σ=some (v',σ'):=by
 have:A.lp r [x,y,z] σ=some (v,σ'):=e
 simp only[A.wrap,Bool.false_and,cond_false,A.bV,this,Option.map_some,e2]
theorem XE {p q:AV} (b:bg) (k:aB) (c:Int) (σ:Heap) (h1:A.aL p=some p) (h2:A.aA 9 p=some q) (h3:((A.deref q σ).bind fun c=>A.aj 0 c)=some (nq (fun x=>AV.agg (aN x)) (fun x=>AV.agg (fk x)) b.runs)):p5 [p,.agg (aN k),.int .i64 c] σ=some (.aG [.agg (fk (dJ b k c).1),.bool (dJ b k c).2],σ):=by
 suffices ∃v,A.nn (.t [(.a [.k,.k,.k,.k,.k,.k,(.s 2),.k,.k]),.k]) v=.aG [.agg (fk (dJ b k c).1),.bool (dJ b k c).2]∧NZ p (.agg (aN k)) (.int .i64 c) σ=some (v,σ) by
  obtain⟨v,h1,h2⟩:=this
  exact Ri h1 h2
 unfold NZ dJ
 rw[C9,bS,h1,bS,h2,bS,h3,bS,rI,bS,afQ qo k _ rfl,bS,kP,bS,ext1,bS]
 cases cH k (b.runs.getD [])with
 |none=>
  refine⟨.aG [.agg mX,.bool false],rfl,?_⟩
  simp only[Option.map_none,Option.getD_none,Option.isSome_none]
  rw[show A.cells 9 (.agg mX)=some mX from rfl,bS,show A.splice 0 mX mX=some mX from rfl,bS,show A.ay 0 9 mX=some (.agg mX)from rfl,bS]
  simp only[uw,gU,bS,mg,show A.cells 9 (.agg mX)=some mX from rfl,show A.splice 0 mX mX=some mX from rfl,show A.ay 0 9 mX=some (.agg mX)from rfl]
  exact bC _ _
 |some r=>
  refine⟨.aG [.agg (fk r),.bool (!(r.ending&&decide (SG r≤c)))],rfl,?_⟩
  simp only[Option.map_some,Option.getD_some,Option.isSome_some]
  rw[yl,bS,Bs _ _ rfl,bS,uQ,bS]
  simp only[gT,bS,KW]
  cases he:r.ending
  ·simp only[uw,bS,mg,lD,wX,yl,uQ,Bs r _ (show mX.length=9 from rfl)]
   exact bC _ _
  ·simp only[gT,bS,uQ,quiet_of (al8 r σ),rQ]
   simp only[bS,lD,wX,yl,uQ,Bs r _ (show mX.length=9 from rfl)]
   exact bC _ _
theorem aim (b:bg) (k:aB) (c:Int) (σ:Heap):p5 [.rp (aK b),.agg (aN k),.int .i64 c] σ=some (.aG [.agg (fk (dJ b k c).1),.bool (dJ b k c).2],σ):=XE b k c σ rfl rfl (KE b)
def mn (a b:Int):Int:=if b<a then b else a
theorem Th (a b:Int):A.min (.int .i64 a) (.int .i64 b)=some (.int .i64 (mn a b)):=rfl
def sU (f:gE):gE:=
 {f with start:=mn f.start 36000000,delay:=mn f.delay (IntKind.i64.wrap (36000000-mn f.start 36000000)),time:=mn f.time (IntKind.i64.wrap (IntKind.i64.wrap (36000000-mn f.start 36000000) -mn f.delay (IntKind.i64.wrap (36000000-mn f.start 36000000))))}
abbrev zL:List AV:=[ah,ah,ah,ah,ah,ah,AV.au]
theorem oR (n:Int):((A.cell (.int .i64 n)).bind fun v=>some [v])=some [.int .i64 n]:=rfl
theorem amD (f:gE) (n:Int):A.splice 2 [.int .i64 n] (fF f)=some (fF {f with start:=n}):=rfl
theorem aaB (f:gE) (n:Int):A.splice 3 [.int .i64 n] (fF f)=some (fF {f with delay:=n}):=rfl
theorem Ic (f:gE) (n:Int):A.splice 4 [.int .i64 n] (fF f)=some (fF {f with time:=n}):=rfl
theorem Rk (f:gE) (σ:Heap):uN [.agg (fF f)] σ=some (.agg (fF (sU f)),σ):=by
 refine Fv rfl (iS (qH rfl) rfl) (v:=.agg (fF (sU f))) rfl ?_
 unfold Wb sU
 rw[C6,bS,KV,bS,Th,bS,oR,bS,amD,bS,Px,bS,KV,bS,oW,bS,Th,bS,oR,bS,aaB,bS,V5,bS,KV,bS,oW,bS,Px,bS,oW,bS,Th,bS,oR,bS,Ic,bS,Ft,bS,C6,bS,LO _ _ rfl,bS,Ft,bS]
 exact bC _ _
end
section
set_option maxRecDepth 100000
open HP
def zh (a b:Int):Int:=(2*(a*b)+65535) / 131070
theorem ajc {a b:Int} (h1:0≤a∧a≤65535) (h2:0≤b∧b≤65535):G7 a b=some (zh a b,0):=by
 have m:=BH h1.1 h1.2 h2.1 h2.2
 unfold G7
 rw[WV h1 h2,Option.bind_some,if_neg (fun q=>q rfl)]
 unfold He G9 zh
 rw[show IntKind.i64.wrap (a*b)=a*b from wrap64 (by unfold aP;omega),show IntKind.i64.wrap (2*(a*b))=2*(a*b)from wrap64 (by unfold aP;omega),show IntKind.i64.wrap (2*(a*b)+65535)=2*(a*b)+65535 from wrap64 (by unfold aP;omega),show IntKind.i64.wrap (2*65535)=131070 from wrap64 (by unfold aP;omega)]
 have q1:IK (2*(a*b)+65535) 131070=some ((2*(a*b)+65535) / 131070):=by
  unfold IK
  rw[if_neg (by decide),Int.tdiv_eq_ediv_of_nonneg (by omega),wrap64 (by unfold aP;omega)]
 have q2:IL (2*(a*b)+65535) 131070=some ((2*(a*b)+65535) % 131070):=by
  unfold IL
  rw[if_neg (by decide),Int.tmod_eq_emod_of_nonneg (by omega)]
 rw[q1,Option.bind_some,q2,Option.bind_some,if_neg (by omega)]
 rfl
theorem Y7 {a b:Int} (h1:0≤a∧a≤65535) (h2:0≤b∧b≤65535) (σ:Heap):CQ [.int .i64 a,.int .i64 b] σ=some (.aG [.int .i64 (zh a b),.int .i64 0],σ):=adX (ajc h1 h2)
theorem alK {a b:Int} (h1:0≤a∧a≤65535) (h2:0≤b∧b≤65535):0≤zh a b∧zh a b≤65535:=by
 have m:=BH h1.1 h1.2 h2.1 h2.2
 unfold zh;omega
theorem akT {a b:Int} (ha:0≤a∧a≤65535) (hb:0≤b∧b≤65535) {n d:Nat} (hnd:n≤d) (hd:0<d):0≤DT a b n d∧DT a b n d≤65535:=by
 unfold DT
 have key:∀m:Nat,(2*m*n+d) / (2*d)≤m:=fun m=>by
  refine Nat.le_of_lt_succ ((Nat.div_lt_iff_lt_mul (by omega)).2 ?_)
  have:m*n≤m*d:=Nat.mul_le_mul_left _ hnd
  have e1:2*m*n=2*(m*n):=Nat.mul_assoc _ _ _
  have e2:(m+1)*(2*d)=2*(m*d)+2*d:=by rw[Nat.add_mul,Nat.mul_left_comm];omega
  rw[e1,e2];omega
 split
 ·have:=key (b-a).toNat
  generalize (2*(b-a).toNat*n+d) / (2*d)=q at this ⊢
  omega
 ·have k:=key (a-b).toNat
  have:(2*(a-b).toNat*n+d-1) / (2*d)≤(2*(a-b).toNat*n+d) / (2*d):=Nat.div_le_div_right (by omega)
  generalize (2*(a-b).toNat*n+d) / (2*d)=q at this k
  generalize (2*(a-b).toNat*n+d-1) / (2*d)=q' at this ⊢
  omega
theorem alr {f:gE} (h:rJ f) (t:Int):0≤El f t∧El f t≤65535:=by
 obtain⟨a1,a2⟩:=h.a
 obtain⟨b1,b2⟩:=h.b
 obtain⟨s1,s2⟩:=h.s
 obtain⟨d1,d2⟩:=h.d
 obtain⟨t1,t2⟩:=h.t
 have he:=h.e
 unfold El
 split
 ·exact⟨b1,b2⟩
 split
 ·exact⟨a1,a2⟩
 obtain⟨_,l1,l2,_⟩:=aaG h.c (p:=(t-(f.start+f.delay)).toNat) (q:=f.time.toNat) (by omega) (by omega) (by omega) []
 exact akT ⟨a1,a2⟩ ⟨b1,b2⟩ l1 l2
theorem FO {r:cr} (h:rJ r.jN) (c:Int):0≤uG r c∧uG r c≤65535:=alr h _
structure rO (b : bg) (t : Int) : Prop where
 runs:∀k r,cH k (b.runs.getD [])=some r→rJ r.jN
 jg:0≤b.jg∧b.jg≤65535
 pS:0≤dz b.clock t
def eS (d:bD) (k:aB):Int×Int×Bool:=match cH k (d.params.getD [])with
 |none=>(0,0,false)
 |some p=>(p.group,p.default,p.snap)
abbrev Dq:List AV:=[br,ah,ah,ah,ah,aM,AV.au]
def jJ (d:bD) (k:aB):List AV:=match cH k (d.params.getD [])with
 |none=>Dq
 |some p=>eR p
theorem XY (d:bD) (k:aB) (σ:Heap):A.look (.s [0,2]) (nq (fun x=>AV.agg (aN x)) (fun x=>AV.agg (eR x)) d.params) (.agg (aN k)) (.agg Dq) σ=some (.agg (jJ d k)):=by
 rw[aiv qo k _ rfl]
 unfold jJ
 cases cH k (d.params.getD [])<;>rfl
theorem FI (d:bD) (k:aB):A.cells 7 (.agg (jJ d k))=some (jJ d k):=by unfold jJ;cases cH k (d.params.getD [])<;>rfl
theorem Z0 (d:bD) (k:aB):A.splice 0 (jJ d k) Dq=some (jJ d k):=by
 unfold jJ
 cases cH k (d.params.getD [])
 ·rfl
 ·exact Lo _ _ rfl
theorem zH (d:bD) (k:aB):A.aj 1 (jJ d k)=some (.int .i64 (eS d k).1):=by unfold jJ eS;cases cH k (d.params.getD [])<;>rfl
theorem alB (d:bD) (k:aB):A.aj 4 (jJ d k)=some (.int .i64 (eS d k).2.1):=by unfold jJ eS;cases cH k (d.params.getD [])<;>rfl
theorem alC (d:bD) (k:aB):A.aj 5 (jJ d k)=some (.bool (eS d k).2.2):=by unfold jJ eS;cases cH k (d.params.getD [])<;>rfl
structure DX where
 out:Int
 owner:Int
 pri:Int
 lX:Int
noncomputable def Gd (g:Int) (b:bg) (r:cr) (c:Int):Int:=if g=1 then zh (uG r c) b.jg else uG r c
noncomputable def qu (g:Int) (k:aB) (t:Int) (s:DX) (b:bg):DX:=
 if(dJ b k (dz b.clock t)).2=false∨b.priority<s.pri then s
 else if s.pri<b.priority∨(g=1∧s.out<Gd g b (dJ b k (dz b.clock t)).1 (dz b.clock t))∨(¬g=1∧s.lX<(dJ b k (dz b.clock t)).1.lX)then⟨Gd g b (dJ b k (dz b.clock t)).1 (dz b.clock t),b.number,b.priority,(dJ b k (dz b.clock t)).1.lX⟩
 else s
noncomputable def sw (d:bD) (bs:List bg) (k:aB) (t:Int):DX:=bs.foldl (qu (eS d k).1 k t) ⟨(eS d k).2.1,0,-1,0⟩
theorem ia (cs:List AV):A.lb (.lbx cs)=some cs:=rfl
theorem zC {b:bg} {t:Int} (h:rO b t) {k:aB} (hd:(dJ b k (dz b.clock t)).2=true):rJ (dJ b k (dz b.clock t)).1.jN:=by
 have h:=h.runs k
 revert hd h
 unfold dJ
 generalize cH k (b.runs.getD [])=o
 cases o with
 |none=>intro hd;cases hd
 |some r=>intro _ h;exact h r rfl
theorem aid (b:bg) (σ:Heap):((A.deref (.rp ((aK b).drop 0)) σ).bind fun c=>A.ay 0 3 c)=some (.agg (uU b.clock)):=rfl
theorem ae7 {d:bD} {s:bX} {k:aB} {t:Int} (hs:s.az.length≤aW) {i:Nat} {b:bg} (hb:s.az[i]? =some b) (ho:rO b t) (m:DX) (σ:Heap):((fun aX kS=>
   (A.lss (aX.getD 6 AV.undef) (AV.int .i64 (s.az.length:Int))).bind fun cC=>
   A.cond cC (
    (A.aL (AV.rp (rK s))).bind fun cR=>
    (A.aA 0 cR).bind fun bO=>
    ((A.deref bO kS).bind fun fZ=>A.aj 0 fZ).bind fun eP=>
    (A.aT 10 eP (aX.getD 6 AV.undef)).bind fun x24=>
    (A.aL x24).bind fun x25=>
    (A.aA 0 x25).bind fun fA=>
    ((A.deref fA kS).bind fun lq=>A.ay 0 3 lq).bind fun x28=>
    (vT [x28,(AV.int .i64 t)] kS).bind fun gn=>
    ((A.lb (aX.getD 0 AV.undef)).bind fun um=>A.ay 0 2 um).bind fun x31=>
    (p5 [x24,x31,gn.1] gn.2).bind fun r32=>
    (A.ext 0 r32.1).bind fun eB=>
    (A.ext 1 r32.1).bind fun x34=>
    (A.cells 9 eB).bind fun gZ=>
    (A.splice 0 gZ [ah,ah,ah,ah,ah,ah,AV.au,ah,aM]).bind fun hG=>
    (A.not x34).bind fun bQ=>
    (A.guard bQ false (some x24) an).bind fun x38=>
    (A.guard bQ false (A.aL x38) an).bind fun eY=>
    (A.guard bQ false (A.aA 4 eY) an).bind fun dc=>
    (A.guard bQ false ((A.deref dc r32.2).bind fun xq=>A.aj 0 xq) an).bind fun gA=>
    (A.guard bQ false (some (aX.getD 4 AV.undef)) an).bind fun fB=>
    (A.guard bQ false (A.lss gA fB) an).bind fun eC=>
    (A.pick bQ cI eC).bind fun eo=>
    A.cond eo (
     (A.add (aX.getD 6 AV.undef) aH).bind fun fC=>
     some (AX.normal,[(aX.getD 0 AV.undef),(aX.getD 1 AV.undef),(aX.getD 2 AV.undef),(aX.getD 3 AV.undef),(aX.getD 4 AV.undef),(aX.getD 5 AV.undef),fC],r32.2)) (
     (A.ay 0 9 hG).bind fun ij=>
     (uK [ij,gn.1] r32.2).bind fun kJ=>
     ((A.lb (aX.getD 1 AV.undef)).bind fun _=>some (1)).bind fun Jv=>
     ((A.lb (aX.getD 1 AV.undef)).bind fun nO=>A.aj Jv nO).bind fun gQ=>
     (A.eql .i gQ aH).bind fun dP=>
     (A.cond dP (
      (A.aL x24).bind fun gB=>
      (A.aA 7 gB).bind fun kL=>
      ((A.deref kL kJ.2).bind fun pN=>A.aj 0 pN).bind fun jK=>
      (CQ [kJ.1,jK] kJ.2).bind fun xJ=>
      (A.ext 0 xJ.1).bind fun eZ=>
      (A.ext 1 xJ.1).bind fun gV=>
      some ([(aX.getD 0 AV.undef),(aX.getD 1 AV.undef),(AV.lbx hG),eZ],xJ.2)) (
      some ([(aX.getD 0 AV.undef),(aX.getD 1 AV.undef),(AV.lbx hG),kJ.1],kJ.2))).bind fun ck=>
     (A.aL x24).bind fun jo=>
     (A.aA 4 jo).bind fun fc=>
     ((A.deref fc ck.2).bind fun uq=>A.aj 0 uq).bind fun lV=>
     (A.gtr lV (aX.getD 4 AV.undef)).bind fun jd=>
     ((A.lb (ck.1.getD 1 AV.undef)).bind fun _=>some (1)).bind fun Jw=>
          (A.guard jd false ((A.lb (ck.1.getD 1 AV.undef)).bind fun xx=>A.aj Jw xx) an).bind fun iq=>
     (A.guard jd false (A.eql .i iq aH) an).bind fun fP=>
     (A.guard jd false (some fP) an).bind fun ff=>
     (A.guard ff true (some (ck.1.getD 3 AV.undef)) an).bind fun n5=>
     (A.guard ff true (some (aX.getD 2 AV.undef)) an).bind fun pY=>
     (A.guard ff true (A.gtr n5 pY) an).bind fun iH=>
     (A.guard jd false (A.pick ff iH aM) an).bind fun iu=>
     (A.pick jd cI iu).bind fun eE=>
     ((A.lb (ck.1.getD 1 AV.undef)).bind fun _=>some (1)).bind fun Er=>
          (A.guard eE false ((A.lb (ck.1.getD 1 AV.undef)).bind fun lR=>A.aj Er lR) an).bind fun jC=>
     (A.guard eE false (A.neq .i jC aH) an).bind fun jS=>
     (A.guard eE false (some jS) an).bind fun fT=>
     ((A.lb (ck.1.getD 2 AV.undef)).bind fun _=>some (7)).bind fun Jx=>
          (A.guard fT true ((A.lb (ck.1.getD 2 AV.undef)).bind fun lz=>A.aj Jx lz) an).bind fun rj=>
     (A.guard fT true (some (aX.getD 5 AV.undef)) an).bind fun Bd=>
     (A.guard fT true (A.gtr rj Bd) an).bind fun iI=>
     (A.guard eE false (A.pick fT iI aM) an).bind fun jD=>
     (A.pick eE cI jD).bind fun mO=>
     (A.cond mO (
      (A.aL x24).bind fun Be=>
      (A.aA 3 Be).bind fun x90=>
      ((A.deref x90 ck.2).bind fun IV=>A.aj 0 IV).bind fun n9=>
      (A.aL x24).bind fun x93=>
      (A.aA 4 x93).bind fun rq=>
      ((A.deref rq ck.2).bind fun jx=>A.aj 0 jx).bind fun x96=>
      ((A.lb (ck.1.getD 2 AV.undef)).bind fun _=>some (7)).bind fun Jy=>
      ((A.lb (ck.1.getD 2 AV.undef)).bind fun pR=>A.aj Jy pR).bind fun x99=>
      some ([(ck.1.getD 0 AV.undef),(ck.1.getD 1 AV.undef),(ck.1.getD 3 AV.undef),n9,x96,x99],ck.2)) (
      some ([(ck.1.getD 0 AV.undef),(ck.1.getD 1 AV.undef),(aX.getD 2 AV.undef),(aX.getD 3 AV.undef),(aX.getD 4 AV.undef),(aX.getD 5 AV.undef)],ck.2))).bind fun lT=>
     (A.add (aX.getD 6 AV.undef) aH).bind fun nH=>
     some (AX.normal,[(lT.1.getD 0 AV.undef),(lT.1.getD 1 AV.undef),(lT.1.getD 2 AV.undef),(lT.1.getD 3 AV.undef),(lT.1.getD 4 AV.undef),(lT.1.getD 5 AV.undef),nH],lT.2))) (
    some (AX.exit 0,[(aX.getD 0 AV.undef),(aX.getD 1 AV.undef),(aX.getD 2 AV.undef),(aX.getD 3 AV.undef),(aX.getD 4 AV.undef),(aX.getD 5 AV.undef),(aX.getD 6 AV.undef)],kS)))) [.lbx (aN k),.lbx (jJ d k),.int .i64 m.out,.int .i64 m.owner,.int .i64 m.pri,.int .i64 m.lX,.int .i64 (i:Int)] σ=some (.normal,[.lbx (aN k),.lbx (jJ d k),.int .i64 (qu (eS d k).1 k t m b).out,.int .i64 (qu (eS d k).1 k t m b).owner,.int .i64 (qu (eS d k).1 k t m b).pri,.int .i64 (qu (eS d k).1 k t m b).lX,.int .i64 ((i+1:Nat):Int)],σ):=by
 simp only[List.getD_cons_zero,List.getD_cons_succ]
 rw[jr hb,bS,cW,pG,bS,lG,bS,Vt,bS,iQ hb,bS,pG,bS,lG,bS,aid,bS,Mw,bS]
 simp only
 rw[ia,bS,rI,bS,aim,bS]
 simp only
 rw[kP,bS,ext1,bS,yl,bS,Bs _ _ rfl,bS,wX,bS]
 unfold qu
 cases hd:(dJ b k (dz b.clock t)).2
 ·rw[if_pos (.inl rfl)]
  simp only[Bool.not_false,xC,bS,lD]
  rw[cW,fU hb hs,bS]
 have hok:=zC ho hd
 have hbd:=FO hok (dz b.clock t)
 simp only[Bool.not_true,gF,bS,pG,lG,Hf,kN,mg]
 by_cases hp:b.priority<m.pri
 ·rw[decide_eq_true hp,cW,fU hb hs,bS,if_pos (.inr hp)]
 rw[decide_eq_false hp,cD,if_neg (fun q=>q.elim (fun q=>by cases q) hp),uQ,bS,HI hok ho.pS,bS]
 simp only
 rw[ia,bS,bS,bS,zH,bS,iN,bS]
 generalize hr:(dJ b k (dz b.clock t)).1=r at hok hbd ⊢
 generalize hg:(eS d k).1=g
 unfold Gd
 by_cases h1:g=1
 ·rw[decide_eq_true h1,cW]
  simp only[pG,bS,lG,aeU,Y7 hbd ho.jg,kP,ext1,if_pos h1]
  generalize zh (uG r (dz b.clock t)) b.jg=n
  by_cases h2:m.pri<b.priority
  ·simp only[decide_eq_true h2,F0,xC,gU,bS,lD,ia,List.getD_cons_zero,List.getD_cons_succ,cT,pG,lG,KD,Hf,Hr,if_pos (Or.inl h2),fU hb hs]
  simp only[decide_eq_false h2,F0,gF,gT,bS,mg,lD,ia,zH,hg,iN,decide_eq_true h1,List.getD_cons_zero,List.getD_cons_succ]
  by_cases h3:m.out<n
  ·have hc:m.pri<b.priority∨(g=1∧m.out<n)∨(¬g=1∧m.lX<r.lX):=.inr (.inl ⟨h1,h3⟩)
   simp only[decide_eq_true h3,xC,gU,bS,lD,cT,pG,lG,KD,Hf,ia,Hr,if_pos hc,fU hb hs,List.getD_cons_zero,List.getD_cons_succ]
  ·have hc:¬(m.pri<b.priority∨(g=1∧m.out<n)∨(¬g=1∧m.lX<r.lX)):=fun q=>q.elim h2 fun q=>q.elim (fun q=>h3 q.2) fun q=>q.1 h1
   simp only[decide_eq_false h3,gF,uw,gU,bS,mg,cF,ia,zH,hg,fW,decide_not,decide_eq_true h1,Bool.not_true,if_neg hc,fU hb hs,List.getD_cons_zero,List.getD_cons_succ]
 ·rw[decide_eq_false h1,cD]
  simp only[pG,bS,lG,if_neg h1]
  generalize uG r (dz b.clock t)=n
  by_cases h2:m.pri<b.priority
  ·simp only[decide_eq_true h2,F0,xC,gU,bS,lD,ia,List.getD_cons_zero,List.getD_cons_succ,cT,pG,lG,KD,Hf,Hr,if_pos (Or.inl h2),fU hb hs]
  simp only[decide_eq_false h2,F0,gF,uw,gU,bS,mg,ia,zH,hg,iN,fW,decide_not,decide_eq_false h1,Bool.not_false,gT,List.getD_cons_zero,List.getD_cons_succ,Hr]
  by_cases h4:m.lX<r.lX
  ·have hc:m.pri<b.priority∨(g=1∧m.out<n)∨(¬g=1∧m.lX<r.lX):=.inr (.inr ⟨h1,h4⟩)
   simp only[decide_eq_true h4,lD,bS,cT,pG,lG,KD,Hf,ia,Hr,if_pos hc,fU hb hs,List.getD_cons_zero,List.getD_cons_succ]
  ·have hc:¬(m.pri<b.priority∨(g=1∧m.out<n)∨(¬g=1∧m.lX<r.lX)):=fun q=>q.elim h2 fun q=>q.elim (fun q=>h1 q.1) fun q=>h4 q.2
   simp only[decide_eq_false h4,lD,bS,cF,if_neg hc,fU hb hs,List.getD_cons_zero,List.getD_cons_succ]
theorem ae6 {d:bD} {s:bX} {k:aB} {t:Int} (hs:s.az.length≤aW) (ho:∀b∈s.az,rO b t) (m:DX) (σ:Heap):∃q,A.loop ((fun aX kS=>
   (A.lss (aX.getD 6 AV.undef) (AV.int .i64 (s.az.length:Int))).bind fun cC=>
   A.cond cC (
    (A.aL (AV.rp (rK s))).bind fun cR=>
    (A.aA 0 cR).bind fun bO=>
    ((A.deref bO kS).bind fun fZ=>A.aj 0 fZ).bind fun eP=>
    (A.aT 10 eP (aX.getD 6 AV.undef)).bind fun x24=>
    (A.aL x24).bind fun x25=>
    (A.aA 0 x25).bind fun fA=>
    ((A.deref fA kS).bind fun lq=>A.ay 0 3 lq).bind fun x28=>
    (vT [x28,(AV.int .i64 t)] kS).bind fun gn=>
    ((A.lb (aX.getD 0 AV.undef)).bind fun um=>A.ay 0 2 um).bind fun x31=>
    (p5 [x24,x31,gn.1] gn.2).bind fun r32=>
    (A.ext 0 r32.1).bind fun eB=>
    (A.ext 1 r32.1).bind fun x34=>
    (A.cells 9 eB).bind fun gZ=>
    (A.splice 0 gZ [ah,ah,ah,ah,ah,ah,AV.au,ah,aM]).bind fun hG=>
    (A.not x34).bind fun bQ=>
    (A.guard bQ false (some x24) an).bind fun x38=>
    (A.guard bQ false (A.aL x38) an).bind fun eY=>
    (A.guard bQ false (A.aA 4 eY) an).bind fun dc=>
    (A.guard bQ false ((A.deref dc r32.2).bind fun xq=>A.aj 0 xq) an).bind fun gA=>
    (A.guard bQ false (some (aX.getD 4 AV.undef)) an).bind fun fB=>
    (A.guard bQ false (A.lss gA fB) an).bind fun eC=>
    (A.pick bQ cI eC).bind fun eo=>
    A.cond eo (
     (A.add (aX.getD 6 AV.undef) aH).bind fun fC=>
     some (AX.normal,[(aX.getD 0 AV.undef),(aX.getD 1 AV.undef),(aX.getD 2 AV.undef),(aX.getD 3 AV.undef),(aX.getD 4 AV.undef),(aX.getD 5 AV.undef),fC],r32.2)) (
     (A.ay 0 9 hG).bind fun ij=>
     (uK [ij,gn.1] r32.2).bind fun kJ=>
     ((A.lb (aX.getD 1 AV.undef)).bind fun _=>some (1)).bind fun Jv=>
     ((A.lb (aX.getD 1 AV.undef)).bind fun nO=>A.aj Jv nO).bind fun gQ=>
     (A.eql .i gQ aH).bind fun dP=>
     (A.cond dP (
      (A.aL x24).bind fun gB=>
      (A.aA 7 gB).bind fun kL=>
      ((A.deref kL kJ.2).bind fun pN=>A.aj 0 pN).bind fun jK=>
      (CQ [kJ.1,jK] kJ.2).bind fun xJ=>
      (A.ext 0 xJ.1).bind fun eZ=>
      (A.ext 1 xJ.1).bind fun gV=>
      some ([(aX.getD 0 AV.undef),(aX.getD 1 AV.undef),(AV.lbx hG),eZ],xJ.2)) (
      some ([(aX.getD 0 AV.undef),(aX.getD 1 AV.undef),(AV.lbx hG),kJ.1],kJ.2))).bind fun ck=>
     (A.aL x24).bind fun jo=>
     (A.aA 4 jo).bind fun fc=>
     ((A.deref fc ck.2).bind fun uq=>A.aj 0 uq).bind fun lV=>
     (A.gtr lV (aX.getD 4 AV.undef)).bind fun jd=>
     ((A.lb (ck.1.getD 1 AV.undef)).bind fun _=>some (1)).bind fun Jw=>
          (A.guard jd false ((A.lb (ck.1.getD 1 AV.undef)).bind fun xx=>A.aj Jw xx) an).bind fun iq=>
     (A.guard jd false (A.eql .i iq aH) an).bind fun fP=>
     (A.guard jd false (some fP) an).bind fun ff=>
     (A.guard ff true (some (ck.1.getD 3 AV.undef)) an).bind fun n5=>
     (A.guard ff true (some (aX.getD 2 AV.undef)) an).bind fun pY=>
     (A.guard ff true (A.gtr n5 pY) an).bind fun iH=>
     (A.guard jd false (A.pick ff iH aM) an).bind fun iu=>
     (A.pick jd cI iu).bind fun eE=>
     ((A.lb (ck.1.getD 1 AV.undef)).bind fun _=>some (1)).bind fun Er=>
          (A.guard eE false ((A.lb (ck.1.getD 1 AV.undef)).bind fun lR=>A.aj Er lR) an).bind fun jC=>
     (A.guard eE false (A.neq .i jC aH) an).bind fun jS=>
     (A.guard eE false (some jS) an).bind fun fT=>
     ((A.lb (ck.1.getD 2 AV.undef)).bind fun _=>some (7)).bind fun Jx=>
          (A.guard fT true ((A.lb (ck.1.getD 2 AV.undef)).bind fun lz=>A.aj Jx lz) an).bind fun rj=>
     (A.guard fT true (some (aX.getD 5 AV.undef)) an).bind fun Bd=>
     (A.guard fT true (A.gtr rj Bd) an).bind fun iI=>
     (A.guard eE false (A.pick fT iI aM) an).bind fun jD=>
     (A.pick eE cI jD).bind fun mO=>
     (A.cond mO (
      (A.aL x24).bind fun Be=>
      (A.aA 3 Be).bind fun x90=>
      ((A.deref x90 ck.2).bind fun IV=>A.aj 0 IV).bind fun n9=>
      (A.aL x24).bind fun x93=>
      (A.aA 4 x93).bind fun rq=>
      ((A.deref rq ck.2).bind fun jx=>A.aj 0 jx).bind fun x96=>
      ((A.lb (ck.1.getD 2 AV.undef)).bind fun _=>some (7)).bind fun Jy=>
      ((A.lb (ck.1.getD 2 AV.undef)).bind fun pR=>A.aj Jy pR).bind fun x99=>
      some ([(ck.1.getD 0 AV.undef),(ck.1.getD 1 AV.undef),(ck.1.getD 3 AV.undef),n9,x96,x99],ck.2)) (
      some ([(ck.1.getD 0 AV.undef),(ck.1.getD 1 AV.undef),(aX.getD 2 AV.undef),(aX.getD 3 AV.undef),(aX.getD 4 AV.undef),(aX.getD 5 AV.undef)],ck.2))).bind fun lT=>
     (A.add (aX.getD 6 AV.undef) aH).bind fun nH=>
     some (AX.normal,[(lT.1.getD 0 AV.undef),(lT.1.getD 1 AV.undef),(lT.1.getD 2 AV.undef),(lT.1.getD 3 AV.undef),(lT.1.getD 4 AV.undef),(lT.1.getD 5 AV.undef),nH],lT.2))) (
    some (AX.exit 0,[(aX.getD 0 AV.undef),(aX.getD 1 AV.undef),(aX.getD 2 AV.undef),(aX.getD 3 AV.undef),(aX.getD 4 AV.undef),(aX.getD 5 AV.undef),(aX.getD 6 AV.undef)],kS)))) [.lbx (aN k),.lbx (jJ d k),.int .i64 m.out,.int .i64 m.owner,.int .i64 m.pri,.int .i64 m.lX,.int .i64 0] σ=some q∧∃u,q=(.exit 0,[.lbx (aN k),.lbx (jJ d k),.int .i64 (s.az.foldl (qu (eS d k).1 k t) m).out,.int .i64 (s.az.foldl (qu (eS d k).1 k t) m).owner,.int .i64 (s.az.foldl (qu (eS d k).1 k t) m).pri,.int .i64 (s.az.foldl (qu (eS d k).1 k t) m).lX,u],σ):=by
 refine mm (fun z v w=>∃(i:Nat) (x:DX),v=[.lbx (aN k),.lbx (jJ d k),.int .i64 x.out,.int .i64 x.owner,.int .i64 x.pri,.int .i64 x.lX,.int .i64 (i:Int)]∧w=σ∧z=s.az.length-i∧i≤s.az.length∧(s.az.drop i).foldl (qu (eS d k).1 k t) x=s.az.foldl (qu (eS d k).1 k t) m) ?_ (n:=s.az.length) ⟨0,m,rfl,rfl,rfl,Nat.zero_le _,rfl⟩
 rintro z v w ⟨i,x,rfl,rfl,hz,hi,hT⟩
 by_cases h:i<s.az.length
 ·have hb:s.az[i]? =some s.az[i]:=List.getElem?_eq_getElem h
  refine .inl ⟨s.az.length-(i+1),_,_,by omega,ae7 hs hb (ho _ (List.getElem_mem h)) x w,i+1,qu (eS d k).1 k t x s.az[i],rfl,rfl,rfl,by omega,?_⟩
  rw[List.drop_eq_getElem_cons h]at hT
  exact hT
 ·have:i=s.az.length:=by omega
  subst this
  rw[List.drop_length]at hT
  simp only[List.foldl_nil]at hT
  subst hT
  simp only[List.getD_cons_zero,List.getD_cons_succ]
  rw[jq,bS,cD]
  exact .inr ⟨_,rfl,by simp,_,rfl⟩
theorem Yp {s:List Sh} {ro:Sh} {r:AV→AV→AV→AV→Heap→Option (AV×Heap)} {x y z u v v':AV} {σ:Heap} (h:[x,y,z,u].any A.own=false) (e1:A.bV s [x,y,z,u]=[x,y,z,u]) (e2:A.nn ro v=v') (e:r x y z u σ=some (v,σ)):A.wrap true s ro (A.vC r) [x,y,z,u] σ=some (v',σ):=by
 refine wrap_eq h ?_ e2
 rw[e1]
 exact e
theorem X2 {d:bD} {s:bX} {k:aB} {t:Int} (hs:s.az.length≤aW) (ho:∀b∈s.az,rO b t) (σ:Heap):Bh [.rp (qy d),.rp (rK s),.agg (aN k),.int .i64 t] σ=some (.aG [.int .i64 (sw d s.az k t).out,.int .i64 (sw d s.az k t).owner],σ):=by
 refine Yp rfl rfl (iM _) ?_
 unfold Uv
 rw[C9,bS,pG,bS,lG,bS,Vr,bS,rI,bS,XY,bS,FI,bS,Z0,bS,alB,bS,pG,bS,lG,bS,Vt,bS,fL,bS]
 refine AR (FN (ae6 (d:=d) hs ho ⟨(eS d k).2.1,0,-1,0⟩ σ) ?_)
 rintro q ⟨u,rfl⟩
 simp only[l9,List.getD_cons_zero,List.getD_cons_succ]
 exact⟨_,bC _ _,rfl⟩
end
section
set_option maxRecDepth 100000
open HP
def qC (l:List dR):Int:=match l.getLast? with
 |none=>0
 |some a=>a.time
theorem Zi (d:bD) (hl:d.actions.length≤aW) (σ:Heap):xW [.rp (qy d)] σ=some (.int .i64 (qC d.actions),σ):=by
 refine Fv rfl rfl (iM _) ?_
 unfold UG qC
 rw[pG,bS,lG,bS,Vs,bS,fL,bS,iN,bS]
 by_cases h:d.actions.length=0
 ·rw[decide_eq_true (by omega),cW,List.eq_nil_of_length_eq_zero h]
  exact bC _ _
 ·have hx:d.actions[d.actions.length-1]? =some (d.actions[d.actions.length-1]'(by omega)):=List.getElem?_eq_getElem _
  rw[decide_eq_false (by omega),cD]
  simp only[pG,lG,bS,Vs,fL]
  rw[oW,wrap64 (by unfold aP;unfold aW at hl;omega),bS,show((d.actions.length:Int) -1)=((d.actions.length-1:Nat):Int) by omega,iQ hx,bS,lG,bS,List.getLast?_eq_getElem?,hx]
  exact(congrArg (Option.bind · fun x=>A.fin σ x σ) (show((A.deref (.rp ((bn (d.actions[d.actions.length-1]'(by omega))).drop 0)) σ).bind fun c=>A.aj 0 c)=some (.int .i64 (d.actions[d.actions.length-1]'(by omega)).time)from rfl)).trans (bC _ _)
def BY (l:List dR) (t:Int):Int:=if aR t 0 36000000=true then(if decide (t<qC l)=true then 7 else 0)else 1
theorem XU (t:Int) (σ:Heap):G6 [.int .i64 t] σ=some (.bool (aR t 0 36000000),σ):=by
 refine Fv rfl rfl (iM _) ?_
 unfold U2
 rw[jT,bS]
 exact bC _ _
theorem aog (a b:Int):(((((A.cell (.int .i64 a)).bind fun v=>some [v]).bind fun c7=>(A.splice 0 c7 [ah,ah]).bind fun c8=>((A.cell (.int .i64 b)).bind fun v=>some [v]).bind fun c9=>(A.splice 1 c9 c8).bind fun dZ=>some dZ).bind fun cs=>some (AV.sl 1 (chunks 1 2 cs))))=some (sl 1 rS [a,b]):=rfl
theorem alP (d:bD) (hl:d.actions.length≤aW) (t:Int) (σ:Heap):GW [.rp (qy d),.int .i64 t] σ=some (.int .i64 (BY d.actions t),σ):=by
 refine Fw (z:=.au) rfl rfl (iM _) ?_
 unfold UH BY
 rw[XU,bS]
 simp only
 rw[wX,bS,uT,bS]
 simp only
 rw[Zi d hl,bS]
 simp only
 rw[kN,bS,uT,bS]
 simp only
 generalize aR t 0 36000000=w
 generalize decide (t<qC d.actions)=e
 rw[aog,bS,C4 _ (by show 2≤aW;decide),bS]
 cases w<;>cases e<;>exact bC _ _
theorem aj1 {d:bD} {s:bX} {k:aB} {t:Int} (hs:s.az.length≤aW) (ho:∀b∈s.az,rO b t) (hg:0≤s.mu∧s.mu≤65535) (hm:(eS d k).1=1→0≤(sw d s.az k t).out∧(sw d s.az k t).out≤65535) (σ:Heap):CM [.rp (qy d),.rp (rK s),.agg (aN k),.int .i64 t] σ=some (.int .i64 (if ¬(eS d k).1=1 then(sw d s.az k t).out else if s.black=true then 0 else zh (sw d s.az k t).out s.mu),σ):=by
 refine Yp rfl rfl (iM _) ?_
 unfold UB
 rw[C9,bS,rI,bS,X2 hs ho,bS]
 simp only
 rw[kP,bS,ext1,bS,pG,bS,lG,bS,Vr,bS,bS,XY,bS,FI,bS,zH,bS,fW,bS]
 by_cases h1:(eS d k).1=1
 ·rw[decide_eq_false (fun q=>q h1),cD,pG,bS,lG,bS,aeW,bS,if_neg (fun q=>q h1)]
  cases s.black
  ·rw[cD,bS,lG,bS,aeV,bS,Y7 (hm h1) hg,bS]
   simp only
   rw[kP,bS,ext1,bS]
   exact bC _ _
  ·rw[cW]
   exact bC _ _
 ·rw[decide_eq_true h1,cW,if_pos h1]
  exact bC _ _
end
section
set_option maxRecDepth 100000
open HP
def HR (g:Int) (x:bf) (dw to c:Int):gE:=⟨dw,to,c,x.delay,if g=1 then(if to<dw then x.down else x.up)else x.other,x.fq⟩
def Mm (x:bf) (k:aB) (f:gE):gE:=match x.dm.find? (fun m=>decide (m.key=k))with
 |none=>f
 |some m=>if m.yK=true then{f with delay:=m.delay,time:=m.time}else f
def FL (snap:Bool) (f:gE):gE:=if snap=true then{f with time:=0}else f
def BQ (d:bD) (x:bf) (k:aB) (dw to c:Int):gE:=sU (FL (eS d k).2.2 (Mm x k (HR (eS d k).1 x dw to c)))
theorem ais (m:fE) (k:aB) (σ:Heap):EN [.agg (fG m),.rp (aN k)] σ=some (.bool (decide (m.key=k)),σ):=by
 refine Mf rfl ?_
 unfold Uo
 rw[show A.cells 8 (.agg (fG m))=some (fG m)from rfl,bS,show A.ay 0 2 (fG m)=some (.agg (aN m.key))from rfl,bS,nU,bS,rI,bS,Zs,bS]
 exact bC _ _
theorem alT {ro:Sh} {r:AV→AV→AV→AV→AV→AV→Heap→Option (AV×Heap)} {x y z u p q v v':AV} {σ σ':Heap} (e2:A.nn ro v=v') (e:r x y z u p q σ=some (v,σ')):A.wrap false [] ro (A.DZ r) [x,y,z,u,p,q] σ=some (v',σ'):=by
 have:A.DZ r [x,y,z,u,p,q] σ=some (v,σ'):=e
 simp only[A.wrap,Bool.false_and,cond_false,A.bV,this,Option.map_some,e2]
theorem aiJ (dw to c:Int) (x:bf):((((A.cell (.int .i64 dw)).bind fun v=>some [v]).bind fun c6=>(A.splice 0 c6 [ah,ah,ah,ah,ah,ah,AV.au]).bind fun c7=>((A.cell (.int .i64 to)).bind fun v=>some [v]).bind fun c8=>(A.splice 1 c8 c7).bind fun c9=>((A.cell (.int .i64 c)).bind fun v=>some [v]).bind fun dZ=>(A.splice 2 dZ c9).bind fun gm=>((A.cell (.int .i64 x.delay)).bind fun v=>some [v]).bind fun ep=>(A.splice 3 ep gm).bind fun gH=>((A.cell (.int .i64 x.other)).bind fun v=>some [v]).bind fun jP=>(A.splice 4 jP gH).bind fun jG=>(A.cells 2 (.agg (lN x.fq))).bind fun ku=>(A.splice 5 ku jG).bind fun mG=>some mG).bind fun cs=>some (AV.agg cs))=some (.agg (fF ⟨dw,to,c,x.delay,x.other,x.fq⟩)):=rfl
theorem Zt (g:gE) (σ:Heap):(((A.lb (.lbx (fF g))).bind fun iY=>A.ay 0 7 iY).bind fun iI=>(uN [iI] σ).bind fun xO=>(A.lb (.lbx zL)).bind fun nS=>(A.cells 7 xO.1).bind fun sj=>(A.splice 0 sj nS).bind fun AM=>(A.ay 0 7 AM).bind fun x90=>A.fin σ x90 xO.2)=some (.agg (fF (sU g)),σ):=by
 rw[ia,bS,Ft,bS,Rk,bS]
 simp only
 rw[ia,bS,C6,bS,LO _ _ rfl,bS,Ft,bS]
 exact bC _ _
theorem WD (d:bD) (k:aB) (f1:gE) (σ:Heap):((A.aj 5 (jJ d k)).bind fun jC=>(A.cond jC (some ([(AV.lbx zL),(AV.lbx (fF {f1 with time:=0}))],σ)) (some ([(AV.lbx zL),(AV.lbx (fF f1))],σ))).bind fun kn=>((A.lb (kn.1.getD 1 AV.undef)).bind fun iY=>A.ay 0 7 iY).bind fun iI=>(uN [iI] kn.2).bind fun xO=>(A.lb (kn.1.getD 0 AV.undef)).bind fun nS=>(A.cells 7 xO.1).bind fun sj=>(A.splice 0 sj nS).bind fun AM=>(A.ay 0 7 AM).bind fun x90=>A.fin σ x90 xO.2)=some (.agg (fF (sU (FL (eS d k).2.2 f1))),σ):=by
 rw[alC,bS]
 unfold FL
 cases(eS d k).2.2
 ·rw[cD,bS]
  simp only[List.getD_cons_zero,List.getD_cons_succ]
  exact Zt f1 σ
 ·rw[cW,bS]
  simp only[List.getD_cons_zero,List.getD_cons_succ]
  exact Zt {f1 with time:=0} σ
theorem XJ (d:bD) (k:aB) (f1:gE) (σ:Heap):((A.aj 5 (jJ d k)).bind fun jC=>(A.cond jC (((A.cell ah).bind fun v=>some [v]).bind fun mI=>(A.splice 4 mI (fF f1)).bind fun lz=>some ([(AV.lbx zL),(AV.lbx lz)],σ)) (some ([(AV.lbx zL),(AV.lbx (fF f1))],σ))).bind fun kn=>((A.lb (kn.1.getD 1 AV.undef)).bind fun iY=>A.ay 0 7 iY).bind fun iI=>(uN [iI] kn.2).bind fun xO=>(A.lb (kn.1.getD 0 AV.undef)).bind fun nS=>(A.cells 7 xO.1).bind fun sj=>(A.splice 0 sj nS).bind fun AM=>(A.ay 0 7 AM).bind fun x90=>A.fin σ x90 xO.2)=some (.agg (fF (sU (FL (eS d k).2.2 f1))),σ):=by
 rw[oR,bS,Ic,bS]
 exact WD d k f1 σ
theorem alf {p q pm:AV} (d:bD) (x:bf) (hm:x.dm.length≤aW) (k:aB) (dw to c:Int) (σ:Heap) (h1:A.aL p=some p) (h2:A.aA 10 p=some q) (h3:((A.deref q σ).bind fun c=>A.aj 0 c)=some pm) (h4:A.look (.s [0,2]) pm (.agg (aN k)) (.agg Dq) σ=some (.agg (jJ d k))):Bi [p,.agg (aZ x),.agg (aN k),.int .i64 dw,.int .i64 to,.int .i64 c] σ=some (.agg (fF (BQ d x k dw to c)),σ):=by
 refine alT (v:=.agg (fF (BQ d x k dw to c))) rfl ?_
 unfold Of BQ
 rw[LY,bS,C9,bS,bS,P0,bS,Xa,bS,OF,bS,aiJ,bS,C6,bS,LO _ _ rfl,bS,h1,bS,h2,bS,h3,bS,nU,bS,rI,bS,h4,bS,FI,bS,Z0,bS,zH,bS,iN,bS]
 have TA:∀w,GJ (A.tab (fun _ _=>none) [(349,EN)]) [sl 8 fG x.dm,.fn 349 [.rp (aN k)]] w=some (.int .i64 (kq (fun m:fE=>decide (m.key=k)) x.dm),w):=fun w=>abE _ x.dm hm _ _ _ w fun m _=>ais m k w
 have A1:∀(f0:gE),(A.cond (.bool (decide ((eS d k).1=1))) ((A.aj 3 (aZ x)).bind fun eB=>((A.cell eB).bind fun v=>some [v]).bind fun rZ=>(A.splice 4 rZ (fF f0)).bind fun gZ=>(A.lss (.int .i64 to) (.int .i64 dw)).bind fun gz=>(A.cond gz ((A.aj 4 (aZ x)).bind fun x38=>((A.cell x38).bind fun v=>some [v]).bind fun l6=>(A.splice 4 l6 gZ).bind fun yU=>some ([(AV.lbx (aZ x)),(AV.lbx zL),(AV.lbx yU),(AV.lbx (jJ d k))],σ)) (some ([(AV.lbx (aZ x)),(AV.lbx zL),(AV.lbx gZ),(AV.lbx (jJ d k))],σ))).bind fun mh=>some ([(mh.1.getD 0 AV.undef),(mh.1.getD 1 AV.undef),(mh.1.getD 2 AV.undef),(mh.1.getD 3 AV.undef)],mh.2)) (some ([(AV.lbx (aZ x)),(AV.lbx zL),(AV.lbx (fF f0)),(AV.lbx (jJ d k))],σ)))=some ([(AV.lbx (aZ x)),(AV.lbx zL),(AV.lbx (fF {f0 with time:=if(eS d k).1=1 then(if to<dw then x.down else x.up)else f0.time})),(AV.lbx (jJ d k))],σ):=by
  intro f0
  by_cases h1:(eS d k).1=1
  ·simp only[decide_eq_true h1,cT,W9,bS,oR,Ic,kN,if_pos h1]
   by_cases h2:to<dw
   ·simp only[decide_eq_true h2,cT,P3,bS,oR,Ic,if_pos h2,List.getD_cons_zero,List.getD_cons_succ]
   ·simp only[decide_eq_false h2,cF,bS,if_neg h2,List.getD_cons_zero,List.getD_cons_succ]
  ·simp only[decide_eq_false h1,cF,if_neg h1]
 rw[A1,bS]
 simp only[List.getD_cons_zero,List.getD_cons_succ,ia,bS,V2,TA,rQ]
 unfold Mm
 change _=some (AV.agg (fF (sU (FL (eS d k).2.2 (match x.dm.find? (fun m=>decide (m.key=k))with|none=>_|some m=>_)))),σ)
 rcases Bo (fun m:fE=>decide (m.key=k)) x.dm with⟨e1,_,e2⟩|⟨j,m,e1,e2,e3,e4,_⟩
 ·rw[e1,e2]
  simp only[show decide ((0:Int)≤-1)=false from decide_eq_false (by decide),uw,gU,bS,mg,cF,List.getD_cons_zero,List.getD_cons_succ,ia]
  exact XJ d k _ σ
 ·rw[e3,e4]
  simp only[decide_eq_true (show(0:Int)≤(j:Int) by omega),gT,bS,iQ e1,lG,lD,show((A.deref (.rp ((fG m).drop 5)) σ).bind fun c=>A.aj 0 c)=some (.bool m.yK)from rfl]
  cases m.yK
  ·simp only[cF,bS,List.getD_cons_zero,List.getD_cons_succ,ia]
   exact XJ d k _ σ
  ·simp only[cT,bS,show((A.deref (.rp ((fG m).drop 6)) σ).bind fun c=>A.aj 0 c)=some (.int .i64 m.delay)from rfl,show((A.deref (.rp ((fG m).drop 7)) σ).bind fun c=>A.aj 0 c)=some (.int .i64 m.time)from rfl,oR,aaB,Ic,List.getD_cons_zero,List.getD_cons_succ,ia]
   exact WD d k ⟨dw,to,c,m.delay,m.time,x.fq⟩ σ
end
section
set_option maxRecDepth 100000
open HP
def dA (p:aB×cr):AV×AV:=(.agg (aN p.1),.agg (fk p.2))
theorem VF {α β:Type} (f:α→β):∀(l:List α) {L:List β},L.Perm (l.map f)→∃l':List α,l'.Perm l∧l'.map f=L
 |[],L,h=>⟨[],.refl _,by have:=List.Perm.eq_nil h;rw[this];rfl⟩
 |x::l,L,h=>by
  have hx:f x∈L:=h.mem_iff.2 (by simp)
  obtain⟨s,t,rfl⟩:=List.append_of_mem hx
  have h2:(s++t).Perm (l.map f):=(List.perm_cons (f x)).1 (List.perm_middle.symm.trans h)
  obtain⟨l',k1,k2⟩:=VF f l h2
  obtain⟨a,b,rfl,e1,e2⟩:=List.map_eq_append_iff.1 k2
  exact⟨a++x::b,List.perm_middle.trans (k1.cons x),by simp [e1,e2]⟩
theorem Qw (l:List (aB×cr)):∃l':List (aB×cr),l'.Perm l∧l'.map dA=A.yM (l.map dA):=VF dA l (PN (l.map dA))
noncomputable def Cc (l:List (aB×cr)):List (aB×cr):=Classical.choose (Qw l)
theorem PM (l:List (aB×cr)):(Cc l).Perm l:=(Classical.choose_spec (Qw l)).1
theorem XA (l:List (aB×cr)):(Cc l).map dA=A.yM (l.map dA):=(Classical.choose_spec (Qw l)).2
theorem ah9 (l:List (aB×cr)):A.yM ((Cc l).map dA)=(Cc l).map dA:=by
 rw[XA];exact Wx (PN _)
theorem ah6 {a b:aB} (h:AV.agg (aN a)=AV.agg (aN b)):a=b:=by
 injection h with h
 simp only[aN,List.cons.injEq,AV.int.injEq,AV.str.injEq,and_true,true_and]at h
 obtain⟨u,p⟩:=a;obtain⟨u',p'⟩:=b
 simp only at h
 rw[h.1,h.2]
theorem al5 {l:List (aB×cr)} (h:(l.map (·.1)).Nodup):FT (l.map dA):=by
 refine⟨fun p hp=>?_,?_⟩
 ·obtain⟨q,_,rfl⟩:=List.mem_map.1 hp
  exact⟨q.1.unit,q.1.param,rfl⟩
 ·rw[List.map_map]
  have e:((·.1)∘dA)=(fun k:aB=>AV.agg (aN k))∘(fun p:aB×cr=>p.1):=rfl
  rw[e,←List.map_map]
  exact List.pairwise_map.2 (List.Pairwise.imp (fun q e=>q (ah6 e)) h)
def Dt (o:Option (List (aB×cr))):Prop:=∀l,o=some l→(l.map (·.1)).Nodup∧A.yM (l.map dA)=l.map dA
theorem Zn {l:List (aB×cr)} (h:(l.map (·.1)).Nodup):A.can (.fm (l.map dA))=.fm (A.yM (l.map dA)):=by
 unfold A.can
 exact if_pos (al5 h)
theorem ajx {o:Option (List (aB×cr))} (h:Dt o):A.can (nq (fun x=>AV.agg (aN x)) (fun x=>AV.agg (fk x)) o)=nq (fun x=>AV.agg (aN x)) (fun x=>AV.agg (fk x)) o:=by
 cases o with
 |none=>rfl
 |some l=>
  obtain⟨h1,h2⟩:=h l rfl
  show A.can (.fm (l.map dA))=.fm (l.map dA)
  rw[Zn h1,h2]
theorem ag1 {b:bg} (h:Dt b.runs):(aK b).map A.can=aK b:=by
 unfold aK
 simp only[List.map_cons,List.map_nil,ajx h]
 rfl
def Co (d:bD) (e:bh):Int:=(wo d.setup.bH e.key e.value).1
noncomputable def F3 (d:bD) (s:bX) (b:bg) (k:aB) (t c:Int):Int:=if(dJ b k c).2=true then uG (dJ b k c).1 c else if ¬(eS d k).1=1 then(sw d s.az k t).out else 0
noncomputable def yH (d:bD) (s:bX) (b:bg) (x:bf) (t c:Int) (e:bh):cr:=
 if(dJ b e.key c).2=true∧(dJ b e.key c).1.ending=false∧(dJ b e.key c).1.jN.to=Co d e then(dJ b e.key c).1
 else⟨BQ d x e.key (F3 d s b e.key t c) (Co d e) c,s.number,false⟩
noncomputable def sK (d:bD) (s:bX) (b:bg) (x:bf) (c:Int) (seen:List bh) (k:aB):Option cr:=
 if(dJ b k c).2=false∨(lF seen k).isSome=true∨¬(eS d k).1=1 then none
 else some (if(dJ b k c).1.ending=true then(dJ b k c).1 else⟨sU ⟨uG (dJ b k c).1 c,0,c,x.delay,x.down,x.fq⟩,s.number,true⟩)
def zV (b:bg) (x:bf):List bh:=(zu b.bE x.number).1
noncomputable def De (d:bD) (s:bX) (b:bg) (x:bf) (t:Int):List (aB×cr):=
 (zV b x).map (fun e=>(e.key,yH d s b x t (dz b.clock t) e))++(b.runs.getD []).filterMap (fun p=>(sK d s b x (dz b.clock t) (zV b x) p.1).map (fun r=>(p.1,r)))
noncomputable def lC (d:bD) (s:bX) (b:bg) (x:bf) (to t:Int):bg:=
 {b with clock:=⟨dz b.clock t,t,false⟩,bT:=to,runs:=some (Cc (De d s b x t)),follow:=if 0≤x.follow∧to+1<(b.bE.length:Int)then IntKind.i64.wrap (dz b.clock t+x.follow)else -1}
abbrev Re:Sh:=.p DW
abbrev QT:Sh:=.p [(.s 10),.k,.k,.k]
structure rY (p : AV) (d : bD) (σ : Heap) : Prop where
 nc:A.aL p=some p
 f2:∃q1 q2,A.aA 4 p=some q1∧A.aA 2 q1=some q2∧∀ex,((A.deref q2 (σ++ex)).bind fun c=>A.aj 0 c)=some (sl 3 dN d.setup.bH)
 f10:∃q pm,A.aA 10 p=some q∧∀ex,((A.deref q (σ++ex)).bind fun c=>A.aj 0 c)=some pm∧∀k,A.look (.s [0,2]) pm (.agg (aN k)) (.agg Dq) (σ++ex)=some (.agg (jJ d k))
 lt:∀ex,Lt (σ++ex) Re p (.rp (qy d))
theorem ahf (l:List bg) (σ:Heap) (n d:Nat):A.jh σ n d (l.map aK)=some (l.map aK):=R6 CY l σ n d
abbrev bk (v:AV) (s:bX):List AV:=[v,.int .i64 s.number,.int .i64 s.mu,.bool s.black]
theorem aiP {W:Heap} {ids aS g:Nat} {s:bX} (h1:W[ids]? =some (.box (bk (.os aS g 10 0 s.az.length) s))) (h2:W[aS]? =some (.arr g 10 (s.az.map aK))):Lt W QT (.op ids 0) (.rp (rK s)):=by
 refine⟨⟨.rp (rK s),?_,rfl,rfl⟩,rfl,fun h=>by cases h⟩
 have q:=HU (c:=aK) (sz:=10) (l:=s.az) CY h2 (n:=0) (by omega) 6
 simp only[A.bw,Nat.not_lt_zero,if_false,h1,List.drop_zero,bk,A.tK,q,Option.bind_some,Option.map_some]
 rfl
theorem aiQ {W:Heap} {pd ps:AV} {d:bD} {s:bX} {k:aB} {t:Int} (hd:Lt W Re pd (.rp (qy d))) (hs':Lt W QT ps (.rp (rK s))) (hs:s.az.length≤aW) (ho:∀b∈s.az,rO b t):Bh [pd,ps,.agg (aN k),.int .i64 t] W=some (.aG [.int .i64 (sw d s.az k t).out,.int .i64 (sw d s.az k t).owner],W):=
 Ar (cO:=[pd,ps,.agg (aN k),.int .i64 t]) (ts:=[.rp (qy d),.rp (rK s),.agg (aN k),.int .i64 t]) ⟨hd,hs',MD (wu (zw k)) rfl,Q7 t,trivial⟩ (fun σ=>X2 (d:=d) hs ho σ) rfl
def Cf (p:aB×Bool):AV×AV:=(.agg (aN p.1),.bool p.2)
abbrev oF (σ:Heap) (m1:List (aB×cr)) (m2:List (aB×Bool)):Heap:=σ++[.map (m1.map dA),.map (m2.map Cf)]
theorem amd (σ:Heap) (m1:List (aB×cr)) (m2:List (aB×Bool)):(oF σ m1 m2)[σ.length]? =some (.map (m1.map dA)):=by
 rw[List.getElem?_append_right (Nat.le_refl _),Nat.sub_self];rfl
theorem ame (σ:Heap) (m1:List (aB×cr)) (m2:List (aB×Bool)):(oF σ m1 m2)[σ.length+1]? =some (.map (m2.map Cf)):=by
 rw[List.getElem?_append_right (by omega),show σ.length+1-σ.length=1 by omega];rfl
theorem ZB (σ:Heap) (m1:List (aB×cr)) (m2:List (aB×Bool)) (k:aB) (r:cr):A.eA (.s [0,2]) (.om σ.length) (.agg (aN k)) (.agg (fk r)) (oF σ m1 m2)=some (oF σ (dB k r m1) m2):=by
 rw[zx _ rfl (amd σ m1 m2),show A.upd (.s [0,2]) (.agg (aN k)) (.agg (fk r)) (m1.map dA)=some ((dB k r m1).map dA)from Dp (eK:=fun k=>AV.agg (aN k)) (eV:=fun r=>AV.agg (fk r)) qo k r m1,Option.map_some,List.set_append_right _ _ (Nat.le_refl _),Nat.sub_self]
 rfl
theorem alk (σ:Heap) (m1:List (aB×cr)) (m2:List (aB×Bool)) (k:aB) (r:Bool):A.eA (.s [0,2]) (.om (σ.length+1)) (.agg (aN k)) (.bool r) (oF σ m1 m2)=some (oF σ m1 (dB k r m2)):=by
 rw[zx _ rfl (ame σ m1 m2),show A.upd (.s [0,2]) (.agg (aN k)) (.bool r) (m2.map Cf)=some ((dB k r m2).map Cf)from Dp (eK:=fun k=>AV.agg (aN k)) (eV:=fun r=>AV.bool r) qo k r m2,Option.map_some,List.set_append_right _ _ (by omega),show σ.length+1-σ.length=1 by omega]
 rfl
structure Gm (p : AV) (b : bg) (σ : Heap) : Prop where
 nc:A.aL p=some p
 f:∀o,∃q,A.aA o p=some q∧∀ex,A.deref q (σ++ex)=some ((aK b).drop o)
theorem bRd {σ:Heap} {aS g ib:Nat} {l:List bg} {b:bg} (h:σ[aS]? =some (.arr g 10 (l.map aK))) (hb:l[ib]? =some b):Gm (.oe aS g ib 0) b σ:=by
 refine⟨rfl,fun o=>⟨.oe aS g ib o,by simp [A.aA],fun ex=>?_⟩⟩
 have hl:=(List.getElem?_eq_some_iff.1 h).1
 simp only[A.deref,List.getElem?_append_left hl,h,if_true,List.getElem?_map,hb,Option.map_some]
theorem Qc {σ:Heap} {p:AV} {b:bg} (h:Gm p b σ) (k:aB) (c:Int) (ex:Heap):p5 [p,.agg (aN k),.int .i64 c] (σ++ex)=some (.aG [.agg (fk (dJ b k c).1),.bool (dJ b k c).2],σ++ex):=by
 obtain⟨q,h2,h3⟩:=h.f 9
 refine XE b k c (σ++ex) h.nc h2 ?_
 rw[h3 ex]
 exact KE b (σ:=[])
theorem ale {σ:Heap} {p:AV} {d:bD} (h:rY p d σ) (x:bf) (hm:x.dm.length≤aW) (k:aB) (dw to c:Int) (ex:Heap):Bi [p,.agg (aZ x),.agg (aN k),.int .i64 dw,.int .i64 to,.int .i64 c] (σ++ex)=some (.agg (fF (BQ d x k dw to c)),σ++ex):=by
 obtain⟨q,pm,h2,h3⟩:=h.f10
 exact alf d x hm k dw to c (σ++ex) h.nc h2 (h3 ex).1 ((h3 ex).2 k)
theorem QJ (f:gE) (n:Int) (b:Bool):(((A.cells 7 (.agg (fF f))).bind fun xz=>(A.splice 0 xz [ah,ah,ah,ah,ah,ah,AV.au,ah,aM]).bind fun pR=>((A.cell (.int .i64 n)).bind fun v=>some [v]).bind fun xA=>(A.splice 7 xA pR).bind fun wG=>((A.cell (AV.bool b)).bind fun v=>some [v]).bind fun oZ=>(A.splice 8 oZ wG).bind fun zX=>some zX).bind fun cs=>some (AV.agg cs))=some (.agg (fk ⟨f,n,b⟩)):=rfl
theorem go_step1 {d:bD} {s:bX} {σ:Heap} {pd bp:AV} {ids aS g:Nat} {b:bg} {x:bf} {t:Int} (hd:rY pd d σ) (h1:σ[ids]? =some (.box (bk (.os aS g 10 0 s.az.length) s))) (h2:σ[aS]? =some (.arr g 10 (s.az.map aK))) (hb:b∈s.az) (yW:Gm bp b σ) (hs:s.az.length≤aW) (ho:∀b∈s.az,rO b t) (hp:eW zn d.setup.bH) (hx:x.dm.length≤aW) {seen:List bh} (A5:seen.length≤aW) {i:Nat} {e:bh} (he:seen[i]? =some e) (m1:List (aB×cr)) (m2:List (aB×Bool)):((fun jm xS=>
   (A.lss (jm.getD 1 AV.undef) (AV.int .i64 (seen.length:Int))).bind fun x32=>
   A.cond x32 (
    (A.aT 5 (sl 5 cM seen) (jm.getD 1 AV.undef)).bind fun eB=>
    ((A.deref eB xS).bind fun rZ=>A.ay 0 5 rZ).bind fun fJ=>
    (A.cells 5 fJ).bind fun hG=>
    (A.splice 0 hG [ah,br,ah,ah,ah]).bind fun fI=>
    (A.ay 0 2 fI).bind fun x38=>
    (A.eA (.s [0,2]) (AV.om (σ.length+1)) x38 cI xS).bind fun qQ=>
    (A.aL pd).bind fun dc=>
    (A.aA 4 dc).bind fun dV=>
    (A.aA 2 dV).bind fun gA=>
    ((A.deref gA qQ).bind fun uo=>A.aj 0 uo).bind fun eC=>
    (A.ay 0 2 fI).bind fun eo=>
    (A.ay 2 2 fI).bind fun fC=>
    (A.quiet (CU [eC,eo,fC] qQ) qQ).bind fun ij=>
    (A.ext 0 ij).bind fun gq=>
    (A.ext 1 ij).bind fun eD=>
    (A.ay 0 2 fI).bind fun lU=>
    (p5 [bp,lU,(AV.int .i64 (dz b.clock t))] qQ).bind fun kR=>
    (A.ext 0 kR.1).bind fun dP=>
    (A.ext 1 kR.1).bind fun gR=>
    (A.cells 9 dP).bind fun vE=>
    (A.splice 0 vE [ah,ah,ah,ah,ah,ah,AV.au,ah,aM]).bind fun iB=>
    (A.guard gR true (A.aj 8 iB) an).bind fun gd=>
    (A.guard gR true (A.not gd) an).bind fun jK=>
    (A.pick gR jK aM).bind fun gC=>
    (A.guard gC true (A.aj 1 iB) an).bind fun eZ=>
    (A.guard gC true (some gq) an).bind fun gV=>
    (A.guard gC true (A.eql .i eZ gV) an).bind fun jo=>
    (A.pick gC jo aM).bind fun fc=>
    A.cond fc (
     (A.ay 0 2 fI).bind fun fD=>
     (A.ay 0 9 iB).bind fun lV=>
     (A.eA (.s [0,2]) (AV.om σ.length) fD lV kR.2).bind fun I2=>
     (A.add (jm.getD 1 AV.undef) aH).bind fun gD=>
     some (AX.normal,[(jm.getD 0 AV.undef),gD],I2)) (
     (A.cond gR (
      (A.ay 0 9 iB).bind fun iq=>
      (uK [iq,(AV.int .i64 (dz b.clock t))] kR.2).bind fun CB=>
      some ([(jm.getD 0 AV.undef),(AV.lbx fI),CB.1],CB.2)) (
      (A.aL pd).bind fun ff=>
      (A.aA 10 ff).bind fun n5=>
      ((A.deref n5 kR.2).bind fun jH=>A.aj 0 jH).bind fun iH=>
      (A.ay 0 2 fI).bind fun iu=>
      (A.look (.s [0,2]) iH iu (AV.agg [br,ah,ah,ah,ah,aM,AV.au]) kR.2).bind fun eE=>
      ((A.cells 7 eE).bind fun D8=>A.aj 1 D8).bind fun xU=>
      (A.neq .i xU aH).bind fun jC=>
      (A.cond jC (
       (A.ay 0 2 fI).bind fun fT=>
       (Bh [pd,(AV.op ids 0),fT,(AV.int .i64 t)] kR.2).bind fun xL=>
       (A.ext 0 xL.1).bind fun p4=>
       (A.ext 1 xL.1).bind fun rj=>
       some ([(jm.getD 0 AV.undef),(AV.lbx fI),p4],xL.2)) (
       some ([(jm.getD 0 AV.undef),(AV.lbx fI),ah],kR.2))).bind fun kn=>
      some ([(kn.1.getD 0 AV.undef),(kn.1.getD 1 AV.undef),(kn.1.getD 2 AV.undef)],kn.2))).bind fun eX=>
     ((A.lb (eX.1.getD 1 AV.undef)).bind fun _=>some (0)).bind fun Es=>
     ((A.lb (eX.1.getD 1 AV.undef)).bind fun AL=>A.ay Es 2 AL).bind fun jD=>
     ((A.lb (eX.1.getD 0 AV.undef)).bind fun sj=>A.ay 0 11 sj).bind fun iJ=>
     ((A.lb (eX.1.getD 1 AV.undef)).bind fun _=>some (0)).bind fun Eu=>
     ((A.lb (eX.1.getD 1 AV.undef)).bind fun nT=>A.ay Eu 2 nT).bind fun x91=>
     (A.quiet (Bi [pd,iJ,x91,(eX.1.getD 2 AV.undef),gq,(AV.int .i64 (dz b.clock t))] eX.2) eX.2).bind fun n9=>
     (A.aL (AV.op ids 0)).bind fun x93=>
     (A.aA 1 x93).bind fun rq=>
     ((A.deref rq eX.2).bind fun jx=>A.aj 0 jx).bind fun x96=>
     (((A.cells 7 n9).bind fun xz=>(A.splice 0 xz [ah,ah,ah,ah,ah,ah,AV.au,ah,aM]).bind fun pR=>((A.cell x96).bind fun v=>some [v]).bind fun xA=>(A.splice 7 xA pR).bind fun wG=>((A.cell aM).bind fun v=>some [v]).bind fun oZ=>(A.splice 8 oZ wG).bind fun zX=>some zX).bind fun cs=>some (AV.agg cs)).bind fun vB=>
     (A.eA (.s [0,2]) (AV.om σ.length) jD vB eX.2).bind fun DI=>
     (A.add (jm.getD 1 AV.undef) aH).bind fun Ay=>
     some (AX.normal,[(eX.1.getD 0 AV.undef),Ay],DI))) (
    some (AX.exit 0,[(jm.getD 0 AV.undef),(jm.getD 1 AV.undef)],xS)))) [.lbx (aZ x),.int .i64 (i:Int)] (oF σ m1 m2)=some (.normal,[.lbx (aZ x),.int .i64 ((i+1:Nat):Int)],oF σ (dB e.key (yH d s b x t (dz b.clock t) e) m1) (dB e.key true m2)):=by
 obtain⟨c,hc⟩:∃c,c=dz b.clock t:=⟨_,rfl⟩
 have Cv:=ho b hb
 have Ao:=Cv.pS
 have Ed:(dJ b e.key c).2=true→rJ (dJ b e.key c).1.jN:=fun q=>by rw[hc]at q ⊢;exact zC Cv q
 rw[←hc]at Ao
 rw[←hc]
 obtain⟨q1,q2,f1,f2,f3⟩:=hd.f2
 obtain⟨GF,pm,g1,g2⟩:=hd.f10
 have h1':∀ex,(σ++ex)[ids]? =some (.box (bk (.os aS g 10 0 s.az.length) s)):=fun ex=>by rw[List.getElem?_append_left (List.getElem?_eq_some_iff.1 h1).1];exact h1
 have h2':∀ex,(σ++ex)[aS]? =some (.arr g 10 (s.az.map aK)):=fun ex=>by rw[List.getElem?_append_left (List.getElem?_eq_some_iff.1 h2).1];exact h2
 simp only[List.getD_cons_zero,List.getD_cons_succ]
 rw[jr he,bS,cW,iQ he,bS,nU]
 simp only[bS,show A.ay 0 5 (cM e)=some (.agg (cM e))from rfl,show A.cells 5 (.agg (cM e))=some (cM e)from rfl,show A.splice 0 (cM e) [ah,br,ah,ah,ah]=some (cM e)from rfl,show A.ay 0 2 (cM e)=some (.agg (aN e.key))from rfl,show A.ay 2 2 (cM e)=some (.agg (uV e.value))from rfl]
 rw[alk,bS]
 simp only[hd.nc,bS,f1,f2,f3,quiet_of (Ve (Yt d.setup.bH hp e.key e.value)),kP,ext1]
 rw[Qc yW,bS]
 simp only[kP,ext1,bS,yl,Bs _ _ (show mX.length=9 from rfl)]
 have tail:∀(W:Heap) (dw:Int) (hW:W=oF σ m1 (dB e.key true m2)),((A.lb (AV.lbx (cM e))).bind fun _=>some 0).bind (fun Es=>((A.lb (AV.lbx (cM e))).bind fun AL=>A.ay Es 2 AL).bind fun jD=>((A.lb (.lbx (aZ x))).bind fun sj=>A.ay 0 11 sj).bind fun iJ=>((A.lb (AV.lbx (cM e))).bind fun _=>some (0)).bind fun Eu=>((A.lb (AV.lbx (cM e))).bind fun nT=>A.ay Eu 2 nT).bind fun x91=>(A.quiet (Bi [pd,iJ,x91,.int .i64 dw,.int .i64 (Co d e),.int .i64 c] W) W).bind fun n9=>(A.aL (AV.op ids 0)).bind fun x93=>(A.aA 1 x93).bind fun rq=>((A.deref rq W).bind fun jx=>A.aj 0 jx).bind fun x96=>
   (((A.cells 7 n9).bind fun xz=>(A.splice 0 xz [ah,ah,ah,ah,ah,ah,AV.au,ah,aM]).bind fun pR=>((A.cell x96).bind fun v=>some [v]).bind fun xA=>(A.splice 7 xA pR).bind fun wG=>((A.cell aM).bind fun v=>some [v]).bind fun oZ=>(A.splice 8 oZ wG).bind fun zX=>some zX).bind fun cs=>some (AV.agg cs)).bind fun vB=>(A.eA (.s [0,2]) (AV.om σ.length) jD vB W).bind fun DI=>(A.add (AV.int .i64 (i:Int)) aH).bind fun Ay=>some (AX.normal,[(.lbx (aZ x)),Ay],DI))=some (.normal,[.lbx (aZ x),.int .i64 ((i+1:Nat):Int)],oF σ (dB e.key ⟨BQ d x e.key dw (Co d e) c,s.number,false⟩ m1) (dB e.key true m2)):=by
  intro W dw hW
  subst hW
  simp only[ia,bS,show A.ay 0 2 (cM e)=some (.agg (aN e.key))from rfl,show A.ay 0 11 (aZ x)=some (.agg (aZ x))from rfl,quiet_of (ale hd x hx e.key dw (Co d e) c _)]
  rw[show A.aL (.op ids 0)=some (.op ids 0)from rfl,bS,show A.aA 1 (.op ids 0)=some (.op ids 1)from rfl,bS,show((A.deref (.op ids 1) (oF σ m1 (dB e.key true m2))).bind fun jx=>A.aj 0 jx)=some (.int .i64 s.number)from by simp only[A.deref,h1'];rfl,bS,QJ,bS,ZB,bS,fU he A5,bS]
 unfold yH
 by_cases lS:(dJ b e.key c).2=true
 ·have hfo:=Ed lS
  rw[lS]
  cases Jd:(dJ b e.key c).1.ending
  case false=>
   simp only[gT,bS,KW,Jd,wX,Bool.not_false,lD,agh,iN]
   by_cases hto:(dJ b e.key c).1.jN.to=Co d e
   ·rw[show(wo d.setup.bH e.key e.value).1=Co d e from rfl,decide_eq_true hto,cW,if_pos ⟨trivial,trivial,hto⟩]
    simp only[uQ,bS]
    rw[ZB,bS,fU he A5,bS]
   ·rw[show(wo d.setup.bH e.key e.value).1=Co d e from rfl,decide_eq_false hto,cD,if_neg (fun q=>hto q.2.2),cW]
    simp only[uQ,bS,HI hfo Ao,List.getD_cons_zero,List.getD_cons_succ]
    have:=tail _ (uG (dJ b e.key c).1 c) rfl
    unfold F3
    rw[if_pos lS]
    exact this
  case true=>
   simp only[gT,uw,bS,KW,Jd,wX,Bool.not_true,lD,mg]
   rw[cD,if_neg (fun q=>by cases q.2.1),cW]
   simp only[uQ,bS,HI hfo Ao,List.getD_cons_zero,List.getD_cons_succ]
   have:=tail _ (uG (dJ b e.key c).1 c) rfl
   unfold F3
   rw[if_pos lS]
   exact this
 ·have DK:(dJ b e.key c).2=false:=by simpa using lS
  rw[DK]
  simp only[uw,gU,bS,mg]
  rw[cD,if_neg (fun q=>by cases q.1),cD]
  simp only[hd.nc,bS,g1,g2,show A.ay 0 2 (cM e)=some (.agg (aN e.key))from rfl,FI,zH,fW]
  by_cases hg:(eS d e.key).1=1
  ·rw[decide_eq_false (fun q=>q hg),cD]
   simp only[bS,List.getD_cons_zero,List.getD_cons_succ]
   have:=tail _ 0 rfl
   unfold F3
   rw[if_neg lS,if_neg (fun q=>q hg)]
   exact this
  ·rw[decide_eq_true hg,cW]
   simp only[bS,aiQ (hd.lt _) (aiP (h1' _) (h2' _)) hs ho,kP,ext1,List.getD_cons_zero,List.getD_cons_succ]
   have:=tail _ (sw d s.az e.key t).out rfl
   unfold F3
   rw[if_neg lS,if_pos hg]
   exact this
end
section
set_option maxRecDepth 100000
open HP
theorem HZ {κ ν:Type} [DecidableEq κ] {k:κ} {v:ν}:∀{l:List (κ×ν)},(∀p∈l,p.1≠k)→dB k v l=l++[(k,v)]
 |[],_=>rfl
 |(k',v')::r,h=>by
  rw[dB,if_neg (fun e=>h (k',v') (by simp) e.symm),HZ fun p hp=>h p (by simp [hp])]
  rfl
theorem Ig {κ ν:Type} [DecidableEq κ] {k:κ} {v:ν}:∀{l:List (κ×ν)},cH k l=some v→(k,v)∈l
 |[],h=>by cases h
 |(k',v')::r,h=>by
  rw[cH]at h
  by_cases e:k=k'
  ·rw[if_pos e]at h;injection h with h;subst h;subst e;simp
  ·rw[if_neg e]at h;exact List.mem_cons_of_mem _ (Ig h)
theorem ahV {seen:List bh} (h:mA seen) {i:Nat} {e:bh} (he:seen[i]? =some e):∀a∈seen.take i,a.key≠e.key:=by
 have hp:(seen.take (i+1)).Pairwise fun a b=>fu a.key b.key=true:=List.Pairwise.sublist (List.take_sublist _ _) h
 rw[List.take_add_one,he]at hp
 intro a ha q
 have:=(List.pairwise_append.1 hp).2.2 a ha e (by simp)
 rw[q,Bz]at this
 cases this
theorem go_loop1 {d:bD} {s:bX} {σ:Heap} {pd bp:AV} {ids aS g:Nat} {b:bg} {x:bf} {t:Int} (hd:rY pd d σ) (h1:σ[ids]? =some (.box (bk (.os aS g 10 0 s.az.length) s))) (h2:σ[aS]? =some (.arr g 10 (s.az.map aK))) (hb:b∈s.az) (yW:Gm bp b σ) (hs:s.az.length≤aW) (ho:∀b∈s.az,rO b t) (hp:eW zn d.setup.bH) (hx:x.dm.length≤aW) {seen:List bh} (A5:seen.length≤aW) (uB:mA seen):A.loop ((fun jm xS=>
   (A.lss (jm.getD 1 AV.undef) (AV.int .i64 (seen.length:Int))).bind fun x32=>
   A.cond x32 (
    (A.aT 5 (sl 5 cM seen) (jm.getD 1 AV.undef)).bind fun eB=>
    ((A.deref eB xS).bind fun rZ=>A.ay 0 5 rZ).bind fun fJ=>
    (A.cells 5 fJ).bind fun hG=>
    (A.splice 0 hG [ah,br,ah,ah,ah]).bind fun fI=>
    (A.ay 0 2 fI).bind fun x38=>
    (A.eA (.s [0,2]) (AV.om (σ.length+1)) x38 cI xS).bind fun qQ=>
    (A.aL pd).bind fun dc=>
    (A.aA 4 dc).bind fun dV=>
    (A.aA 2 dV).bind fun gA=>
    ((A.deref gA qQ).bind fun uo=>A.aj 0 uo).bind fun eC=>
    (A.ay 0 2 fI).bind fun eo=>
    (A.ay 2 2 fI).bind fun fC=>
    (A.quiet (CU [eC,eo,fC] qQ) qQ).bind fun ij=>
    (A.ext 0 ij).bind fun gq=>
    (A.ext 1 ij).bind fun eD=>
    (A.ay 0 2 fI).bind fun lU=>
    (p5 [bp,lU,(AV.int .i64 (dz b.clock t))] qQ).bind fun kR=>
    (A.ext 0 kR.1).bind fun dP=>
    (A.ext 1 kR.1).bind fun gR=>
    (A.cells 9 dP).bind fun vE=>
    (A.splice 0 vE [ah,ah,ah,ah,ah,ah,AV.au,ah,aM]).bind fun iB=>
    (A.guard gR true (A.aj 8 iB) an).bind fun gd=>
    (A.guard gR true (A.not gd) an).bind fun jK=>
    (A.pick gR jK aM).bind fun gC=>
    (A.guard gC true (A.aj 1 iB) an).bind fun eZ=>
    (A.guard gC true (some gq) an).bind fun gV=>
    (A.guard gC true (A.eql .i eZ gV) an).bind fun jo=>
    (A.pick gC jo aM).bind fun fc=>
    A.cond fc (
     (A.ay 0 2 fI).bind fun fD=>
     (A.ay 0 9 iB).bind fun lV=>
     (A.eA (.s [0,2]) (AV.om σ.length) fD lV kR.2).bind fun I2=>
     (A.add (jm.getD 1 AV.undef) aH).bind fun gD=>
     some (AX.normal,[(jm.getD 0 AV.undef),gD],I2)) (
     (A.cond gR (
      (A.ay 0 9 iB).bind fun iq=>
      (uK [iq,(AV.int .i64 (dz b.clock t))] kR.2).bind fun CB=>
      some ([(jm.getD 0 AV.undef),(AV.lbx fI),CB.1],CB.2)) (
      (A.aL pd).bind fun ff=>
      (A.aA 10 ff).bind fun n5=>
      ((A.deref n5 kR.2).bind fun jH=>A.aj 0 jH).bind fun iH=>
      (A.ay 0 2 fI).bind fun iu=>
      (A.look (.s [0,2]) iH iu (AV.agg [br,ah,ah,ah,ah,aM,AV.au]) kR.2).bind fun eE=>
      ((A.cells 7 eE).bind fun D8=>A.aj 1 D8).bind fun xU=>
      (A.neq .i xU aH).bind fun jC=>
      (A.cond jC (
       (A.ay 0 2 fI).bind fun fT=>
       (Bh [pd,(AV.op ids 0),fT,(AV.int .i64 t)] kR.2).bind fun xL=>
       (A.ext 0 xL.1).bind fun p4=>
       (A.ext 1 xL.1).bind fun rj=>
       some ([(jm.getD 0 AV.undef),(AV.lbx fI),p4],xL.2)) (
       some ([(jm.getD 0 AV.undef),(AV.lbx fI),ah],kR.2))).bind fun kn=>
      some ([(kn.1.getD 0 AV.undef),(kn.1.getD 1 AV.undef),(kn.1.getD 2 AV.undef)],kn.2))).bind fun eX=>
     ((A.lb (eX.1.getD 1 AV.undef)).bind fun _=>some (0)).bind fun Es=>
     ((A.lb (eX.1.getD 1 AV.undef)).bind fun AL=>A.ay Es 2 AL).bind fun jD=>
     ((A.lb (eX.1.getD 0 AV.undef)).bind fun sj=>A.ay 0 11 sj).bind fun iJ=>
     ((A.lb (eX.1.getD 1 AV.undef)).bind fun _=>some (0)).bind fun Eu=>
     ((A.lb (eX.1.getD 1 AV.undef)).bind fun nT=>A.ay Eu 2 nT).bind fun x91=>
     (A.quiet (Bi [pd,iJ,x91,(eX.1.getD 2 AV.undef),gq,(AV.int .i64 (dz b.clock t))] eX.2) eX.2).bind fun n9=>
     (A.aL (AV.op ids 0)).bind fun x93=>
     (A.aA 1 x93).bind fun rq=>
     ((A.deref rq eX.2).bind fun jx=>A.aj 0 jx).bind fun x96=>
     (((A.cells 7 n9).bind fun xz=>(A.splice 0 xz [ah,ah,ah,ah,ah,ah,AV.au,ah,aM]).bind fun pR=>((A.cell x96).bind fun v=>some [v]).bind fun xA=>(A.splice 7 xA pR).bind fun wG=>((A.cell aM).bind fun v=>some [v]).bind fun oZ=>(A.splice 8 oZ wG).bind fun zX=>some zX).bind fun cs=>some (AV.agg cs)).bind fun vB=>
     (A.eA (.s [0,2]) (AV.om σ.length) jD vB eX.2).bind fun DI=>
     (A.add (jm.getD 1 AV.undef) aH).bind fun Ay=>
     some (AX.normal,[(eX.1.getD 0 AV.undef),Ay],DI))) (
    some (AX.exit 0,[(jm.getD 0 AV.undef),(jm.getD 1 AV.undef)],xS)))) [.lbx (aZ x),.int .i64 0] (oF σ [] [])=some (.exit 0,[.lbx (aZ x),.int .i64 (seen.length:Int)],oF σ (seen.map (fun e=>(e.key,yH d s b x t (dz b.clock t) e))) (seen.map (fun e=>(e.key,true)))):=by
 refine AR (mm (Q:=fun q=>q=(.exit 0,[.lbx (aZ x),.int .i64 (seen.length:Int)],oF σ (seen.map (fun e=>(e.key,yH d s b x t (dz b.clock t) e))) (seen.map (fun e=>(e.key,true))))) (fun z v w=>∃i:Nat,i≤seen.length∧v=[.lbx (aZ x),.int .i64 (i:Int)]∧w=oF σ ((seen.take i).map (fun e=>(e.key,yH d s b x t (dz b.clock t) e))) ((seen.take i).map (fun e=>(e.key,true)))∧z=seen.length-i) ?_ (n:=seen.length) ⟨0,Nat.zero_le _,rfl,rfl,rfl⟩)
 rintro z v w ⟨i,hi,rfl,rfl,hz⟩
 by_cases h:i<seen.length
 ·have he:seen[i]? =some seen[i]:=List.getElem?_eq_getElem h
  have hk:=ahV uB he
  refine .inl ⟨seen.length-(i+1),_,_,by omega,go_step1 hd h1 h2 hb yW hs ho hp hx A5 he _ _,i+1,h,rfl,?_,rfl⟩
  rw[HZ (fun p hp=>by obtain⟨a,ha,rfl⟩:=List.mem_map.1 hp;exact hk a ha),HZ (fun p hp=>by obtain⟨a,ha,rfl⟩:=List.mem_map.1 hp;exact hk a ha),List.take_add_one,he]
  simp only[List.map_append,Option.toList_some,List.map_cons,List.map_nil]
 ·have:i=seen.length:=by omega
  subst this
  refine .inr ⟨_,?_,by simp,rfl⟩
  simp only[List.getD_cons_zero,List.getD_cons_succ]
  rw[jq,bS,cD,List.take_length]
abbrev su (σ:Heap) (m1:List (aB×cr)) (m2:List (aB×Bool)) (c l:List (AV×AV)):Heap:=σ++[.map (m1.map dA),.map (m2.map Cf),.it c l]
theorem ZA (σ:Heap) (m1:List (aB×cr)) (m2:List (aB×Bool)) (c l:List (AV×AV)):(su σ m1 m2 c l)[σ.length+2]? =some (.it c l):=by
 rw[List.getElem?_append_right (by omega),show σ.length+2-σ.length=2 by omega];rfl
theorem aj2 (σ:Heap) (m1:List (aB×cr)) (m2:List (aB×Bool)) (c l c' l':List (AV×AV)):(su σ m1 m2 c l).set (σ.length+2) (.it c' l')=su σ m1 m2 c' l':=by
 rw[List.set_append_right _ _ (by omega),show σ.length+2-σ.length=2 by omega];rfl
theorem alj (σ:Heap) (m1:List (aB×cr)) (m2:List (aB×Bool)) (c l:List (AV×AV)) (k:aB) (r:cr):A.eA (.s [0,2]) (.om σ.length) (.agg (aN k)) (.agg (fk r)) (su σ m1 m2 c l)=some (su σ (dB k r m1) m2 c l):=by
 rw[zx _ rfl (show(su σ m1 m2 c l)[σ.length]? =some (.map (m1.map dA)) by rw[List.getElem?_append_right (Nat.le_refl _),Nat.sub_self];rfl),show A.upd (.s [0,2]) (.agg (aN k)) (.agg (fk r)) (m1.map dA)=some ((dB k r m1).map dA)from Dp (eK:=fun k=>AV.agg (aN k)) (eV:=fun r=>AV.agg (fk r)) qo k r m1,Option.map_some,List.set_append_right _ _ (Nat.le_refl _),Nat.sub_self]
 rfl
theorem ali (σ:Heap) (m1:List (aB×cr)) (m2:List (aB×Bool)) (c l:List (AV×AV)) (k:aB):A.look (.s [0,2]) (.om (σ.length+1)) (.agg (aN k)) (.bool false) (su σ m1 m2 c l)=some (.bool ((cH k m2).getD false)):=by
 have h:(su σ m1 m2 c l)[σ.length+1]? =some (.map (m2.map Cf)):=by rw[List.getElem?_append_right (by omega),show σ.length+1-σ.length=1 by omega];rfl
 simp only[A.look,show A.jt (.s [0,2]) (.agg (aN k))=true from rfl,cond_true,A.entries,h,Option.bind_some,show A.find (.s [0,2]) (.agg (aN k)) (m2.map Cf)=some ((cH k m2).map AV.bool)from BG (eK:=fun k=>AV.agg (aN k)) (eV:=fun r=>AV.bool r) qo k m2,Option.map_some]
 cases cH k m2<;>rfl
theorem ajl (seen:List bh) (k:aB):(cH k (seen.map (fun e=>(e.key,true)))).getD false=(lF seen k).isSome:=by
 induction seen with
 |nil=>rfl
 |cons e l ih=>
  rw[List.map_cons,cH]
  unfold lF at ih ⊢
  rw[List.find?_cons]
  by_cases h:k=e.key
  ·rw[if_pos h,decide_eq_true h.symm];rfl
  ·rw[if_neg h,decide_eq_false (fun q=>h q.symm)];exact ih
theorem aiL (dw c:Int) (x:bf):((((A.cell (.int .i64 dw)).bind fun v=>some [v]).bind fun sS=>(A.splice 0 sS [ah,ah,ah,ah,ah,ah,AV.au]).bind fun wN=>((A.cell (.int .i64 c)).bind fun v=>some [v]).bind fun wO=>(A.splice 2 wO wN).bind fun Il=>((A.cell (.int .i64 x.delay)).bind fun v=>some [v]).bind fun RS=>(A.splice 3 RS Il).bind fun Im=>((A.cell (.int .i64 x.down)).bind fun v=>some [v]).bind fun RT=>(A.splice 4 RT Im).bind fun Io=>(A.cells 2 (.agg (lN x.fq))).bind fun DD=>(A.splice 5 DD Io).bind fun Ak=>some Ak).bind fun cs=>some (AV.agg cs))=some (.agg (fF ⟨dw,0,c,x.delay,x.down,x.fq⟩)):=rfl
theorem Wc (o:Option (List (aB×cr))):A.BJ (nq (fun x=>AV.agg (aN x)) (fun x=>AV.agg (fk x)) o)=some ((o.getD []).map dA):=by cases o<;>rfl
theorem HO {W:Heap} {aS g ib o:Nat} {rows:List (List AV)} {row row' new:List AV} (h:W[aS]? =some (.arr g 10 rows)) (hr:rows[ib]? =some row) (hs:A.splice o new row=some row'):A.storeAt (.oe aS g ib o) new W=some (W.set aS (.arr g 10 (rows.set ib row'))):=by
 simp only[A.storeAt,h,if_true,hr,Option.bind_some,hs,Option.map_some]
theorem WK {W:Heap} {n:Nat} {B:aJ}:∀{τ:Heap} {i:Nat} {ex:Heap} {b:aJ},τ[i]? =some b→B≠b→A.ve W n τ (τ.set i B++ex)=(A.Cg W n B).map (fun B'=>τ.set i B')
 |[],i,ex,b,h,_=>by cases h
 |a::τ,0,ex,b,h,hn=>by
  injection h with h
  subst h
  rw[List.set_cons_zero,List.cons_append]
  simp only[A.ve,if_neg hn]
  have key:∀τ:Heap,A.ve W n τ (τ++ex)=some τ:=by
   intro τ
   induction τ with
   |nil=>simp [A.ve]
   |cons y τ ih=>simp only[List.cons_append,A.ve,if_true,Option.bind_some,ih,Option.map_some]
  rw[key]
  cases A.Cg W n B<;>rfl
 |a::τ,i+1,ex,b,h,hn=>by
  rw[List.set_cons_succ,List.cons_append]
  simp only[A.ve,if_true,Option.bind_some]
  rw[WK (i:=i) (b:=b) h hn]
  cases A.Cg W n B<;>rfl
theorem alg {W:Heap} {n:Nat} {l:List (aB×cr)} (h:W[n]? =some (.map (l.map dA))) (d:Nat):A.bw W n (d+1) (.om n)=some (.fm (l.map dA)):=by
 simp only[A.bw,Nat.lt_irrefl,if_false,h]
 rw[L5 d (fun p hp=>by obtain⟨q,_,rfl⟩:=List.mem_map.1 hp;exact⟨wu (zw _),wu (XR _)⟩)]
 rfl
theorem WL {W:Heap} {n d:Nat} {row' aaA:List AV} (hrow:A.eO W n d row'=some aaA):∀{l:List bg} {ib:Nat},A.jh W n d ((l.map aK).set ib row')=some ((l.map aK).set ib aaA)
 |[],ib=>by simp [A.jh]
 |b::l,0=>by
  simp only[List.map_cons,List.set_cons_zero,A.jh,hrow,Option.bind_some,ahf l W n d,Option.map_some]
 |b::l,ib+1=>by
  simp only[List.map_cons,List.set_cons_succ,A.jh,CY b W n d,Option.bind_some,WL hrow (l:=l),Option.map_some]
theorem Pp {σ:Heap} {ex:Heap} {aS g ib:Nat} {l:List bg} {b b':bg} {m R:List (aB×cr)} (h2:σ[aS]? =some (.arr g 10 (l.map aK))) (hb:l[ib]? =some b) (hcan:∀b∈l,Dt b.runs) (hR:b'.runs=some (Cc R)) (hm:m.Perm R) (hnd:(m.map (·.1)).Nodup) (hex:ex[0]? =some (.map (m.map dA))):
  A.An σ (.aG []) ((σ++ex).set aS (.arr g 10 ((l.map aK).set ib [.int .i64 b'.clock.shown,.int .i64 b'.clock.since,.bool b'.clock.kU,.int .i64 b'.number,.int .i64 b'.priority,sl 11 aZ b'.bE,.int .i64 b'.bT,.int .i64 b'.jg,.int .i64 b'.follow,.om σ.length])))=some (.aG [],σ.set aS (.arr g 10 ((l.set ib b').map aK))):=by
 have hl:=(List.getElem?_eq_some_iff.1 h2).1
 have hib:=(List.getElem?_eq_some_iff.1 hb).1
 obtain⟨row,hrow⟩:∃row:List AV,row=[.int .i64 b'.clock.shown,.int .i64 b'.clock.since,.bool b'.clock.kU,.int .i64 b'.number,.int .i64 b'.priority,sl 11 aZ b'.bE,.int .i64 b'.bT,.int .i64 b'.jg,.int .i64 b'.follow,.om σ.length]:=⟨_,rfl⟩
 rw[←hrow]
 rw[List.set_append_left _ _ hl]
 obtain⟨W,hW⟩:∃W,W=σ.set aS (.arr g 10 ((l.map aK).set ib row))++ex:=⟨_,rfl⟩
 have hWn:W[σ.length]? =some (.map (m.map dA)):=by
  rw[hW,List.getElem?_append_right (by simp),List.length_set,Nat.sub_self];exact hex
 have hne:aJ.arr g 10 ((l.map aK).set ib row)≠.arr g 10 (l.map aK):=by
  intro q
  injection q with _ _ q
  have q2:((l.map aK).set ib row)[ib]? =(l.map aK)[ib]? :=by rw[q]
  rw[List.getElem?_set_self (by simpa using hib),List.getElem?_map,hb,Option.map_some]at q2
  injection q2 with q2
  rw[hrow]at q2
  unfold aK at q2
  simp only[List.cons.injEq,and_true]at q2
  have:=q2.2.2.2.2.2.2.2.2.2
  revert this
  cases b.runs<;>intro this<;>cases this
 have hfr:A.eO W σ.length 8 row=some [.int .i64 b'.clock.shown,.int .i64 b'.clock.since,.bool b'.clock.kU,.int .i64 b'.number,.int .i64 b'.priority,sl 11 aZ b'.bE,.int .i64 b'.bT,.int .i64 b'.jg,.int .i64 b'.follow,.fm (m.map dA)]:=by
  rw[hrow]
  simp only[A.eO,dO _ _ W σ.length 8,Bw _ W σ.length 8,oS L6 _ W σ.length 8,alg hWn 7,Option.bind_some,Option.map_some]
 have hB:A.Cg W σ.length (.arr g 10 ((l.map aK).set ib row))=some (.arr g 10 ((l.set ib b').map aK)):=by
  simp only[A.Cg,WL hfr,Option.map_some]
  congr 2
  rw[List.map_set,List.map_set,List.map_map]
  have e1:l.map ((fun x=>x.map A.can)∘aK)=l.map aK:=List.map_congr_left fun b hb=>ag1 (hcan b hb)
  rw[e1]
  congr 1
  unfold aK
  rw[hR]
  simp only[List.map_cons,List.map_nil,Zn hnd,Wx (hm.map dA),←XA]
  rfl
 unfold A.An
 rw[←hW]
 conv=>lhs;arg 1;rw[hW]
 rw[WK h2 hne,←hW,hB]
 simp only[Option.map_some,Option.bind_some]
 have:A.bw W σ.length 8 (.aG [])=some (.aG []):=by simp [A.bw,A.eO]
 rw[this]
 rfl
end
section
set_option maxRecDepth 100000
open HP
theorem alS {ro:Sh} {r:AV→AV→AV→AV→AV→Heap→Option (AV×Heap)} {x y z u p v v':AV} {σ σ':Heap} (e2:A.nn ro v=v') (e:r x y z u p σ=some (v,σ')):A.wrap false [] ro (A.DY r) [x,y,z,u,p] σ=some (v',σ'):=by
 have:A.DY r [x,y,z,u,p] σ=some (v,σ'):=e
 simp only[A.wrap,Bool.false_and,cond_false,A.bV,this,Option.map_some,e2]
abbrev yR (c t:Int) (b:bg) (bT follow:Int) (rv:AV):List AV:=[.int .i64 c,.int .i64 t,.bool false,.int .i64 b.number,.int .i64 b.priority,sl 11 aZ b.bE,.int .i64 bT,.int .i64 b.jg,.int .i64 follow,rv]
theorem Lq {d:bD} {s:bX} {b:bg} {x:bf} {c:Int} {seen:List bh}:∀(l:List (aB×cr)),∀p∈l.filterMap (fun p=>(sK d s b x c seen p.1).map (fun r=>(p.1,r))),(lF seen p.1).isSome=false∧p.1∈l.map (·.1):=by
 intro l p hp
 obtain⟨q,hq,h⟩:=List.mem_filterMap.1 hp
 obtain⟨r,hr,rfl⟩:=Option.map_eq_some_iff.1 h
 refine⟨?_,List.mem_map.2 ⟨q,hq,rfl⟩⟩
 unfold sK at hr
 split at hr
 ·cases hr
 ·rename_i h
  simp only[not_or]at h
  simpa using h.2.1
theorem PG {d:bD} {s:bX} {b:bg} {x:bf} {c:Int} {seen:List bh}:∀{l:List (aB×cr)},(l.map (·.1)).Nodup→((l.filterMap (fun p=>(sK d s b x c seen p.1).map (fun r=>(p.1,r)))).map (·.1)).Nodup
 |[],_=>by simp
 |p::l,h=>by
  rw[List.map_cons,List.nodup_cons]at h
  rw[List.filterMap_cons]
  cases hs:sK d s b x c seen p.1 with
  |none=>simp only[Option.map_none];exact PG h.2
  |some r=>
   simp only[Option.map_some,List.map_cons,List.nodup_cons]
   refine⟨fun q=>?_,PG h.2⟩
   obtain⟨z,hz,Js⟩:=List.mem_map.1 q
   have:=(Lq l z hz).2
   rw[Js]at this
   exact h.1 this
theorem Xe {seen:List bh} {k:aB} (h:(lF seen k).isSome=false):∀e∈seen,e.key≠k:=by
 intro e he q
 unfold lF at h
 rw[Option.isSome_eq_false_iff,Option.isNone_iff_eq_none,List.find?_eq_none]at h
 exact h e he (by simpa using q)
theorem agB {seen:List bh} (h:mA seen):(seen.map (·.key)).Nodup:=by
 unfold mA at h
 rw[List.nodup_iff_pairwise_ne,List.pairwise_map]
 exact h.imp fun{a b} q e=>by rw[e,Bz]at q;cases q
theorem go_nodup {d:bD} {s:bX} {b:bg} {x:bf} {t c:Int} {seen:List bh} (uB:mA seen) {l:List (aB×cr)} (hl:(l.map (·.1)).Nodup):((seen.map (fun e=>(e.key,yH d s b x t c e))++l.filterMap (fun p=>(sK d s b x c seen p.1).map (fun r=>(p.1,r)))).map (·.1)).Nodup:=by
 rw[List.map_append,List.map_map,List.nodup_append]
 refine⟨agB uB,PG hl,fun a ha b' hb' q=>?_⟩
 subst q
 obtain⟨e,he,rfl⟩:=List.mem_map.1 ha
 obtain⟨z,hz,Js⟩:=List.mem_map.1 hb'
 exact Xe (Lq l z hz).1 e he (by rw[Js];rfl)
theorem Zz {d:bD} {s:bX} {σ:Heap} {pd:AV} {ids aS g ib to:Nat} {b:bg} {x:bf} {t:Int} (hd:rY pd d σ) (h1:σ[ids]? =some (.box (bk (.os aS g 10 0 s.az.length) s))) (h2:σ[aS]? =some (.arr g 10 (s.az.map aK))) (hb:s.az[ib]? =some b) (TO:b.bE[to]? =some x) (hs:s.az.length≤aW) (ho:∀b∈s.az,rO b t) (hp:eW zn d.setup.bH) (Nc:eW BW b.bE) (uB:mA (zV b x)) (A5:(zV b x).length≤aW) (hcan:∀b∈s.az,Dt b.runs):
  sH [pd,.op ids 0,.int .i64 (ib:Int),.int .i64 (to:Int),.int .i64 t] σ=some (.aG [],σ.set aS (.arr g 10 ((s.az.set ib (lC d s b x to t)).map aK))):=by
 refine alS (iM _) ?_
 have vI:b∈s.az:=List.mem_of_getElem? hb
 have hxm:x∈b.bE:=List.mem_of_getElem? TO
 have hox:=Nc.2 x hxm
 have hxi:aP x.number:=hox.1
 have aod:x.dm.length≤aW:=(VC hox).1
 have yW:Gm (.oe aS g ib 0) b σ:=bRd h2 hb
 have hlb:=(List.getElem?_eq_some_iff.1 hb).1
 have hlt:=(List.getElem?_eq_some_iff.1 h2).1
 have hls:=(List.getElem?_eq_some_iff.1 h1).1
 have Cv:=ho b vI
 have Ao:=Cv.pS
 have fR:b.bE.length≤aW:=Nc.1
 have hto:=(List.getElem?_eq_some_iff.1 TO).1
 have Eg:((b.runs.getD []).map (·.1)).Nodup:=by
  cases hr:b.runs with
  |none=>simp
  |some l=>exact(hcan b vI l hr).1
 have Ed:∀k,(dJ b k (dz b.clock t)).2=true→rJ (dJ b k (dz b.clock t)).1.jN:=fun k q=>zC Cv q
 have rd:∀o ex,A.deref (.oe aS g ib o) (σ++ex)=some ((aK b).drop o):=fun o ex=>by
  obtain⟨q,e1,e2⟩:=yW.f o
  have:q=.oe aS g ib o:=by simp [A.aA]at e1;exact e1.symm
  rw[←this];exact e2 ex
 have Nu:∀o,A.deref (.oe aS g ib o) σ=some ((aK b).drop o):=fun o=>by have:=rd o [];rwa[List.append_nil]at this
 unfold Og
 rw[show A.aL (.op ids 0)=some (.op ids 0)from rfl,bS,show A.aA 0 (.op ids 0)=some (.op ids 0)from rfl,bS,show((A.deref (.op ids 0) σ).bind fun c=>A.aj 0 c)=some (.os aS g 10 0 s.az.length)from by simp only[A.deref,h1];rfl,bS,show A.aT 10 (.os aS g 10 0 s.az.length) (.int .i64 (ib:Int))=some (.oe aS g ib 0)from by
  have:((ib:Int)<(s.az.length:Int)):=by omega
  simp [A.aT,A.idx,this],bS]
 simp only[show A.aL (.oe aS g ib 0)=some (.oe aS g ib 0)from rfl,bS,show ∀o,A.aA o (.oe aS g ib 0)=some (.oe aS g ib o)from fun o=>by simp [A.aA],Nu]
 rw[show A.aj 0 ((aK b).drop 5)=some (sl 11 aZ b.bE)from rfl,bS,iQ TO,bS,nU,bS,show A.ay 0 11 (aZ x)=some (.agg (aZ x))from rfl,bS,LY,bS,HM _ _ rfl,bS,show A.ay 0 3 ((aK b).drop 0)=some (.agg (uU b.clock))from rfl,bS,Mw,bS]
 simp only[Nu,bS]
 rw[show A.aj 0 ((aK b).drop 5)=some (sl 11 aZ b.bE)from rfl,bS,PZ,bS,quiet_of (ajp Nc hxi σ),bS,kP,bS,ext1,bS,show(zu b.bE x.number).1=zV b x from rfl,fL,bS]
 rw[show(σ++[aJ.map []])++[aJ.map []]=oF σ [] []from by rw[List.append_assoc];rfl,show(σ++[aJ.map []]).length=σ.length+1 from by simp]
 refine(congrArg (fun z=>Option.bind z _) (go_loop1 hd h1 h2 vI yW hs ho hp aod A5 uB)).trans ?_
 rw[bS]
 simp only[l9,rd,bS]
 rw[show A.aj 0 ((aK b).drop 9)=some (nq (fun x=>AV.agg (aN x)) (fun x=>AV.agg (fk x)) b.runs)from KE b (σ:=[]),bS,Wc,bS]
 obtain⟨seen,Rq⟩:∃seen,seen=zV b x:=⟨_,rfl⟩
 obtain⟨c,hc⟩:∃c,c=dz b.clock t:=⟨_,rfl⟩
 have Cy:De d s b x t=seen.map (fun e=>(e.key,yH d s b x t c e))++(b.runs.getD []).filterMap (fun p=>(sK d s b x c seen p.1).map (fun r=>(p.1,r))):=by rw[Rq,hc];rfl
 rw[←Rq]at uB A5
 rw[←hc]at Ao Ed
 rw[←Rq,←hc]
 obtain⟨es,xF⟩:∃es,es=b.runs.getD []:=⟨_,rfl⟩
 rw[←xF]at Eg Cy
 rw[←xF]
 obtain⟨m1,hm1⟩:∃m1,m1=seen.map (fun e=>(e.key,yH d s b x t c e)):=⟨_,rfl⟩
 obtain⟨m2,hm2⟩:∃m2,m2=seen.map (fun e=>(e.key,true)):=⟨_,rfl⟩
 rw[←hm1]at Cy
 rw[←hm1,←hm2]
 have hWl:(oF σ m1 m2).length=σ.length+2:=by simp
 rw[hWl,show oF σ m1 m2++[aJ.it [] (es.map dA)]=su σ m1 m2 [] (es.map dA)from by rw[List.append_assoc];rfl]
 obtain⟨st,hst⟩:∃st,st=fun p:aB×cr=>(sK d s b x c seen p.1).map (fun r=>(p.1,r)):=⟨_,rfl⟩
 rw[←hst]at Cy
 refine PE (α:=aB×cr) (enc:=dA) (it:=σ.length+2) (es:=es) _ _ (fun _ _ _=>rfl) (fun dn lf w W=>w=[.lbx (aZ x)]∧∃cu,W=su σ (m1++dn.filterMap st) m2 cu (lf.map dA)) ?_ ?_ ?_ ?_
 ·rintro dn lf w W ⟨rfl,cu,rfl⟩
  exact⟨cu,ZA _ _ _ _ _⟩
 ·rintro dn lf w W j p zQ ⟨rfl,cu,rfl⟩ hj
  rw[aj2]
  have hpk:∀q∈m1++dn.filterMap st,st p≠none→q.1≠p.1:=by
   intro q hq hsp e
   have hpn:(lF seen p.1).isSome=false:=by
    have:p.1∈[p].map (·.1):=by simp
    obtain⟨r,hr⟩:=Option.ne_none_iff_exists'.1 hsp
    rw[hst]at hr
    have:=(Lq (d:=d) (s:=s) (b:=b) (x:=x) (c:=c) (seen:=seen) [p] r (List.mem_filterMap.2 ⟨p,by simp,hr⟩)).1
    obtain⟨r',_,hr'⟩:=Option.map_eq_some_iff.1 hr
    rw[←hr']at this
    exact this
   rcases List.mem_append.1 hq with hq|hq
   ·rw[hm1]at hq
    obtain⟨e',he',rfl⟩:=List.mem_map.1 hq
    exact Xe hpn e' he' e
   ·rw[hst]at hq
    have hk:=(Lq dn q hq).2
    rw[e]at hk
    have hnd:((dn++lf).map (·.1)).Nodup:=(zQ.map (·.1)).nodup_iff.2 Eg
    rw[List.map_append,List.nodup_append]at hnd
    exact hnd.2.2 p.1 hk p.1 (List.mem_map.2 ⟨p,List.mem_of_getElem? hj,rfl⟩) rfl
  obtain⟨W,hW⟩:∃W,W=su σ (m1++dn.filterMap st) m2 [dA p] ((lf.eraseIdx j).map dA):=⟨_,rfl⟩
  rw[←hW]
  have Iz:A.uW (.op (σ.length+2) 0) W=some (.aG [.agg (aN p.1),.agg (fk p.2)]):=by
   rw[hW];simp only[A.uW,ZA];rfl
  refine⟨[.lbx (aZ x)],su σ (m1++(dn++[p]).filterMap st) m2 [dA p] ((lf.eraseIdx j).map dA),fun K=>?_,rfl,_,rfl⟩
  rw[Iz,bS,kP,bS,C9,bS,HN _ _ rfl,bS,rI,bS]
  have Sa:∀k,p5 [.oe aS g ib 0,.agg (aN k),.int .i64 c] W=some (.aG [.agg (fk (dJ b k c).1),.bool (dJ b k c).2],W):=fun k=>by rw[hW];exact Qc yW k c _
  rw[Sa,bS]
  simp only[kP,ext1,bS,yl,Bs _ _ (show mX.length=9 from rfl),wX]
  obtain⟨GF,pm,g1,g2⟩:=hd.f10
  have g3:((A.deref GF W).bind fun c=>A.aj 0 c)=some pm:=by rw[hW];exact(g2 _).1
  have g4:A.look (.s [0,2]) pm (.agg (aN p.1)) (.agg Dq) W=some (.agg (jJ d p.1)):=by rw[hW];exact(g2 _).2 p.1
  have g5:A.look (.s [0,2]) (.om (σ.length+1)) (.agg (aN p.1)) (.bool false) W=some (.bool (lF seen p.1).isSome):=by rw[hW,ali,hm2,ajl]
  have skip:st p=none→K (.normal,[.lbx (aZ x)],W)=K (.normal,[.lbx (aZ x)],su σ (m1++(dn++[p]).filterMap st) m2 [dA p] ((lf.eraseIdx j).map dA)):=by
   intro h
   rw[hW,List.filterMap_append,List.filterMap_cons,h,List.filterMap_nil,List.append_nil]
  by_cases lS:(dJ b p.1 c).2=true
  case neg=>
   have DK:(dJ b p.1 c).2=false:=by simpa using lS
   rw[DK]
   simp only[Bool.not_false,xC,gU,bS,lD,cT,List.getD_cons_zero]
   exact skip (by rw[hst];simp only[sK,DK,true_or,if_true,Option.map_none])
  rw[lS]
  simp only[Bool.not_true,gF,bS,mg,g5,rI]
  by_cases TN:(lF seen p.1).isSome=true
  ·rw[TN]
   simp only[xC,gU,bS,lD,cT,List.getD_cons_zero]
   exact skip (by rw[hst];simp only[sK,TN,true_or,or_true,if_true,Option.map_none])
  have aa8:(lF seen p.1).isSome=false:=by simpa using TN
  rw[aa8]
  simp only[gF,bS,mg,hd.nc,g1,g3,g4,rI,FI,zH,fW]
  by_cases AW:(eS d p.1).1=1
  case neg=>
   rw[decide_eq_true AW]
   simp only[cT,List.getD_cons_zero]
   exact skip (by rw[hst];simp only[sK,AW,not_false_eq_true,or_true,if_true,Option.map_none])
  rw[decide_eq_false (fun q=>q AW)]
  simp only[cF,KW,bS,wX]
  have hfo:=Ed p.1 lS
  have FW:¬((dJ b p.1 c).2=false∨(lF seen p.1).isSome=true∨¬(eS d p.1).1=1):=by
   rw[lS,aa8,AW];simp
  have last:∀r:cr,st p=some (p.1,r)→((A.eA (.s [0,2]) (.om σ.length) (.agg (aN p.1)) (.agg (fk r)) W).bind fun R7=>K (.normal,[.lbx (aZ x)],R7))=K (.normal,[.lbx (aZ x)],su σ (m1++(dn++[p]).filterMap st) m2 [dA p] ((lf.eraseIdx j).map dA)):=by
   intro r hr
   rw[hW,alj,bS,HZ (fun q hq=>hpk q hq (by rw[hr];simp)),List.filterMap_append,List.filterMap_cons,hr,List.filterMap_nil,List.append_assoc]
  cases Jd:(dJ b p.1 c).1.ending
  case true=>
   simp only[Bool.not_true,cF,bS,List.getD_cons_zero,List.getD_cons_succ,ia,rI,uQ]
   exact last _ (by rw[hst];simp only[sK,if_neg FW,Jd,if_true,Option.map_some])
  case false=>
   simp only[Bool.not_false,cT,bS,uQ,quiet_of (HI hfo Ao W),List.getD_cons_zero,List.getD_cons_succ,ia,P0,P3,OF]
   rw[aiL,bS,C6,bS,LO _ _ rfl,bS,Ft,bS,quiet_of (Rk _ W),bS]
   rw[show A.aA 1 (.op ids 0)=some (.op ids 1)from rfl,bS,show((A.deref (.op ids 1) W).bind fun Ip=>A.aj 0 Ip)=some (.int .i64 s.number)from by
    rw[hW];simp only[A.deref,List.getElem?_append_left hls,h1];rfl,bS,QJ,bS,yl,bS,Bs _ _ rfl,bS,bS]
   simp only[List.getD_cons_zero,List.getD_cons_succ,ia,bS,rI,uQ]
   exact last _ (by rw[hst];simp only[sK,if_neg FW,Jd,Option.map_some];rfl)
 ·rintro dn w W zQ ⟨rfl,cu,rfl⟩
  simp only[l9]
  obtain⟨m,hm⟩:∃m,m=m1++dn.filterMap st:=⟨_,rfl⟩
  rw[←hm]
  obtain⟨ex,hex⟩:∃ex:Heap,ex=[.map (m.map dA),.map (m2.map Cf),.it cu (([]:List (aB×cr)).map dA)]:=⟨_,rfl⟩
  rw[show su σ m m2 cu (([]:List (aB×cr)).map dA)=σ++ex from by rw[hex]]
  have hmp:m.Perm (De d s b x t):=by
   rw[Cy,hm]
   exact(zQ.filterMap st).append_left m1
  have hnd:(m.map (·.1)).Nodup:=by
   rw[hm,hm1,hst]
   exact go_nodup uB ((zQ.map (·.1)).nodup_iff.2 Eg)
  rw[show((((A.cell (AV.int .i64 c)).bind fun v=>some [v]).bind fun DE=>(A.splice 0 DE [ah,ah,aM]).bind fun DF=>((A.cell (AV.int .i64 t)).bind fun v=>some [v]).bind fun DG=>(A.splice 1 DG DF).bind fun Iq=>((A.cell aM).bind fun v=>some [v]).bind fun Ir=>(A.splice 2 Ir Iq).bind fun Is=>some Is).bind fun cs=>some (AV.agg cs))=some (.agg [.int .i64 c,.int .i64 t,.bool false])from rfl,bS]
  try simp only[show A.aL (.oe aS g ib 0)=some (.oe aS g ib 0)from rfl,bS,show ∀o,A.aA o (.oe aS g ib 0)=some (.oe aS g ib o)from fun o=>by simp [A.aA]]
  rw[show A.cells 3 (.agg [.int .i64 c,.int .i64 t,.bool false])=some [.int .i64 c,.int .i64 t,.bool false]from rfl,bS]
  have Nf:(σ++ex)[aS]? =some (.arr g 10 (s.az.map aK)):=by rw[List.getElem?_append_left hlt];exact h2
  have TJ:(s.az.map aK)[ib]? =some (aK b):=by rw[List.getElem?_map,hb];rfl
  have hlm:ib<(s.az.map aK).length:=by simpa using hlb
  have Nh:aS<(σ++ex).length:=by simp;omega
  have chain:∀(o:Nat) (row row' new:List AV),A.splice o new row=some row'→A.storeAt (.oe aS g ib o) new ((σ++ex).set aS (.arr g 10 ((s.az.map aK).set ib row)))=some ((σ++ex).set aS (.arr g 10 ((s.az.map aK).set ib row'))):=by
   intro o row row' new hsp
   rw[HO (W:=(σ++ex).set aS (.arr g 10 ((s.az.map aK).set ib row))) (rows:=(s.az.map aK).set ib row) (List.getElem?_set_self Nh) (List.getElem?_set_self hlm) hsp,List.set_set,List.set_set]
  obtain⟨rv,TK⟩:∃rv,rv=nq (fun x=>AV.agg (aN x)) (fun x=>AV.agg (fk x)) b.runs:=⟨_,rfl⟩
  rw[HO (row':=[.int .i64 c,.int .i64 t,.bool false,.int .i64 b.number,.int .i64 b.priority,sl 11 aZ b.bE,.int .i64 b.bT,.int .i64 b.jg,.int .i64 b.follow,rv]) Nf TJ (by rw[TK];rfl),bS]
  rw[oR,bS,chain 6 _ (yR c t b to b.follow rv) _ rfl,bS]
  rw[show((A.cell (AV.om σ.length)).bind fun v=>some [v])=some [.om σ.length]from rfl,bS,chain 9 _ (yR c t b to b.follow (.om σ.length)) _ rfl,bS]
  rw[oR,bS,chain 8 _ (yR c t b to (-1) (.om σ.length)) _ rfl,bS]
  simp only[List.getD_cons_zero,ia,bS,Xb,rQ]
  have fin:=fun(fo:Int) (hfo:(lC d s b x to t).follow=fo)=>Pp (σ:=σ) (ex:=ex) (b':=lC d s b x to t) (m:=m) (R:=De d s b x t) h2 hb hcan rfl hmp hnd (by rw[hex];rfl)
  have hrow:[AV.int .i64 (lC d s b x to t).clock.shown,.int .i64 (lC d s b x to t).clock.since,.bool (lC d s b x to t).clock.kU,.int .i64 (lC d s b x to t).number,.int .i64 (lC d s b x to t).priority,sl 11 aZ (lC d s b x to t).bE,.int .i64 (lC d s b x to t).bT,.int .i64 (lC d s b x to t).jg,.int .i64 (lC d s b x to t).follow,.om σ.length]=yR c t b to (lC d s b x to t).follow (.om σ.length):=by rw[hc];rfl
  have fin:=Pp (σ:=σ) (ex:=ex) (b':=lC d s b x to t) (m:=m) (R:=De d s b x t) h2 hb hcan rfl hmp hnd (by rw[hex];rfl)
  rw[hrow]at fin
  have Ck:(lC d s b x to t).follow=if 0≤x.follow∧(to:Int)+1<(b.bE.length:Int)then IntKind.i64.wrap (c+x.follow)else -1:=by rw[hc];rfl
  by_cases Gy:0≤x.follow
  ·rw[decide_eq_true Gy]
   simp only[gT,bS,show A.aL (.oe aS g ib 0)=some (.oe aS g ib 0)from rfl,show ∀o,A.aA o (.oe aS g ib 0)=some (.oe aS g ib o)from fun o=>by simp [A.aA]]
   rw[MJ (by unfold aW at fR;omega),bS]
   rw[show((A.deref (.oe aS g ib 5) ((σ++ex).set aS (.arr g 10 ((s.az.map aK).set ib (yR c t b to (-1) (.om σ.length)))))).bind fun RZ=>A.aj 0 RZ)=some (sl 11 aZ b.bE)from by
    simp only[A.deref,List.getElem?_set_self Nh,if_true,List.getElem?_set_self hlm,Option.map_some];rfl,bS,fL,bS,kN,bS,lD,bS]
   by_cases yX:(to:Int)+1<(b.bE.length:Int)
   ·rw[decide_eq_true (by omega),cW]
    rw[if_pos ⟨Gy,yX⟩]at Ck
    rw[Ck]at fin
    rw[kV,bS,oR,bS,chain 8 _ (yR c t b to (IntKind.i64.wrap (c+x.follow)) (.om σ.length)) _ rfl,bS,bS]
    exact fin
   ·rw[decide_eq_false (by omega),cD,bS]
    rw[if_neg (fun q=>yX q.2)]at Ck
    rw[Ck]at fin
    exact fin
  ·rw[decide_eq_false Gy]
   simp only[uw,gU,bS,mg,cF]
   rw[if_neg (fun q=>Gy q.1)]at Ck
   rw[Ck]at fin
   exact fin
 ·refine⟨rfl,[],?_⟩
  rw[List.filterMap_nil,List.append_nil]
end
section
set_option maxRecDepth 100000
open HP
noncomputable def yB (d:bD) (s:bX) (b:bg) (c lv:Int) (k:aB):Option cr:=
 if(dJ b k c).2=false∨¬(eS d k).1=1 then none
 else some ⟨sU ⟨uG (dJ b k c).1 c,0,c,0,lv,⟨1,[]⟩⟩,s.number,true⟩
noncomputable def HL (d:bD) (s:bX) (b:bg) (a:dR):List (aB×cr):=
 (b.runs.getD []).filterMap (fun p=>(yB d s b (dz b.clock a.time) a.level p.1).map (fun r=>(p.1,r)))
noncomputable def sZ (d:bD) (s:bX) (b:bg) (a:dR):bg:=
 {b with clock:=⟨dz b.clock a.time,a.time,false⟩,bT:=-1,follow:=-1,runs:=some (Cc (HL d s b a))}
abbrev vA (σ:Heap) (m:List (aB×cr)) (c l:List (AV×AV)):Heap:=σ++[.map (m.map dA),.it c l]
theorem Y5 (σ:Heap) (m:List (aB×cr)) (c l:List (AV×AV)):(vA σ m c l)[σ.length+1]? =some (.it c l):=by
 rw[List.getElem?_append_right (by omega),show σ.length+1-σ.length=1 by omega];rfl
theorem ai2 (σ:Heap) (m:List (aB×cr)) (c l c' l':List (AV×AV)):(vA σ m c l).set (σ.length+1) (.it c' l')=vA σ m c' l':=by
 rw[List.set_append_right _ _ (by omega),show σ.length+1-σ.length=1 by omega];rfl
theorem alG (σ:Heap) (m:List (aB×cr)) (c l:List (AV×AV)) (k:aB) (r:cr):A.eA (.s [0,2]) (.om σ.length) (.agg (aN k)) (.agg (fk r)) (vA σ m c l)=some (vA σ (dB k r m) c l):=by
 rw[zx _ rfl (show(vA σ m c l)[σ.length]? =some (.map (m.map dA)) by rw[List.getElem?_append_right (Nat.le_refl _),Nat.sub_self];rfl),show A.upd (.s [0,2]) (.agg (aN k)) (.agg (fk r)) (m.map dA)=some ((dB k r m).map dA)from Dp (eK:=fun k=>AV.agg (aN k)) (eV:=fun r=>AV.agg (fk r)) qo k r m,Option.map_some,List.set_append_right _ _ (Nat.le_refl _),Nat.sub_self]
 rfl
theorem Ya {d:bD} {s:bX} {b:bg} {c lv:Int}:∀(l:List (aB×cr)),∀p∈l.filterMap (fun p=>(yB d s b c lv p.1).map (fun r=>(p.1,r))),p.1∈l.map (·.1):=by
 intro l p hp
 obtain⟨q,hq,h⟩:=List.mem_filterMap.1 hp
 obtain⟨r,hr,rfl⟩:=Option.map_eq_some_iff.1 h
 exact List.mem_map.2 ⟨q,hq,rfl⟩
theorem Ln {d:bD} {s:bX} {b:bg} {c lv:Int}:∀{l:List (aB×cr)},(l.map (·.1)).Nodup→((l.filterMap (fun p=>(yB d s b c lv p.1).map (fun r=>(p.1,r)))).map (·.1)).Nodup
 |[],_=>by simp
 |p::l,h=>by
  rw[List.map_cons,List.nodup_cons]at h
  rw[List.filterMap_cons]
  cases hs:yB d s b c lv p.1 with
  |none=>simp only[Option.map_none];exact Ln h.2
  |some r=>
   simp only[Option.map_some,List.map_cons,List.nodup_cons]
   refine⟨fun q=>?_,Ln h.2⟩
   obtain⟨z,hz,Js⟩:=List.mem_map.1 q
   have:=Ya l z hz
   rw[Js]at this
   exact h.1 this
theorem aiK (dw c lv:Int):((((A.cell (.int .i64 dw)).bind fun v=>some [v]).bind fun nO=>(A.splice 0 nO [ah,ah,ah,ah,ah,ah,AV.au]).bind fun xu=>((A.cell (.int .i64 c)).bind fun v=>some [v]).bind fun IS=>(A.splice 2 IS xu).bind fun nP=>((A.cell (.int .i64 lv)).bind fun v=>some [v]).bind fun vE=>(A.splice 4 vE nP).bind fun iB=>(A.cells 2 (.agg [.int .i64 1,.au])).bind fun pN=>(A.splice 5 pN iB).bind fun iX=>some iX).bind fun cs=>some (AV.agg cs))=some (.agg [.int .i64 dw,.int .i64 0,.int .i64 c,.int .i64 0,.int .i64 lv,.int .i64 1,.au]):=rfl
theorem ajH (dw c lv:Int) (σ:Heap):uN [.agg [.int .i64 dw,.int .i64 0,.int .i64 c,.int .i64 0,.int .i64 lv,.int .i64 1,.au]] σ=some (.agg (fF (sU ⟨dw,0,c,0,lv,⟨1,[]⟩⟩)),σ):=by
 have h:=Rk ⟨dw,0,c,0,lv,⟨1,[]⟩⟩ σ
 rw[←h]
 exact QX rfl rfl rfl
theorem ahJ {d:bD} {s:bX} {σ:Heap} {pd:AV} {ids aS g ib:Nat} {b:bg} {a:dR} (hd:rY pd d σ) (h1:σ[ids]? =some (.box (bk (.os aS g 10 0 s.az.length) s))) (h2:σ[aS]? =some (.arr g 10 (s.az.map aK))) (hb:s.az[ib]? =some b) (Cv:rO b a.time) (hcan:∀b∈s.az,Dt b.runs):
  GQ [pd,.op ids 0,.oe aS g ib 0,.agg (bn a)] σ=some (.aG [],σ.set aS (.arr g 10 ((s.az.set ib (sZ d s b a)).map aK))):=by
 have alR:∀{r:AV→AV→AV→AV→Heap→Option (AV×Heap)} {x y z u:AV} {σ σ':Heap},r x y z u σ=some (.aG [],σ')→A.wrap false [] .k (A.vC r) [x,y,z,u] σ=some (.aG [],σ'):=by
  intro r x y z u σ σ' e
  have:A.vC r [x,y,z,u] σ=some (.aG [],σ'):=e
  simp only[A.wrap,Bool.false_and,cond_false,A.bV,this,Option.map_some,iM]
 refine alR ?_
 have vI:b∈s.az:=List.mem_of_getElem? hb
 have yW:Gm (.oe aS g ib 0) b σ:=bRd h2 hb
 have hlb:=(List.getElem?_eq_some_iff.1 hb).1
 have hlt:=(List.getElem?_eq_some_iff.1 h2).1
 have hls:=(List.getElem?_eq_some_iff.1 h1).1
 have Ao:=Cv.pS
 have Eg:((b.runs.getD []).map (·.1)).Nodup:=by
  cases hr:b.runs with
  |none=>simp
  |some l=>exact(hcan b vI l hr).1
 have Ed:∀k,(dJ b k (dz b.clock a.time)).2=true→rJ (dJ b k (dz b.clock a.time)).1.jN:=fun k q=>zC Cv q
 have rd:∀o ex,A.deref (.oe aS g ib o) (σ++ex)=some ((aK b).drop o):=fun o ex=>by
  obtain⟨q,e1,e2⟩:=yW.f o
  have:q=.oe aS g ib o:=by simp [A.aA]at e1;exact e1.symm
  rw[←this];exact e2 ex
 have Nu:∀o,A.deref (.oe aS g ib o) σ=some ((aK b).drop o):=fun o=>by have:=rd o [];rwa[List.append_nil]at this
 unfold NY
 rw[show A.cells 5 (.agg (bn a))=some (bn a)from rfl,bS]
 simp only[show A.aL (.oe aS g ib 0)=some (.oe aS g ib 0)from rfl,bS,show ∀o,A.aA o (.oe aS g ib 0)=some (.oe aS g ib o)from fun o=>by simp [A.aA],Nu,rd]
 rw[show A.ay 0 3 ((aK b).drop 0)=some (.agg (uU b.clock))from rfl,bS,show A.aj 0 (bn a)=some (.int .i64 a.time)from rfl,bS,quiet_of (Mw _ _ σ),bS]
 rw[show A.aj 0 ((aK b).drop 9)=some (nq (fun x=>AV.agg (aN x)) (fun x=>AV.agg (fk x)) b.runs)from KE b (σ:=[]),bS,Wc,bS]
 obtain⟨c,hc⟩:∃c,c=dz b.clock a.time:=⟨_,rfl⟩
 have Cy:HL d s b a=(b.runs.getD []).filterMap (fun p=>(yB d s b c a.level p.1).map (fun r=>(p.1,r))):=by rw[hc];rfl
 rw[←hc]at Ao Ed
 rw[←hc]
 obtain⟨es,xF⟩:∃es,es=b.runs.getD []:=⟨_,rfl⟩
 rw[←xF]at Eg Cy
 rw[←xF]
 rw[show(σ++[aJ.map []]).length=σ.length+1 from by simp,show(σ++[aJ.map []])++[aJ.it [] (es.map dA)]=vA σ [] [] (es.map dA)from by rw[List.append_assoc];rfl]
 obtain⟨st,hst⟩:∃st,st=fun p:aB×cr=>(yB d s b c a.level p.1).map (fun r=>(p.1,r)):=⟨_,rfl⟩
 rw[←hst]at Cy
 refine PE (α:=aB×cr) (enc:=dA) (it:=σ.length+1) (es:=es) _ _ (fun _ _ _=>rfl) (fun dn lf w W=>w=[.lbx (bn a)]∧∃cu,W=vA σ (dn.filterMap st) cu (lf.map dA)) ?_ ?_ ?_ ?_
 ·rintro dn lf w W ⟨rfl,cu,rfl⟩
  exact⟨cu,Y5 _ _ _ _⟩
 ·rintro dn lf w W j p zQ ⟨rfl,cu,rfl⟩ hj
  rw[ai2]
  have hpk:∀q∈dn.filterMap st,q.1≠p.1:=by
   intro q hq e
   rw[hst]at hq
   have hk:=Ya dn q hq
   rw[e]at hk
   have hnd:((dn++lf).map (·.1)).Nodup:=(zQ.map (·.1)).nodup_iff.2 Eg
   rw[List.map_append,List.nodup_append]at hnd
   exact hnd.2.2 p.1 hk p.1 (List.mem_map.2 ⟨p,List.mem_of_getElem? hj,rfl⟩) rfl
  obtain⟨W,hW⟩:∃W,W=vA σ (dn.filterMap st) [dA p] ((lf.eraseIdx j).map dA):=⟨_,rfl⟩
  rw[←hW]
  have Iz:A.uW (.op (σ.length+1) 0) W=some (.aG [.agg (aN p.1),.agg (fk p.2)]):=by
   rw[hW];simp only[A.uW,Y5];rfl
  refine⟨[.lbx (bn a)],vA σ ((dn++[p]).filterMap st) [dA p] ((lf.eraseIdx j).map dA),fun K=>?_,rfl,_,rfl⟩
  rw[Iz,bS,kP,bS,C9,bS,HN _ _ rfl,bS,rI,bS]
  have Sa:∀k,p5 [.oe aS g ib 0,.agg (aN k),.int .i64 c] W=some (.aG [.agg (fk (dJ b k c).1),.bool (dJ b k c).2],W):=fun k=>by rw[hW];exact Qc yW k c _
  rw[Sa,bS]
  simp only[kP,ext1,bS,yl,Bs _ _ (show mX.length=9 from rfl),wX]
  obtain⟨GF,pm,g1,g2⟩:=hd.f10
  have g3:((A.deref GF W).bind fun c=>A.aj 0 c)=some pm:=by rw[hW];exact(g2 _).1
  have g4:A.look (.s [0,2]) pm (.agg (aN p.1)) (.agg Dq) W=some (.agg (jJ d p.1)):=by rw[hW];exact(g2 _).2 p.1
  have skip:st p=none→K (.normal,[.lbx (bn a)],W)=K (.normal,[.lbx (bn a)],vA σ ((dn++[p]).filterMap st) [dA p] ((lf.eraseIdx j).map dA)):=by
   intro h
   rw[hW,List.filterMap_append,List.filterMap_cons,h,List.filterMap_nil,List.append_nil]
  by_cases lS:(dJ b p.1 c).2=true
  case neg=>
   have DK:(dJ b p.1 c).2=false:=by simpa using lS
   rw[DK]
   simp only[Bool.not_false,xC,gU,bS,lD,cT,List.getD_cons_zero]
   exact skip (by rw[hst];simp only[yB,DK,true_or,if_true,Option.map_none])
  rw[lS]
  simp only[Bool.not_true,gF,bS,mg,hd.nc,g1,g3,g4,rI,FI,zH,fW]
  by_cases AW:(eS d p.1).1=1
  case neg=>
   rw[decide_eq_true AW]
   simp only[cT,List.getD_cons_zero]
   exact skip (by rw[hst];simp only[yB,AW,not_false_eq_true,or_true,if_true,Option.map_none])
  rw[decide_eq_false (fun q=>q AW)]
  simp only[cF,bS,uQ,quiet_of (HI (Ed p.1 lS) Ao W),List.getD_cons_zero,ia,show A.aj 4 (bn a)=some (.int .i64 a.level)from rfl]
  have FW:¬((dJ b p.1 c).2=false∨¬(eS d p.1).1=1):=by
   rw[lS,AW];simp
  rw[show((((A.cell aH).bind fun v=>some [v]).bind fun iW=>(A.splice 0 iW [ah,AV.au]).bind fun pM=>some pM).bind fun cs=>some (AV.agg cs))=some (.agg [.int .i64 1,.au])from rfl,bS,aiK,bS,quiet_of (ajH _ _ _ W),bS]
  rw[show A.aL (.op ids 0)=some (.op ids 0)from rfl,bS,show A.aA 1 (.op ids 0)=some (.op ids 1)from rfl,bS,show((A.deref (.op ids 1) W).bind fun Ip=>A.aj 0 Ip)=some (.int .i64 s.number)from by
    rw[hW];simp only[A.deref,List.getElem?_append_left hls,h1];rfl,bS,QJ,bS]
  have hr:st p=some (p.1,⟨sU ⟨uG (dJ b p.1 c).1 c,0,c,0,a.level,⟨1,[]⟩⟩,s.number,true⟩):=by rw[hst];simp only[yB,if_neg FW,Option.map_some]
  rw[hW,alG,bS,HZ hpk,List.filterMap_append,List.filterMap_cons,hr,List.filterMap_nil]
 ·rintro dn w W zQ ⟨rfl,cu,rfl⟩
  simp only[l9]
  obtain⟨m,hm⟩:∃m,m=dn.filterMap st:=⟨_,rfl⟩
  rw[←hm]
  obtain⟨ex,hex⟩:∃ex:Heap,ex=[.map (m.map dA),.it cu (([]:List (aB×cr)).map dA)]:=⟨_,rfl⟩
  rw[show vA σ m cu (([]:List (aB×cr)).map dA)=σ++ex from by rw[hex]]
  have hmp:m.Perm (HL d s b a):=by
   rw[Cy,hm]
   exact zQ.filterMap st
  have hnd:(m.map (·.1)).Nodup:=by
   rw[hm,hst]
   exact Ln ((zQ.map (·.1)).nodup_iff.2 Eg)
  simp only[List.getD_cons_zero,ia,bS,show A.aj 0 (bn a)=some (.int .i64 a.time)from rfl]
  rw[show((((A.cell (AV.int .i64 c)).bind fun v=>some [v]).bind fun DE=>(A.splice 0 DE [ah,ah,aM]).bind fun DF=>((A.cell (AV.int .i64 a.time)).bind fun v=>some [v]).bind fun DG=>(A.splice 1 DG DF).bind fun Iq=>((A.cell aM).bind fun v=>some [v]).bind fun Ir=>(A.splice 2 Ir Iq).bind fun Is=>some Is).bind fun cs=>some (AV.agg cs))=some (.agg [.int .i64 c,.int .i64 a.time,.bool false])from rfl,bS]
  rw[show A.cells 3 (.agg [.int .i64 c,.int .i64 a.time,.bool false])=some [.int .i64 c,.int .i64 a.time,.bool false]from rfl,bS]
  have Nf:(σ++ex)[aS]? =some (.arr g 10 (s.az.map aK)):=by rw[List.getElem?_append_left hlt];exact h2
  have TJ:(s.az.map aK)[ib]? =some (aK b):=by rw[List.getElem?_map,hb];rfl
  have hlm:ib<(s.az.map aK).length:=by simpa using hlb
  have Nh:aS<(σ++ex).length:=by simp;omega
  have chain:∀(o:Nat) (row row' new:List AV),A.splice o new row=some row'→A.storeAt (.oe aS g ib o) new ((σ++ex).set aS (.arr g 10 ((s.az.map aK).set ib row)))=some ((σ++ex).set aS (.arr g 10 ((s.az.map aK).set ib row'))):=by
   intro o row row' new hsp
   rw[HO (W:=(σ++ex).set aS (.arr g 10 ((s.az.map aK).set ib row))) (rows:=(s.az.map aK).set ib row) (List.getElem?_set_self Nh) (List.getElem?_set_self hlm) hsp,List.set_set,List.set_set]
  obtain⟨rv,TK⟩:∃rv,rv=nq (fun x=>AV.agg (aN x)) (fun x=>AV.agg (fk x)) b.runs:=⟨_,rfl⟩
  rw[HO (row':=[.int .i64 c,.int .i64 a.time,.bool false,.int .i64 b.number,.int .i64 b.priority,sl 11 aZ b.bE,.int .i64 b.bT,.int .i64 b.jg,.int .i64 b.follow,rv]) Nf TJ (by rw[TK];rfl),bS]
  rw[oR,bS,chain 6 _ (yR c a.time b (-1) b.follow rv) _ rfl,bS]
  rw[bS,chain 8 _ (yR c a.time b (-1) (-1) rv) _ rfl,bS]
  rw[show((A.cell (AV.om σ.length)).bind fun v=>some [v])=some [.om σ.length]from rfl,bS,chain 9 _ (yR c a.time b (-1) (-1) (.om σ.length)) _ rfl,bS]
  have hrow:[AV.int .i64 (sZ d s b a).clock.shown,.int .i64 (sZ d s b a).clock.since,.bool (sZ d s b a).clock.kU,.int .i64 (sZ d s b a).number,.int .i64 (sZ d s b a).priority,sl 11 aZ (sZ d s b a).bE,.int .i64 (sZ d s b a).bT,.int .i64 (sZ d s b a).jg,.int .i64 (sZ d s b a).follow,.om σ.length]=yR c a.time b (-1) (-1) (.om σ.length):=by rw[hc];rfl
  have fin:=Pp (σ:=σ) (ex:=ex) (b':=sZ d s b a) (m:=m) (R:=HL d s b a) h2 hb hcan rfl hmp hnd (by rw[hex];rfl)
  rw[hrow]at fin
  exact fin
 ·refine⟨rfl,[],?_⟩
  rw[List.filterMap_nil]
end
section
set_option maxRecDepth 100000
open HP
structure Z6 (x : bf) : Prop where
 d:0≤x.delay∧x.delay≤36000000
 u:0≤x.up∧x.up≤36000000
 n:0≤x.down∧x.down≤36000000
 o:0≤x.other∧x.other≤36000000
 f:-1≤x.follow∧x.follow≤36000000
 c:oN x.fq=0
 m:∀m∈x.dm,(0≤m.delay∧m.delay≤36000000)∧(0≤m.time∧m.time≤36000000)
theorem qD {n lo hi:Int} (h:aR n lo hi=true):lo≤n∧n≤hi:=by
 unfold aR at h;simpa using h
theorem aix {l:List bf} (h:rP l=0) {x:bf} (hx:x∈l):Z6 x:=by
 unfold rP at h
 split at h
 ·cases h
 by_cases h2:iE (wP l) l 0=0
 case neg=>rw[if_pos h2]at h;exact absurd h h2
 obtain⟨i,hi,e⟩:=List.getElem_of_mem hx
 have hc:=(zk l 0).1 h2 i x (by rw[←e];exact List.getElem?_eq_getElem hi)
 unfold wP at hc
 split at hc
 ·cases hc
 split at hc
 ·cases hc
 split at hc
 ·cases hc
 split at hc
 ·cases hc
 rename_i h4
 split at hc
 ·rename_i h5;exact absurd hc h5
 rename_i h5
 split at hc
 ·cases hc
 simp only[Bool.or_eq_true,Bool.not_eq_true',not_or,Bool.not_eq_false]at h4
 obtain⟨⟨⟨⟨a1,a2⟩,a3⟩,a4⟩,a5⟩:=h4
 refine⟨qD a1,qD a2,qD a3,qD a4,qD a5,Decidable.not_not.1 h5,fun m hm=>?_⟩
 obtain⟨j,hj,e⟩:=List.getElem_of_mem hm
 unfold Di at hc
 have nr:=(zk x.dm 0).1 hc j m (by rw[←e];exact List.getElem?_eq_getElem hj)
 unfold Ia at nr
 split at nr
 ·cases nr
 split at nr
 ·cases nr
 split at nr
 ·cases nr
 split at nr
 ·cases nr
 split at nr
 ·cases nr
 split at nr
 ·cases nr
 rename_i h6
 simp only[Bool.or_eq_true,Bool.not_eq_true',not_or,Bool.not_eq_false]at h6
 exact⟨qD h6.1,qD h6.2⟩
theorem Qm (b:bg) (x:bf):mA (zV b x)∧(zV b x).length≤600000000:=by
 unfold zV zu
 split
 ·exact⟨List.Pairwise.nil,by simp⟩
 rename_i hz
 split
 ·exact⟨List.Pairwise.nil,by simp⟩
 have hg:=QF (Decidable.not_not.1 hz)
 have hlen:=hg.len
 exact adU (l:=b.bE.take (lH b.bE x.number+1)) (by simp;omega) (fun c hc=>(hg.mv c (List.mem_of_mem_take hc)).1)
structure vk (N : Int) (b : bg) : Prop where
 qV:eW BW b.bE
 dw:rP b.bE=0
 can:Dt b.runs
 runs:∀k r,(k,r)∈b.runs.getD []→rJ r.jN
 jg:0≤b.jg∧b.jg≤65535
 pS:0≤b.clock.shown∧b.clock.shown≤b.clock.since∧b.clock.since≤N
 bT:-1≤b.bT∧b.bT<(b.bE.length:Int)
 Cs:b.follow<0∨(b.bT+1<(b.bE.length:Int)∧dz b.clock N≤b.follow∧b.follow≤72000000)
structure jk (N : Int) (s : bX) : Prop where
 n:0≤N∧N≤36000000
 len:s.az.length≤40
 bs:∀b∈s.az,vk N b
 mu:0≤s.mu∧s.mu≤65535
structure sQ (d : bD) : Prop where
 pre:eW zn d.setup.bH
 lev:∀k v,0≤(wo d.setup.bH k v).1∧(wo d.setup.bH k v).1≤65535
 par:∀k,0≤(eS d k).2.1∧(eS d k).2.1≤65535
theorem Dd {N t:Int} {b:bg} (h:0≤b.clock.shown∧b.clock.shown≤b.clock.since∧b.clock.since≤N) (h1:N≤t) (h2:t≤36000000):dz b.clock t=(if b.clock.kU=true then b.clock.shown else b.clock.shown+t-b.clock.since)∧0≤dz b.clock t∧dz b.clock t≤t:=by
 obtain⟨a1,a2,a3⟩:=h
 unfold dz
 split
 ·exact⟨rfl,a1,by omega⟩
 ·rw[show IntKind.i64.wrap (b.clock.shown+t)=b.clock.shown+t from wrap64 (by unfold aP;omega),wrap64 (by unfold aP;omega)]
  exact⟨rfl,by omega,by omega⟩
theorem vk.ok {N t:Int} {b:bg} (h:vk N b) (h1:N≤t) (h2:t≤36000000):rO b t:=
 ⟨fun k r hr=>h.runs k r (Ig hr),h.jg,(Dd h.pS h1 h2).2.1⟩
theorem Q3 {N:Int} {b:bg} (h:vk N b) (hN:N≤36000000):iA b=if b.follow<0∨b.clock.kU=true then -1 else b.clock.since+b.follow-b.clock.shown:=by
 obtain⟨a1,a2,a3⟩:=h.pS
 unfold iA
 split
 ·rfl
 ·rename_i q
  rcases h.Cs with h3|⟨h3,h4,h5⟩
  ·exact absurd (.inl h3) q
  ·have:=(Dd h.pS (Int.le_refl N) hN).2
   rw[show IntKind.i64.wrap (b.clock.since+b.follow)=b.clock.since+b.follow from wrap64 (by unfold aP;omega),wrap64 (by unfold aP;omega)]
theorem vk.mono {N N':Int} {b:bg} (h:vk N b) (h1:N≤N') (h2:N'≤36000000) (hd:iA b<0∨N'≤iA b):vk N' b:=by
 obtain⟨a1,a2,a3⟩:=h.pS
 refine⟨h.qV,h.dw,h.can,h.runs,h.jg,⟨a1,a2,by omega⟩,h.bT,?_⟩
 rcases h.Cs with h3|⟨h3,h4,h5⟩
 ·exact .inl h3
 ·by_cases hf:b.follow<0
  ·exact .inl hf
  refine .inr ⟨h3,?_,h5⟩
  have e1:=(Dd h.pS (Int.le_refl N) (by omega)).1
  have e2:=(Dd (t:=N') h.pS h1 h2).1
  have e3:=Q3 h (by omega)
  rw[e2]
  rw[e1]at h4
  by_cases hs:b.clock.kU=true
  ·rw[if_pos hs]at h4 ⊢;exact h4
  ·rw[if_neg hs]at h4 ⊢
   rw[if_neg (fun q=>q.elim hf hs)]at e3
   omega
theorem L2 {f:gE} (ha:0≤f.dw∧f.dw≤65535) (hb:0≤f.to∧f.to≤65535) (hs:0≤f.start∧f.start≤36000000) (hd:0≤f.delay∧f.delay≤36000000) (ht:0≤f.time∧f.time≤36000000) (hc:oN f.fq=0):rJ (sU f):=by
 have e1:mn f.start 36000000=f.start:=by unfold mn;rw[if_neg (by omega)]
 have e2:IntKind.i64.wrap (36000000-f.start)=36000000-f.start:=wrap64 (by unfold aP;omega)
 have e3:0≤mn f.delay (36000000-f.start)∧mn f.delay (36000000-f.start)≤36000000-f.start:=by unfold mn;split<;>omega
 have e4:IntKind.i64.wrap (36000000-f.start-mn f.delay (36000000-f.start))=36000000-f.start-mn f.delay (36000000-f.start):=wrap64 (by unfold aP;omega)
 have e5:0≤mn f.time (36000000-f.start-mn f.delay (36000000-f.start))∧mn f.time (36000000-f.start-mn f.delay (36000000-f.start))≤36000000-f.start-mn f.delay (36000000-f.start):=by unfold mn;split<;>omega
 unfold sU
 rw[e1,e2,e4]
 exact⟨ha,hb,hs,⟨e3.1,by show mn f.delay _≤_;omega⟩,⟨e5.1,by show mn f.time _≤_;omega⟩,by show f.start+mn f.delay _+mn f.time _≤_;omega,hc⟩
theorem air {d:bD} {x:bf} (hx:Z6 x) (k:aB) {dw to c:Int} (ha:0≤dw∧dw≤65535) (hb:0≤to∧to≤65535) (hc:0≤c∧c≤36000000):rJ (BQ d x k dw to c):=by
 unfold BQ
 have h0:0≤(HR (eS d k).1 x dw to c).time∧(HR (eS d k).1 x dw to c).time≤36000000:=by
  unfold HR
  simp only
  split
  ·split
   ·exact hx.n
   ·exact hx.u
  ·exact hx.o
 have h1:∃dl tm,Mm x k (HR (eS d k).1 x dw to c)=⟨dw,to,c,dl,tm,x.fq⟩∧(0≤dl∧dl≤36000000)∧0≤tm∧tm≤36000000:=by
  unfold Mm
  split
  ·exact⟨_,_,rfl,hx.d,h0⟩
  ·rename_i m hm
   split
   ·have:=hx.m m (List.mem_of_find?_eq_some hm)
    exact⟨_,_,rfl,this.1,this.2⟩
   ·exact⟨_,_,rfl,hx.d,h0⟩
 obtain⟨dl,tm,e,hd,ht⟩:=h1
 rw[e]
 unfold FL
 split
 ·exact L2 ha hb hc hd (by simp) hx.c
 ·exact L2 ha hb hc hd ht hx.c
theorem akh {g:Int} {b:bg} {r:cr} (hr:rJ r.jN) (hf:0≤b.jg∧b.jg≤65535) (c:Int):0≤Gd g b r c∧Gd g b r c≤65535:=by
 unfold Gd
 split
 ·exact alK (FO hr c) hf
 ·exact FO hr c
theorem ZI {d:bD} (hd:sQ d) {k:aB} {t:Int}:∀{bs:List bg},(∀b∈bs,rO b t)→0≤(sw d bs k t).out∧(sw d bs k t).out≤65535:=by
 intro bs hb
 unfold sw
 have key:∀(l:List bg) (m:DX),(∀b∈l,rO b t)→(0≤m.out∧m.out≤65535)→0≤(l.foldl (qu (eS d k).1 k t) m).out∧(l.foldl (qu (eS d k).1 k t) m).out≤65535:=by
  intro l
  induction l with
  |nil=>intro m _ h;exact h
  |cons b l ih=>
   intro m hl h
   rw[List.foldl_cons]
   refine ih _ (fun b hb=>hl b (by simp [hb])) ?_
   have Gx:=hl b (by simp)
   unfold qu
   split
   ·exact h
   ·rename_i hq
    split
    ·have lS:(dJ b k (dz b.clock t)).2=true:=by
      cases h:(dJ b k (dz b.clock t)).2
      ·exact absurd (.inl h) hq
      ·rfl
     exact akh (zC Gx lS) Gx.jg _
    ·exact h
 exact key bs _ hb (hd.par k)
theorem XB {l:List (aB×cr)} (h:(l.map (·.1)).Nodup):Dt (some (Cc l)):=by
 intro l' e
 injection e with e
 subst e
 exact⟨((PM l).map (·.1)).nodup_iff.2 h,ah9 l⟩
theorem VN {N:Int} {b:bg} (h:vk N b):((b.runs.getD []).map (·.1)).Nodup:=by
 cases hr:b.runs with
 |none=>simp
 |some l=>exact(h.can l hr).1
theorem YG {d:bD} (hd:sQ d) {s:bX} {N t:Int} (hs:jk N s) (h1:N≤t) (h2:t≤36000000) {b:bg} (hb:b∈s.az) {to:Nat} {x:bf} (hx:b.bE[to]? =some x):vk t (lC d s b x (to:Int) t):=by
 have hB:=hs.bs b hb
 have hN:=hs.n
 have hto:=(List.getElem?_eq_some_iff.1 hx).1
 have Jq:=aix hB.dw (List.mem_of_getElem? hx)
 obtain⟨c0,c1,c2⟩:=Dd hB.pS h1 h2
 have Jj:∀b∈s.az,rO b t:=fun b hb=>(hs.bs b hb).ok h1 h2
 have Gx:=Jj b hb
 refine⟨hB.qV,hB.dw,XB (go_nodup (Qm b x).1 (VN hB)),fun k r hkr=>?_,hB.jg,⟨c1,c2,Int.le_refl _⟩,⟨by show -1≤(to:Int);omega,by show(to:Int)<_;exact_mod_cast hto⟩,?_⟩
 ·have hm:(k,r)∈De d s b x t:=(PM _).mem_iff.1 hkr
  unfold De at hm
  rcases List.mem_append.1 hm with hm|hm
  ·obtain⟨e,he,q⟩:=List.mem_map.1 hm
   injection q with q1 q2
   subst q2
   unfold yH
   split
   ·rename_i hq;exact zC Gx hq.1
   ·refine air Jq _ ?_ (hd.lev _ _) ⟨c1,by omega⟩
    unfold F3
    split
    ·rename_i hq;exact FO (zC Gx hq) _
    ·split
     ·exact ZI hd Jj
     ·simp
  ·obtain⟨p,hp,q⟩:=List.mem_filterMap.1 hm
   obtain⟨r',hr',q⟩:=Option.map_eq_some_iff.1 q
   injection q with q1 q2
   subst q2
   unfold sK at hr'
   split at hr'
   ·cases hr'
   ·rename_i hq
    injection hr' with hr'
    subst hr'
    have lS:(dJ b p.1 (dz b.clock t)).2=true:=by
     cases h:(dJ b p.1 (dz b.clock t)).2
     ·exact absurd (.inl h) hq
     ·rfl
    have hfo:=zC Gx lS
    split
    ·exact hfo
    ·exact L2 (FO hfo _) (by simp) ⟨c1,by show dz b.clock t≤_;omega⟩ Jq.d Jq.n Jq.c
 ·show(lC d s b x (to:Int) t).follow<0∨_
  by_cases hf:0≤x.follow∧(to:Int)+1<(b.bE.length:Int)
  ·have hxf:=Jq.f
   have e:(lC d s b x (to:Int) t).follow=dz b.clock t+x.follow:=by
    show(if 0≤x.follow∧(to:Int)+1<(b.bE.length:Int)then IntKind.i64.wrap (dz b.clock t+x.follow)else -1)=_
    rw[if_pos hf,wrap64 (by unfold aP;omega)]
   refine .inr ⟨hf.2,?_,by rw[e];omega⟩
   rw[e]
   have:dz (lC d s b x (to:Int) t).clock t=dz b.clock t:=by
    show dz ⟨dz b.clock t,t,false⟩ t=_
    generalize dz b.clock t=c at c1 c2
    show IntKind.i64.wrap (IntKind.i64.wrap (c+t) -t)=_
    rw[show IntKind.i64.wrap (c+t)=c+t from wrap64 (by unfold aP;omega),wrap64 (by unfold aP;omega)];omega
   rw[this];omega
  ·refine .inl ?_
   show(if 0≤x.follow∧(to:Int)+1<(b.bE.length:Int)then IntKind.i64.wrap (dz b.clock t+x.follow)else -1)<0
   rw[if_neg hf];decide
def Da (t:Int) (i:Nat) (b:bg) (st:Int×Int):Int×Int:=if 0≤iA b∧iA b≤t∧(st.1<0∨iA b<st.2)then((i:Int),iA b)else st
def rT (t:Int):List bg→Nat→Int×Int→Int×Int
 |[],_,st=>st
 |b::r,i,st=>rT t r (i+1) (Da t i b st)
def H6 (t:Int) (pre:List bg) (st:Int×Int):Prop:=(st.1<0∧∀b∈pre,¬(0≤iA b∧iA b≤t))∨∃(j:Nat) (b:bg),pre[j]? =some b∧st=((j:Int),iA b)∧0≤iA b∧iA b≤t∧∀b'∈pre,0≤iA b'→iA b'≤t→iA b≤iA b'
theorem afP {t:Int} {pre:List bg} {b:bg} {st:Int×Int} (h:H6 t pre st):H6 t (pre++[b]) (Da t pre.length b st):=by
 unfold Da
 by_cases hc:0≤iA b∧iA b≤t∧(st.1<0∨iA b<st.2)
 ·rw[if_pos hc]
  refine .inr ⟨pre.length,b,by simp,rfl,hc.1,hc.2.1,fun b' hb' q1 q2=>?_⟩
  rcases List.mem_append.1 hb' with hb'|hb'
  ·rcases h with⟨_,k⟩|⟨j,b0,k1,k2,k3,k4,k5⟩
   ·exact absurd ⟨q1,q2⟩ (k b' hb')
   ·rcases hc.2.2 with q|q
    ·rw[k2]at q;simp only at q;omega
    ·rw[k2]at q;simp only at q;have:=k5 b' hb' q1 q2;omega
  ·simp only[List.mem_singleton]at hb';subst hb';exact Int.le_refl _
 ·rw[if_neg hc]
  rcases h with⟨k0,k⟩|⟨j,b0,k1,k2,k3,k4,k5⟩
  ·refine .inl ⟨k0,fun b' hb' q=>?_⟩
   rcases List.mem_append.1 hb' with hb'|hb'
   ·exact k b' hb' q
   ·simp only[List.mem_singleton]at hb';subst hb';exact hc ⟨q.1,q.2,.inl k0⟩
  ·refine .inr ⟨j,b0,?_,k2,k3,k4,fun b' hb' q1 q2=>?_⟩
   ·rw[List.getElem?_append_left (List.getElem?_eq_some_iff.1 k1).1];exact k1
   ·rcases List.mem_append.1 hb' with hb'|hb'
    ·exact k5 b' hb' q1 q2
    ·simp only[List.mem_singleton]at hb';subst hb'
     by_cases q:iA b'<iA b0
     ·exact absurd ⟨q1,q2,.inr (by rw[k2];exact q)⟩ hc
     ·omega
theorem Yy {t:Int}:∀{l pre:List bg} {st:Int×Int},H6 t pre st→H6 t (pre++l) (rT t l pre.length st)
 |[],pre,st,h=>by rw[List.append_nil];exact h
 |b::l,pre,st,h=>by
  have:=Yy (l:=l) (afP (b:=b) h)
  rw[List.append_assoc,List.length_append]at this
  exact this
noncomputable def BV (d:bD) (t:Int) (s:bX):Option bX:=
 if(rT t s.az 0 (-1,0)).1<0 then none
 else(s.az[(rT t s.az 0 (-1,0)).1.toNat]?).bind fun b=>(b.bE[(b.bT+1).toNat]?).map fun x=>
  {s with number:=IntKind.i64.wrap (s.number+1),az:=s.az.set (rT t s.az 0 (-1,0)).1.toNat (lC d {s with number:=IntKind.i64.wrap (s.number+1)} b x (b.bT+1) (rT t s.az 0 (-1,0)).2)}
noncomputable def zB (d:bD) (t:Int):Nat→bX→bX
 |0,s=>s
 |n+1,s=>match BV d t s with
  |none=>s
  |some s'=>zB d t n s'
def MB (b:bg):Nat:=((b.bE.length:Int) -b.bT).toNat
def yI (l:List bg):Nat:=(l.map MB).sum
noncomputable def nB (d:bD) (s:bX) (t:Int):bX:=zB d t (yI s.az) s
theorem ahn {l:List bg} {i:Nat} {b b':bg} (h:l[i]? =some b) (hl:MB b'<MB b):yI (l.set i b')<yI l:=by
 unfold yI
 induction l generalizing i with
 |nil=>cases h
 |cons y l ih=>
  cases i with
  |zero=>
   injection h with h
   subst h
   simp only[List.set_cons_zero,List.map_cons,List.sum_cons]
   omega
  |succ i=>
   have:=ih (i:=i) h
   simp only[List.set_cons_succ,List.map_cons,List.sum_cons]
   omega
theorem Qo {N:Int} {s:bX} (h:jk N s) (n:Int):jk N {s with number:=n}:=⟨h.n,h.len,h.bs,h.mu⟩
theorem Xo {N N':Int} {s:bX} (h:jk N s) (h1:N≤N') (h2:N'≤36000000) (hd:∀b∈s.az,iA b<0∨N'≤iA b):jk N' s:=
 ⟨⟨by have:=h.n;omega,h2⟩,h.len,fun b hb=>(h.bs b hb).mono h1 h2 (hd b hb),h.mu⟩
theorem LN {N:Int} {s:bX} (h:jk N s) (i:Nat) {b:bg} (hb:vk N b) (n:Int):jk N {s with number:=n,az:=s.az.set i b}:=
 ⟨h.n,by show(s.az.set i b).length≤40;rw[List.length_set];exact h.len,fun b' hb'=>by
  rcases List.mem_or_eq_of_mem_set hb' with q|q
  ·exact h.bs b' q
  ·rw[q];exact hb,h.mu⟩
theorem QM {d:bD} (hd:sQ d) {s:bX} {N t:Int} (hs:jk N s) (h1:N≤t) (h2:t≤36000000):
  ((rT t s.az 0 (-1,0)).1<0∧BV d t s=none∧jk t s)∨
  ∃(f:Nat) (b:bg) (x:bf) (to:Nat) (tm:Int),rT t s.az 0 (-1,0)=((f:Int),tm)∧s.az[f]? =some b∧b.bT+1=(to:Int)∧b.bE[to]? =some x∧N≤tm∧tm≤t∧(∀b∈s.az,vk tm b)∧jk tm {s with number:=IntKind.i64.wrap (s.number+1)}∧
   BV d t s=some {s with number:=IntKind.i64.wrap (s.number+1),az:=s.az.set f (lC d {s with number:=IntKind.i64.wrap (s.number+1)} b x (to:Int) tm)}∧
   jk tm {s with number:=IntKind.i64.wrap (s.number+1),az:=s.az.set f (lC d {s with number:=IntKind.i64.wrap (s.number+1)} b x (to:Int) tm)}∧
   yI (s.az.set f (lC d {s with number:=IntKind.i64.wrap (s.number+1)} b x (to:Int) tm))<yI s.az:=by
 have hD:H6 t s.az (rT t s.az 0 (-1,0)):=by
  have:=Yy (t:=t) (l:=s.az) (pre:=[]) (st:=(-1,0)) (.inl ⟨by decide,by simp⟩)
  simpa using this
 have hmin:∀b∈s.az,iA b<0∨N≤iA b:=by
  intro b hb
  have hB:=hs.bs b hb
  rw[Q3 hB hs.n.2]
  split
  ·exact .inl (by decide)
  ·rename_i q
   right
   rcases hB.Cs with h3|⟨h3,h4,h5⟩
   ·exact absurd (.inl h3) q
   ·rw[(Dd hB.pS (Int.le_refl N) hs.n.2).1,if_neg (fun z=>q (.inr z))]at h4
    omega
 rcases hD with⟨k0,k⟩|⟨f,b,k1,k2,k3,k4,k5⟩
 ·refine .inl ⟨k0,?_,Xo hs h1 h2 fun b hb=>?_⟩
  ·unfold BV;rw[if_pos k0]
  ·have:=k b hb;omega
 ·have vI:=List.mem_of_getElem? k1
  have hB:=hs.bs b vI
  have hN:=hs.n
  have mL:N≤iA b:=by rcases hmin b vI with q|q<;>omega
  have Ck:¬(b.follow<0∨b.clock.kU=true):=by
   intro q
   have e:=Q3 hB hN.2
   rw[if_pos q]at e
   omega
  have Nc:b.bT+1<(b.bE.length:Int):=by
   rcases hB.Cs with h3|⟨h3,_⟩
   ·exact absurd (.inl h3) Ck
   ·exact h3
  have hc1:=hB.bT
  have hto:(b.bT+1).toNat<b.bE.length:=by omega
  have hx:b.bE[(b.bT+1).toNat]? =some b.bE[(b.bT+1).toNat]:=List.getElem?_eq_getElem hto
  have hmono:jk (iA b) {s with number:=IntKind.i64.wrap (s.number+1)}:=Qo (Xo hs mL (by omega) fun b' hb'=>by
   rcases hmin b' hb' with q|q
   ·exact .inl q
   ·by_cases q2:iA b'≤t
    ·exact .inr (k5 b' hb' (by omega) q2)
    ·exact .inr (by omega)) _
  have hci:((b.bT+1).toNat:Int)=b.bT+1:=by omega
  refine .inr ⟨f,b,b.bE[(b.bT+1).toNat],(b.bT+1).toNat,iA b,k2,k1,hci.symm,hx,mL,k4,hmono.bs,hmono,?_,?_,ahn k1 ?_⟩
  ·unfold BV
   rw[k2]
   simp only
   rw[if_neg (by omega),Int.toNat_natCast,k1,Option.bind_some,hx,Option.map_some,hci]
  ·exact LN (s:={s with number:=IntKind.i64.wrap (s.number+1)}) hmono f (YG hd hmono (Int.le_refl _) (by omega) vI hx) _
  ·unfold MB
   show((b.bE.length:Int) -(((b.bT+1).toNat:Nat):Int)).toNat<_
   omega
theorem VJ {d:bD} (hd:sQ d) {t:Int} (h2:t≤36000000):∀(n:Nat) {s:bX} {N:Int},jk N s→N≤t→yI s.az≤n→jk t (zB d t n s)
 |0,s,N,hs,h1,hn=>by
  rcases QM hd hs h1 h2 with⟨_,_,h⟩|⟨f,b,x,to,tm,_,_,_,_,_,_,_,_,_,_,hl⟩
  ·exact h
  ·omega
 |n+1,s,N,hs,h1,hn=>by
  unfold zB
  rcases QM hd hs h1 h2 with⟨_,e,h⟩|⟨f,b,x,to,tm,_,_,_,_,_,k,_,_,e,h,hl⟩
  ·rw[e];exact h
  ·rw[e]
   exact VJ hd h2 n h k (by show yI (s.az.set f _)≤n;omega)
theorem PI {d:bD} (hd:sQ d) {s:bX} {N t:Int} (hs:jk N s) (h1:N≤t) (h2:t≤36000000):jk t (nB d s t):=VJ hd h2 _ hs h1 (Nat.le_refl _)
end
section
set_option maxRecDepth 100000
open HP
theorem aiO {W:Heap} {aS g i:Nat} {l:List bg} {b:bg} (h:W[aS]? =some (.arr g 10 (l.map aK))) (hb:l[i]? =some b) (sh:Sh):Lt W sh (.oe aS g i 0) (.rp (aK b)):=by
 refine⟨⟨.rp (aK b),?_,rfl,rfl⟩,rfl,fun h=>by cases h⟩
 have e:(l.map aK)[i]? =some (aK b):=by rw[List.getElem?_map,hb];rfl
 have q:=CY b W 0 7
 simp only[A.bw,Nat.not_lt_zero,if_false,h,if_true,e,List.drop_zero,L4,q,Option.map_some]
theorem al6 {W:Heap} {aS g i:Nat} {l:List bg} {b:bg} (h:W[aS]? =some (.arr g 10 (l.map aK))) (hb:l[i]? =some b):Bj [.oe aS g i 0] W=some (.int .i64 (iA b),W):=
 Ar (cO:=[.oe aS g i 0]) (ts:=[.rp (aK b)]) ⟨aiO h hb _,trivial⟩ (fun σ=>al7 b σ) rfl
theorem Ru {aS g n i:Nat} (h:i<n):A.aT 10 (.os aS g 10 0 n) (.int .i64 (i:Int))=some (.oe aS g i 0):=by
 have:((i:Int)<(n:Int)):=by omega
 simp [A.aT,A.idx,this]
theorem aip {W:Heap} {L aS g:Nat} {s:bX} {t:Int} (h1:W[L]? =some (.box (bk (.os aS g 10 0 s.az.length) s))) (h2:W[aS]? =some (.arr g 10 (s.az.map aK))) {i:Nat} {b:bg} (hb:s.az[i]? =some b) (hs:s.az.length≤aW) (u:AV) (st:Int×Int):((fun v21 sC=>
     (A.lss (v21.getD 3 AV.undef) (AV.int .i64 (s.az.length:Int))).bind fun x24=>
     A.cond x24 (
      (A.aA 0 (AV.op L 0)).bind fun x25=>
      ((A.deref x25 sC).bind fun fM=>A.aj 0 fM).bind fun dL=>
      (A.aT 10 dL (v21.getD 3 AV.undef)).bind fun x28=>
      (Bj [x28] sC).bind fun gn=>
      (A.geq gn.1 ah).bind fun cL=>
      (A.guard cL true (some gn.1) an).bind fun x31=>
      (A.guard cL true (some (AV.int .i64 t)) an).bind fun x32=>
      (A.guard cL true (A.leq x31 x32) an).bind fun eB=>
      (A.pick cL eB aM).bind fun x34=>
      (A.guard x34 true (some (v21.getD 1 AV.undef)) an).bind fun fJ=>
      (A.guard x34 true (A.lss fJ ah) an).bind fun gz=>
      (A.guard x34 true (some gz) an).bind fun bQ=>
      (A.guard bQ false (some gn.1) an).bind fun x38=>
      (A.guard bQ false (some (v21.getD 2 AV.undef)) an).bind fun eY=>
      (A.guard bQ false (A.lss x38 eY) an).bind fun dc=>
      (A.guard x34 true (A.pick bQ cI dc) an).bind fun dV=>
      (A.pick x34 dV aM).bind fun gA=>
      (A.cond gA (
       some ([(v21.getD 0 AV.undef),(v21.getD 3 AV.undef),gn.1],gn.2)) (
       some ([(v21.getD 0 AV.undef),(v21.getD 1 AV.undef),(v21.getD 2 AV.undef)],gn.2))).bind fun iP=>
      (A.add (v21.getD 3 AV.undef) aH).bind fun eC=>
      some (AX.normal,[(iP.1.getD 0 AV.undef),(iP.1.getD 1 AV.undef),(iP.1.getD 2 AV.undef),eC],iP.2)) (
      some (AX.exit 2,[(v21.getD 0 AV.undef),(v21.getD 1 AV.undef),(v21.getD 2 AV.undef),(v21.getD 3 AV.undef)],sC)))) [u,.int .i64 st.1,.int .i64 st.2,.int .i64 (i:Int)] W=some (.normal,[u,.int .i64 (Da t i b st).1,.int .i64 (Da t i b st).2,.int .i64 ((i+1:Nat):Int)],W):=by
 have hi:=(List.getElem?_eq_some_iff.1 hb).1
 simp only[List.getD_cons_zero,List.getD_cons_succ]
 rw[jr hb,bS,cW,show A.aA 0 (.op L 0)=some (.op L 0)from rfl,bS,show((A.deref (.op L 0) W).bind fun c=>A.aj 0 c)=some (.os aS g 10 0 s.az.length)from by simp only[A.deref,h1];rfl,bS,Ru hi,bS,al6 h2 hb,bS,rQ,bS]
 unfold Da
 by_cases c1:0≤iA b
 case neg=>
  rw[decide_eq_false c1,if_neg (fun q=>c1 q.1)]
  simp only[uw,gU,bS,mg,cF,List.getD_cons_zero,List.getD_cons_succ]
  rw[fU hb hs,bS]
 rw[decide_eq_true c1]
 simp only[gT,bS,MM,lD]
 by_cases c2:iA b≤t
 case neg=>
  rw[decide_eq_false c2,if_neg (fun q=>c2 q.2.1)]
  simp only[uw,gU,bS,mg,cF,List.getD_cons_zero,List.getD_cons_succ]
  rw[fU hb hs,bS]
 rw[decide_eq_true c2]
 simp only[gT,bS,kN,lD]
 by_cases c3:st.1<0
 ·rw[decide_eq_true c3,if_pos ⟨c1,c2,.inl c3⟩]
  simp only[xC,gU,bS,lD,cT,List.getD_cons_zero,List.getD_cons_succ]
  rw[fU hb hs,bS]
 rw[decide_eq_false c3]
 simp only[gF,bS,kN,mg]
 by_cases c4:iA b<st.2
 ·rw[decide_eq_true c4,if_pos ⟨c1,c2,.inr c4⟩]
  simp only[cT,bS,List.getD_cons_zero,List.getD_cons_succ]
  rw[fU hb hs,bS]
 ·rw[decide_eq_false c4,if_neg (fun q=>q.2.2.elim c3 c4)]
  simp only[cF,bS,List.getD_cons_zero,List.getD_cons_succ]
  rw[fU hb hs,bS]
theorem aio {W:Heap} {L aS g:Nat} {s:bX} {t:Int} (h1:W[L]? =some (.box (bk (.os aS g 10 0 s.az.length) s))) (h2:W[aS]? =some (.arr g 10 (s.az.map aK))) (hs:s.az.length≤aW) (u:AV):A.loop ((fun v21 sC=>
     (A.lss (v21.getD 3 AV.undef) (AV.int .i64 (s.az.length:Int))).bind fun x24=>
     A.cond x24 (
      (A.aA 0 (AV.op L 0)).bind fun x25=>
      ((A.deref x25 sC).bind fun fM=>A.aj 0 fM).bind fun dL=>
      (A.aT 10 dL (v21.getD 3 AV.undef)).bind fun x28=>
      (Bj [x28] sC).bind fun gn=>
      (A.geq gn.1 ah).bind fun cL=>
      (A.guard cL true (some gn.1) an).bind fun x31=>
      (A.guard cL true (some (AV.int .i64 t)) an).bind fun x32=>
      (A.guard cL true (A.leq x31 x32) an).bind fun eB=>
      (A.pick cL eB aM).bind fun x34=>
      (A.guard x34 true (some (v21.getD 1 AV.undef)) an).bind fun fJ=>
      (A.guard x34 true (A.lss fJ ah) an).bind fun gz=>
      (A.guard x34 true (some gz) an).bind fun bQ=>
      (A.guard bQ false (some gn.1) an).bind fun x38=>
      (A.guard bQ false (some (v21.getD 2 AV.undef)) an).bind fun eY=>
      (A.guard bQ false (A.lss x38 eY) an).bind fun dc=>
      (A.guard x34 true (A.pick bQ cI dc) an).bind fun dV=>
      (A.pick x34 dV aM).bind fun gA=>
      (A.cond gA (
       some ([(v21.getD 0 AV.undef),(v21.getD 3 AV.undef),gn.1],gn.2)) (
       some ([(v21.getD 0 AV.undef),(v21.getD 1 AV.undef),(v21.getD 2 AV.undef)],gn.2))).bind fun iP=>
      (A.add (v21.getD 3 AV.undef) aH).bind fun eC=>
      some (AX.normal,[(iP.1.getD 0 AV.undef),(iP.1.getD 1 AV.undef),(iP.1.getD 2 AV.undef),eC],iP.2)) (
      some (AX.exit 2,[(v21.getD 0 AV.undef),(v21.getD 1 AV.undef),(v21.getD 2 AV.undef),(v21.getD 3 AV.undef)],sC)))) [u,.int .i64 (-1),.int .i64 0,.int .i64 0] W=some (.exit 2,[u,.int .i64 (rT t s.az 0 (-1,0)).1,.int .i64 (rT t s.az 0 (-1,0)).2,.int .i64 (s.az.length:Int)],W):=by
 refine AR (mm (Q:=fun q=>q=(.exit 2,[u,.int .i64 (rT t s.az 0 (-1,0)).1,.int .i64 (rT t s.az 0 (-1,0)).2,.int .i64 (s.az.length:Int)],W)) (fun z v w=>∃(i:Nat) (st:Int×Int),i≤s.az.length∧v=[u,.int .i64 st.1,.int .i64 st.2,.int .i64 (i:Int)]∧w=W∧z=s.az.length-i∧rT t (s.az.drop i) i st=rT t s.az 0 (-1,0)) ?_ (n:=s.az.length) ⟨0,(-1,0),Nat.zero_le _,rfl,rfl,rfl,rfl⟩)
 rintro z v w ⟨i,st,hi,rfl,rfl,hz,hT⟩
 by_cases h:i<s.az.length
 ·have hb:s.az[i]? =some s.az[i]:=List.getElem?_eq_getElem h
  refine .inl ⟨s.az.length-(i+1),_,_,by omega,aip h1 h2 hb hs u st,i+1,Da t i s.az[i] st,h,rfl,rfl,rfl,?_⟩
  rw[List.drop_eq_getElem_cons h]at hT
  exact hT
 ·have:i=s.az.length:=by omega
  subst this
  rw[List.drop_length]at hT
  rw[←hT]
  refine .inr ⟨_,?_,by simp,rfl⟩
  simp only[List.getD_cons_zero,List.getD_cons_succ]
  rw[jq,bS,cD]
  rfl
abbrev pL (σ:Heap) (g:Nat) (s:bX):Heap:=σ++[.box (bk (.os (σ.length+1) g 10 0 s.az.length) s),.arr g 10 (s.az.map aK)]
theorem aam (σ:Heap) (g:Nat) (s:bX):(pL σ g s)[σ.length]? =some (.box (bk (.os (σ.length+1) g 10 0 s.az.length) s)):=by
 rw[List.getElem?_append_right (Nat.le_refl _),Nat.sub_self];rfl
theorem Mu (σ:Heap) (g:Nat) (s:bX):(pL σ g s)[σ.length+1]? =some (.arr g 10 (s.az.map aK)):=by
 rw[List.getElem?_append_right (by omega),show σ.length+1-σ.length=1 by omega];rfl
theorem Zk (σ:Heap) (b0 b1 b:aJ):(σ++[b0,b1]).set σ.length b=σ++[b,b1]:=by
 rw[List.set_append_right _ _ (Nat.le_refl _),Nat.sub_self];rfl
theorem ak5 (σ:Heap) (b0 b1 b:aJ):(σ++[b0,b1]).set (σ.length+1) b=σ++[b0,b]:=by
 rw[List.set_append_right _ _ (by omega),show σ.length+1-σ.length=1 by omega];rfl
theorem rY.ext {p:AV} {d:bD} {σ:Heap} (h:rY p d σ) (ex:Heap):rY p d (σ++ex):=by
 obtain⟨q1,q2,f1,f2,f3⟩:=h.f2
 obtain⟨GF,pm,g1,g2⟩:=h.f10
 exact⟨h.nc,⟨q1,q2,f1,f2,fun ex'=>by rw[List.append_assoc];exact f3 _⟩,⟨GF,pm,g1,fun ex'=>by rw[List.append_assoc];exact g2 _⟩,fun ex'=>by rw[List.append_assoc];exact h.lt _⟩
def RJ (W:Heap) (v:AV) (l:List bg):Prop:=(l=[]∧(v=.au∨v=.ez))∨∃id g,v=.os id g 10 0 l.length∧W[id]? =some (.arr g 10 (l.map aK))
abbrev td:List AV:=[AV.au,ah,ah,aM]
theorem afD {d:bD} (hI:sQ d) {σ:Heap} {pd:AV} (hd:rY pd d σ) {t:Int} (h2:t≤36000000) {s:bX} {N:Int} (hs:jk N s) (h1:N≤t) (g:Nat):A.loop ((fun T9 Ba=>
   (A.aA 0 (AV.op σ.length 0)).bind fun cB=>
   ((A.deref cB Ba).bind fun iV=>A.aj 0 iV).bind fun cC=>
   (A.bJ cC).bind fun cR=>
   (A.loop (fun v21 sC=>
     (A.lss (v21.getD 3 AV.undef) cR).bind fun x24=>
     A.cond x24 (
      (A.aA 0 (AV.op σ.length 0)).bind fun x25=>
      ((A.deref x25 sC).bind fun fM=>A.aj 0 fM).bind fun dL=>
      (A.aT 10 dL (v21.getD 3 AV.undef)).bind fun x28=>
      (Bj [x28] sC).bind fun gn=>
      (A.geq gn.1 ah).bind fun cL=>
      (A.guard cL true (some gn.1) an).bind fun x31=>
      (A.guard cL true (some (AV.int .i64 t)) an).bind fun x32=>
      (A.guard cL true (A.leq x31 x32) an).bind fun eB=>
      (A.pick cL eB aM).bind fun x34=>
      (A.guard x34 true (some (v21.getD 1 AV.undef)) an).bind fun fJ=>
      (A.guard x34 true (A.lss fJ ah) an).bind fun gz=>
      (A.guard x34 true (some gz) an).bind fun bQ=>
      (A.guard bQ false (some gn.1) an).bind fun x38=>
      (A.guard bQ false (some (v21.getD 2 AV.undef)) an).bind fun eY=>
      (A.guard bQ false (A.lss x38 eY) an).bind fun dc=>
      (A.guard x34 true (A.pick bQ cI dc) an).bind fun dV=>
      (A.pick x34 dV aM).bind fun gA=>
      (A.cond gA (
       some ([(v21.getD 0 AV.undef),(v21.getD 3 AV.undef),gn.1],gn.2)) (
       some ([(v21.getD 0 AV.undef),(v21.getD 1 AV.undef),(v21.getD 2 AV.undef)],gn.2))).bind fun iP=>
      (A.add (v21.getD 3 AV.undef) aH).bind fun eC=>
      some (AX.normal,[(iP.1.getD 0 AV.undef),(iP.1.getD 1 AV.undef),(iP.1.getD 2 AV.undef),eC],iP.2)) (
      some (AX.exit 2,[(v21.getD 0 AV.undef),(v21.getD 1 AV.undef),(v21.getD 2 AV.undef),(v21.getD 3 AV.undef)],sC))) [(T9.getD 0 AV.undef),(AV.int .i64 (-1)),ah,ah] Ba).bind fun i7=>
   bif i7.1==AX.exit 2 then(
    (A.lss (i7.2.1.getD 1 AV.undef) ah).bind fun fC=>
    A.cond fC (
     ((A.deref (AV.op σ.length 0) i7.2.2).bind fun iW=>A.ay 0 4 iW).bind fun gq=>
     (A.lb (i7.2.1.getD 0 AV.undef)).bind fun xu=>
     (A.cells 4 gq).bind fun AI=>
     (A.splice 0 AI xu).bind fun nO=>
     some (AX.ret,[(AV.lbx nO)],i7.2.2)) (
     (A.aA 1 (AV.op σ.length 0)).bind fun dP=>
     ((A.deref dP i7.2.2).bind fun nP=>A.aj 0 nP).bind fun gB=>
     (A.add gB aH).bind fun kL=>
     (A.aA 1 (AV.op σ.length 0)).bind fun gd=>
     ((A.cell kL).bind fun v=>some [v]).bind fun iX=>
     (A.storeAt gd iX i7.2.2).bind fun iO=>
     (A.aA 0 (AV.op σ.length 0)).bind fun eZ=>
     ((A.deref eZ iO).bind fun AJ=>A.aj 0 AJ).bind fun jo=>
     (A.aT 10 jo (i7.2.1.getD 1 AV.undef)).bind fun fc=>
     (A.aA 6 fc).bind fun fD=>
     ((A.deref fD iO).bind fun pO=>A.aj 0 pO).bind fun jd=>
     (A.add jd aH).bind fun gD=>
     (sH [pd,(AV.op σ.length 0),(i7.2.1.getD 1 AV.undef),gD,(i7.2.1.getD 2 AV.undef)] iO).bind fun eX=>
     some (AX.normal,[(i7.2.1.getD 0 AV.undef)],eX.2)))else
   none)) [.lbx td] (pL σ g s)=some (.ret,[.lbx (bk (.os (σ.length+1) g 10 0 (nB d s t).az.length) (nB d s t))],pL σ g (nB d s t)):=by
 obtain⟨fs,hfs⟩:∃fs,fs=nB d s t:=⟨_,rfl⟩
 rw[←hfs]
 refine AR (mm (Q:=fun q=>q=(.ret,[.lbx (bk (.os (σ.length+1) g 10 0 fs.az.length) fs)],pL σ g fs)) (fun z v w=>∃(s:bX) (N:Int),jk N s∧N≤t∧v=[.lbx td]∧w=pL σ g s∧yI s.az≤z∧zB d t z s=fs) ?_ (n:=yI s.az) ⟨s,N,hs,h1,rfl,rfl,Nat.le_refl _,hfs.symm⟩)
 rintro z v w ⟨s,N,hs,h1,rfl,rfl,hz,hF⟩
 have qS:s.az.length≤aW:=by have:=hs.len;unfold aW;omega
 have A1:=aam σ g s
 have A2:=Mu σ g s
 have rdS:((A.deref (.op σ.length 0) (pL σ g s)).bind fun c=>A.aj 0 c)=some (.os (σ.length+1) g 10 0 s.az.length):=by simp only[A.deref,A1];rfl
 have JD:((A.deref (.op σ.length 0) (pL σ g s)).bind fun c=>A.ay 0 4 c)=some (.agg (bk (.os (σ.length+1) g 10 0 s.az.length) s)):=by simp only[A.deref,A1];rfl
 have zf:((A.deref (.op σ.length 1) (pL σ g s)).bind fun c=>A.aj 0 c)=some (.int .i64 s.number):=by simp only[A.deref,A1];rfl
 have L1:=aio (t:=t) A1 A2 qS (.lbx td)
 rcases QM hI hs h1 h2 with⟨k0,k1,k2⟩|⟨f,b,x,to,tm,e1,e2,e3,e4,e5,e6,e7,e8,e9,kE,e11⟩
 ·have Ap:s=fs:=by
   cases z with
   |zero=>exact hF
   |succ z=>unfold zB at hF;rw[k1]at hF;exact hF
  refine .inr ⟨_,?_,by simp,rfl⟩
  rw[←Ap]
  rw[show A.aA 0 (.op σ.length 0)=some (.op σ.length 0)from rfl,bS,rdS,bS,show A.bJ (.os (σ.length+1) g 10 0 s.az.length)=some (.int .i64 (s.az.length:Int))from rfl,bS]
  refine(congrArg (fun z=>Option.bind z _) L1).trans ?_
  rw[bS]
  simp only[l9,List.getD_cons_zero,List.getD_cons_succ]
  rw[kN,bS,decide_eq_true k0,cW,JD,bS,ia,bS]
  rfl
 ·have eU:0<z:=by omega
  obtain⟨z',rfl⟩:∃z',z=z'+1:=⟨z-1,by omega⟩
  unfold zB at hF
  rw[e9]at hF
  refine .inl ⟨z',_,_,by omega,?_,_,tm,kE,e6,rfl,rfl,?_,hF⟩
  ·rw[show A.aA 0 (.op σ.length 0)=some (.op σ.length 0)from rfl,bS,rdS,bS,show A.bJ (.os (σ.length+1) g 10 0 s.az.length)=some (.int .i64 (s.az.length:Int))from rfl,bS]
   refine(congrArg (fun z=>Option.bind z _) L1).trans ?_
   rw[bS,e1]
   simp only[l9,List.getD_cons_zero,List.getD_cons_succ]
   rw[kN,bS,decide_eq_false (by omega),cD,show A.aA 1 (.op σ.length 0)=some (.op σ.length 1)from rfl,bS,zf,bS,kV,bS]
   simp only[bS,oR]
   have hst:A.storeAt (.op σ.length 1) [.int .i64 (IntKind.i64.wrap (s.number+1))] (pL σ g s)=some (pL σ g {s with number:=IntKind.i64.wrap (s.number+1)}):=by
    simp only[A.storeAt,A1]
    rw[show A.splice 1 [.int .i64 (IntKind.i64.wrap (s.number+1))] (bk (.os (σ.length+1) g 10 0 s.az.length) s)=some (bk (.os (σ.length+1) g 10 0 s.az.length) {s with number:=IntKind.i64.wrap (s.number+1)})from rfl,Option.map_some,Zk]
   rw[hst,bS]
   obtain⟨s1,hs1⟩:∃s1:bX,s1={s with number:=IntKind.i64.wrap (s.number+1)}:=⟨_,rfl⟩
   have F9:s1.az=s.az:=by rw[hs1]
   rw[←hs1]at e8 kE ⊢
   have B1:=aam σ g s1
   have B2:=Mu σ g s1
   have hfl:=(List.getElem?_eq_some_iff.1 e2).1
   rw[show((A.deref (.op σ.length 0) (pL σ g s1)).bind fun c=>A.aj 0 c)=some (.os (σ.length+1) g 10 0 s1.az.length)from by simp only[A.deref,B1];rfl,bS,Ru (by rw[F9];exact hfl),bS,show A.aA 6 (.oe (σ.length+1) g f 0)=some (.oe (σ.length+1) g f 6)from by simp [A.aA],bS]
   rw[show((A.deref (.oe (σ.length+1) g f 6) (pL σ g s1)).bind fun c=>A.aj 0 c)=some (.int .i64 b.bT)from by
    simp only[A.deref,B2,if_true,List.getElem?_map,F9,e2,Option.map_some];rfl,bS,kV,bS]
   have hB:=e7 b (List.mem_of_getElem? e2)
   have fR:=(List.getElem?_eq_some_iff.1 e4).1
   have Jb:b.bE.length≤aW:=hB.qV.1
   rw[show IntKind.i64.wrap (b.bT+1)=(to:Int)from by rw[e3];exact wrap64 (by unfold aP;unfold aW at Jb;omega)]
   have uB:=Qm b x
   have hgo:=Zz (d:=d) (s:=s1) (σ:=pL σ g s1) (pd:=pd) (ids:=σ.length) (aS:=σ.length+1) (g:=g) (ib:=f) (to:=to) (b:=b) (x:=x) (t:=tm) (hd.ext _) B1 B2 (by rw[F9];exact e2) e4 (by rw[F9];exact qS) (by rw[F9];exact fun b hb=>(e7 b hb).ok (Int.le_refl _) (by omega)) hI.pre hB.qV uB.1 (by have:=uB.2;unfold aW;omega) (by rw[F9];exact fun b hb=>(e7 b hb).can)
   rw[hgo,bS,ak5]
   simp only[hs1,pL,bk,List.length_set]
  ·exact Nat.le_of_lt_succ (Nat.lt_of_lt_of_le e11 hz)
def FR (σ:Heap) (s:bX) (v:AV) (H:Heap):Prop:=(s.az=[]∧v=.ez∧H=σ++[.box (bk v s)])∨∃g,v=.os (σ.length+1) g 10 0 s.az.length∧H=pL σ g s
theorem FR.ex {σ H:Heap} {s:bX} {v:AV} (h:FR σ s v H):(∃ex,H=σ++ex)∧RJ H v s.az:=by
 rcases h with⟨h1,h2,h3⟩|⟨g,h1,h2⟩
 ·exact⟨⟨_,h3⟩,.inl ⟨h1,.inr h2⟩⟩
 ·exact⟨⟨_,h2⟩,.inr ⟨_,g,h1,by rw[h2];exact Mu σ g s⟩⟩
theorem Yv {d:bD} (hI:sQ d) {σ:Heap} {pd v0:AV} (hd:rY pd d σ) {t:Int} (h2:t≤36000000) {N:Int} (hs:jk N d.state) (h1:N≤t) (h0:∃q,A.aA 0 pd=some q∧((A.deref q σ).bind fun c=>A.ay 0 4 c)=some (.agg (bk v0 d.state))) (hv:RJ σ v0 d.state.az):
  ∃v H,ER [pd,.int .i64 t] σ=some (.agg (bk v (nB d d.state t)),H)∧FR σ (nB d d.state t) v H:=by
 have alQ:∀{r:AV→AV→Heap→Option (AV×Heap)} {x y v:AV} {σ σ':Heap},r x y σ=some (v,σ')→A.wrap false [] .k (A.cQ r) [x,y] σ=some (v,σ'):=by
  intro r x y v σ σ' e
  have:A.cQ r [x,y] σ=some (v,σ'):=e
  simp only[A.wrap,Bool.false_and,cond_false,A.bV,this,Option.map_some,iM]
 suffices h:∃v H,Kn pd (.int .i64 t) σ=some (.agg (bk v (nB d d.state t)),H)∧FR σ (nB d d.state t) v H by
  obtain⟨v,H,e,h⟩:=h
  exact⟨v,H,alQ e,h⟩
 obtain⟨s,hst⟩:∃s,s=d.state:=⟨_,rfl⟩
 rw[←hst]at hs h0 hv ⊢
 obtain⟨q,f1,f2⟩:=h0
 unfold Kn
 rw[hd.nc,bS,f1,bS,f2,bS,show A.cells 4 (.agg (bk v0 s))=some (bk v0 s)from rfl,bS]
 have G0:(σ++[aJ.box td])[σ.length]? =some (.box td):=by rw[List.getElem?_append_right (Nat.le_refl _),Nat.sub_self];rfl
 have S0:A.storeAt (.op σ.length 0) (bk v0 s) (σ++[aJ.box td])=some (σ++[aJ.box (bk v0 s)]):=by
  simp only[A.storeAt,G0]
  rw[show A.splice 0 (bk v0 s) td=some (bk v0 s)from rfl,Option.map_some,List.set_append_right _ _ (Nat.le_refl _),Nat.sub_self]
  rfl
 rw[S0,bS,show A.aA 0 (.op σ.length 0)=some (.op σ.length 0)from rfl,bS]
 have hcell:A.cell v0=some v0:=by rcases hv with⟨_,h|h⟩|⟨id,g,h,_⟩<;>rw[h]<;>rfl
 have G1:(σ++[aJ.box (bk v0 s)])[σ.length]? =some (.box (bk v0 s)):=by rw[List.getElem?_append_right (Nat.le_refl _),Nat.sub_self];rfl
 rw[show((A.deref (.op σ.length 0) (σ++[aJ.box (bk v0 s)])).bind fun c=>A.aj 0 c)=some v0 from by simp only[A.deref,G1,List.drop_zero,Option.bind_some,A.aj,bk,List.getElem?_cons_zero,hcell],bS]
 by_cases hb:s.az=[]
 ·have hz:EI [v0] (σ++[aJ.box (bk v0 s)])=some (.ez,σ++[aJ.box (bk v0 s)]):=by
   rcases hv with⟨_,h|h⟩|⟨id,g,h,_⟩
   ·rw[h];rfl
   ·rw[h];rfl
   ·rw[h,hb];rfl
  rw[hz,bS]
  simp only[bS]
  have S1:A.storeAt (.op σ.length 0) [.ez] (σ++[aJ.box (bk v0 s)])=some (σ++[aJ.box (bk .ez s)]):=by
   simp only[A.storeAt,G1]
   rw[show A.splice 0 [.ez] (bk v0 s)=some (bk .ez s)from rfl,Option.map_some,List.set_append_right _ _ (Nat.le_refl _),Nat.sub_self]
   rfl
  rw[show((A.cell AV.ez).bind fun v=>some [v])=some [.ez]from rfl,bS,S1,bS]
  have hF:nB d s t=s:=by
   unfold nB
   rw[hb]
   rfl
  have G2:(σ++[aJ.box (bk .ez s)])[σ.length]? =some (.box (bk .ez s)):=by rw[List.getElem?_append_right (Nat.le_refl _),Nat.sub_self];rfl
  refine⟨.ez,σ++[aJ.box (bk .ez s)],?_,.inl ⟨by rw[hF];exact hb,rfl,by rw[hF]⟩⟩
  rw[hF]
  refine AR (FN (mm (Q:=fun q=>q=(.ret,[.lbx (bk .ez s)],σ++[aJ.box (bk .ez s)])) (fun z v w=>v=[.lbx td]∧w=σ++[aJ.box (bk .ez s)]) ?_ (n:=0) ⟨rfl,rfl⟩) ?_)
  ·rintro z v w ⟨rfl,rfl⟩
   refine .inr ⟨_,?_,by simp,rfl⟩
   rw[show((A.deref (.op σ.length 0) (σ++[aJ.box (bk .ez s)])).bind fun c=>A.aj 0 c)=some .ez from by simp only[A.deref,G2];rfl,bS,show A.bJ .ez=some (.int .i64 0)from rfl,bS]
   refine AR (FN (mm (Q:=fun q=>q=(.exit 2,[.lbx td,.int .i64 (-1),.int .i64 0,.int .i64 0],σ++[aJ.box (bk .ez s)])) (fun z v w=>v=[.lbx td,.int .i64 (-1),.int .i64 0,.int .i64 0]∧w=σ++[aJ.box (bk .ez s)]) ?_ (n:=0) ⟨rfl,rfl⟩) ?_)
   ·rintro z v w ⟨rfl,rfl⟩
    exact .inr ⟨_,rfl,by simp,rfl⟩
   ·rintro q rfl
    simp only[l9,List.getD_cons_zero,List.getD_cons_succ]
    rw[kN,bS,decide_eq_true (by decide),cW,show((A.deref (.op σ.length 0) (σ++[aJ.box (bk .ez s)])).bind fun c=>A.ay 0 4 c)=some (.agg (bk .ez s))from by simp only[A.deref,G2];rfl,bS,ia,bS]
    exact⟨_,rfl,rfl⟩
  ·rintro q rfl
   exact⟨_,rfl,rfl⟩
 ·rcases hv with⟨h,_⟩|⟨id,g,hv,hg⟩
  ·exact absurd h hb
  obtain⟨n,hn⟩:∃n,s.az.length=n+1:=by
   cases h:s.az with
   |nil=>exact absurd h hb
   |cons b l=>exact⟨l.length,rfl⟩
  have aaX:=(List.getElem?_eq_some_iff.1 hg).1
  have hlen:=hs.len
  have G2:(σ++[aJ.box (bk v0 s)])[id]? =some (.arr g 10 (s.az.map aK)):=by rw[List.getElem?_append_left aaX];exact hg
  have hz:EI [v0] (σ++[aJ.box (bk v0 s)])=some (.os (σ.length+1) s.az.length 10 0 s.az.length,(σ++[aJ.box (bk v0 s)])++[.arr s.az.length 10 (s.az.map aK)]):=by
   have e0:EI [v0] (σ++[aJ.box (bk v0 s)])=A.wrap false [] .k (A.cK EJ) [v0] (σ++[aJ.box (bk v0 s)]):=by
    rw[hv,hn];rfl
   rw[e0]
   have e1:A.cK EJ [v0] (σ++[aJ.box (bk v0 s)])=some (.os (σ.length+1) s.az.length 10 0 s.az.length,(σ++[aJ.box (bk v0 s)])++[.arr s.az.length 10 (s.az.map aK)]):=by
    show EJ v0 (σ++[aJ.box (bk v0 s)])=_
    unfold EJ
    rw[show A.pU v0 .au=some (.bool false)from by rw[hv];rfl,bS,cD]
    have hel:A.elems 10 v0 (σ++[aJ.box (bk v0 s)])=some (s.az.map aK):=by
     rw[hv]at G2 ⊢
     simp only[A.elems]
     rw[G2]
     simp [List.take_of_length_le]
    have hne:s.az.map aK≠[]:=by simpa using hb
    have hap:A.append 10 (140737488355328 / 96) .ez v0 (σ++[aJ.box (bk v0 s)])=some (.os (σ.length+1) s.az.length 10 0 s.az.length,(σ++[aJ.box (bk v0 s)])++[.arr s.az.length 10 (s.az.map aK)]):=by
     unfold A.append
     rw[hel,bS]
     simp only[A.sJ,if_neg hne,List.length_map,List.length_append,List.length_cons,List.length_nil]
     rw[if_pos (by omega)]
    rw[hap,bS]
   simp only[A.wrap,Bool.false_and,cond_false,A.bV,e1,Option.map_some,iM]
  rw[hz,bS]
  simp only[bS]
  rw[show((A.cell (AV.os (σ.length+1) s.az.length 10 0 s.az.length)).bind fun v=>some [v])=some [.os (σ.length+1) s.az.length 10 0 s.az.length]from rfl,bS]
  have S1:A.storeAt (.op σ.length 0) [.os (σ.length+1) s.az.length 10 0 s.az.length] ((σ++[aJ.box (bk v0 s)])++[.arr s.az.length 10 (s.az.map aK)])=some (pL σ s.az.length s):=by
   rw[List.append_assoc]
   simp only[A.storeAt]
   rw[List.getElem?_append_right (Nat.le_refl _),Nat.sub_self]
   show(Option.map (fun cs=>(σ++[aJ.box (bk v0 s),aJ.arr s.az.length 10 (s.az.map aK)]).set σ.length (.box cs)) (A.splice 0 [.os (σ.length+1) s.az.length 10 0 s.az.length] (bk v0 s)))=_
   rw[show A.splice 0 [.os (σ.length+1) s.az.length 10 0 s.az.length] (bk v0 s)=some (bk (.os (σ.length+1) s.az.length 10 0 s.az.length) s)from rfl,Option.map_some,Zk]
  rw[S1,bS]
  refine⟨_,_,?_,.inr ⟨s.az.length,rfl,rfl⟩⟩
  refine(congrArg (fun z=>Option.bind z _) (afD hI hd h2 hs h1 s.az.length)).trans ?_
  rw[bS]
  rfl
end
section
set_option maxRecDepth 100000
open HP
theorem abz (dyn:Nat→List AV→Heap→Option (AV×Heap)) (l:List bg) (hl:l.length≤aW) (n:Nat) (caps:List AV) (p:bg→Bool) (σ:Heap) (hd:∀x∈l,dyn n ((.agg (aK x):AV)::caps) σ=some (.bool (p x),σ)):GI dyn [sl 10 aK l,.fn n caps] σ=some (.int .i64 (kq p l),σ):=by
 refine wrap_eq rfl ?_ rfl
 show J3 dyn (sl 10 aK l) (.fn n caps) σ=_
 unfold J3
 simp only[aO,reduceCtorEq]
 refine(oI (S:=Unit) (R:=Int) l (fun pre x _=>if p x=true then .out (pre.length:Int)else .go ())
  (fun pre _=>[.int .i64 0,.int .i64 (pre.length:Int)]) (fun _ _=>σ) (fun _=>(.exit 0,[.int .i64 0,.int .i64 (l.length:Int)],σ)) (fun pre _ r=>(.ret,[.int .i64 (pre.length:Int),.int .i64 (pre.length:Int)],σ))
  (fun _ _=>True) () (fun _=>some (AV.int .i64 (-1),σ)) (fun r=>some (AV.int .i64 r,σ)) ?_ ?_ trivial (fun _ _ _ _ _ _ _ _=>trivial) ?_ ?_).trans ?_
 ·intro pre x rest u hl' _
  have hx:=oL hl'
  have hlt:=rN hl'
  have hi1:IntKind.i64.wrap ((pre.length:Int)+1)=(pre.length:Int)+1:=wrap64 (by unfold aP;unfold aW at hl;omega)
  have hlt':(pre.length:Int)<(l.length:Int):=by omega
  have jI:=lM 10 aK l hx
  have nV:=hd x (by rw[hl'];simp)
  simp only[aO,reduceCtorEq,ahE,hlt',jI,A.jF,List.cons_append,List.nil_append,nV,hi1]
  cases p x<;>simp [aO,reduceCtorEq]
 ·intro u _;simp only[aO,reduceCtorEq,Int.lt_irrefl]
 ·intro u _;simp only[aO,reduceCtorEq]
 ·intro pre x rest s q hl' _ hb
  have:q=(pre.length:Int):=by
   cases hpx:p x
   ·rw[hpx]at hb;cases hb
   ·rw[hpx]at hb;simp at hb;exact hb.symm
  simp only[aO,reduceCtorEq,this]
 ·rw[C8 p _ _ l [] (by simp)]
  simp only[List.nil_append]
  split
  ·rename_i h;rw[h]
  ·rfl
noncomputable def vH (d:bD) (s:bX) (i:Nat) (b:bg) (to t:Int):bX×Int:=match b.bE[to.toNat]? with
 |none=>(s,0)
 |some x=>({s with number:=IntKind.i64.wrap (s.number+1),az:=s.az.set i (lC d {s with number:=IntKind.i64.wrap (s.number+1)} b x to t)},0)
def Ge (s:bX) (i:Nat) (b:bg):bX:={s with number:=IntKind.i64.wrap (s.number+1),az:=s.az.set i b}
noncomputable def aox (d:bD) (s:bX) (i:Nat) (b:bg) (a:dR):bX:={s with number:=IntKind.i64.wrap (s.number+1),az:=s.az.set i (sZ d {s with number:=IntKind.i64.wrap (s.number+1)} b a)}
noncomputable def MN (d:bD) (s:bX) (a:dR) (i:Nat) (b:bg):bX×Int:=
 if a.kind=1 then(if b.bT+1=(b.bE.length:Int)then(s,8)else vH d s i b (b.bT+1) a.time)
 else if a.kind=2 then(if b.bT-1<0 then(s,8)else vH d s i b (b.bT-1) a.time)
 else if a.kind=3 then(if kq (fun c:bf=>decide (c.number=a.bT)) b.bE<0 then(s,8)else vH d s i b (kq (fun c:bf=>decide (c.number=a.bT)) b.bE) a.time)
 else if a.kind=4 then(if b.clock.kU=true∨b.bT<0 then(s,10)else(Ge s i {b with clock:=⟨dz b.clock a.time,a.time,true⟩},0))
 else if a.kind=5 then(if b.clock.kU=false then(s,10)else(Ge s i {b with clock:=⟨b.clock.shown,a.time,false⟩},0))
 else if a.kind=6 then(if b.bT<0 then(s,10)else(aox d s i b a,0))
 else(Ge s i {b with jg:=a.level},0)
noncomputable def kW (d:bD) (s:bX) (a:dR):bX×Int:=
 if a.kind=8 then({s with number:=IntKind.i64.wrap (s.number+1),mu:=a.level},0)
 else if a.kind=9 then({s with number:=IntKind.i64.wrap (s.number+1),black:=decide (a.level=1)},0)
 else match s.az[(kq (fun b:bg=>decide (b.number=a.jf)) s.az).toNat]? with
  |none=>(s,0)
  |some b=>MN d s a (kq (fun b:bg=>decide (b.number=a.jf)) s.az).toNat b
structure SA (σ W : Heap) (ids aS g : Nat) (s : bX) : Prop where
 b1:W[ids]? =some (.box (bk (.os aS g 10 0 s.az.length) s))
 b2:W[aS]? =some (.arr g 10 (s.az.map aK))
 ex:∃ex,W=σ++ex
 i1:σ.length≤ids
 i2:σ.length≤aS
section
variable {σ W : Heap} {ids aS g : Nat} {s : bX}
theorem SA.ne (h:SA σ W ids aS g s):ids≠aS:=by
 intro e
 have h1:=h.b1
 have h2:=h.b2
 rw[e,h2]at h1
 cases h1
theorem Q4 {σ W:Heap} (h:∃ex,W=σ++ex) {i:Nat} (hi:σ.length≤i) (b:aJ):∃ex,W.set i b=σ++ex:=by
 obtain⟨ex,rfl⟩:=h
 exact⟨_,List.set_append_right _ _ hi⟩
theorem SA.dX (h:SA σ W ids aS g s) (i:Nat) (b':bg):SA σ (W.set aS (.arr g 10 ((s.az.set i b').map aK))) ids aS g {s with az:=s.az.set i b'}:=by
 refine⟨?_,?_,Q4 h.ex h.i2 _,h.i1,h.i2⟩
 ·rw[List.getElem?_set_ne (fun e=>h.ne e.symm)]
  show _=some (aJ.box (bk (.os aS g 10 0 (s.az.set i b').length) _))
  rw[List.length_set]
  exact h.b1
 ·exact List.getElem?_set_self (List.getElem?_eq_some_iff.1 h.b2).1
theorem SA.aoE (h:SA σ W ids aS g s) (s':bX) (hs:s'.az=s.az):SA σ (W.set ids (.box (bk (.os aS g 10 0 s'.az.length) s'))) ids aS g s':=by
 refine⟨List.getElem?_set_self (List.getElem?_eq_some_iff.1 h.b1).1,?_,Q4 h.ex h.i1 _,h.i1,h.i2⟩
 rw[List.getElem?_set_ne h.ne,hs]
 exact h.b2
theorem SA.num (h:SA σ W ids aS g s) (n:Int):∃W',A.storeAt (.op ids 1) [.int .i64 n] W=some W'∧SA σ W' ids aS g {s with number:=n}:=by
 refine⟨_,?_,h.aoE {s with number:=n} rfl⟩
 simp only[A.storeAt,h.b1]
 rfl
theorem SA.put (h:SA σ W ids aS g s) {i o:Nat} {b b':bg} {new:List AV} (hb:s.az[i]? =some b) (hs:A.splice o new (aK b)=some (aK b')):∃W',A.storeAt (.oe aS g i o) new W=some W'∧SA σ W' ids aS g {s with az:=s.az.set i b'}:=by
 refine⟨_,?_,h.dX i b'⟩
 rw[HO h.b2 (by rw[List.getElem?_map,hb];rfl) hs,List.map_set]
theorem SA.rdB (h:SA σ W ids aS g s) {i:Nat} {b:bg} (hb:s.az[i]? =some b) (o:Nat):A.deref (.oe aS g i o) W=some ((aK b).drop o):=by
 simp only[A.deref,h.b2,if_true,List.getElem?_map,hb,Option.map_some]
theorem SA.zf (h:SA σ W ids aS g s):((A.deref (.op ids 1) W).bind fun c=>A.aj 0 c)=some (.int .i64 s.number):=by
 simp only[A.deref,h.b1];rfl
theorem SA.rdV (h:SA σ W ids aS g s):((A.deref (.op ids 0) W).bind fun c=>A.aj 0 c)=some (.os aS g 10 0 s.az.length):=by
 simp only[A.deref,h.b1];rfl
theorem SA.go {d:bD} {pd:AV} (hI:sQ d) (hd:rY pd d σ) (h:SA σ W ids aS g s) {N t:Int} (hs:jk N s) (hN:N≤t) (ht:t≤36000000) {i to:Nat} {b:bg} {x:bf} (hb:s.az[i]? =some b) (hx:b.bE[to]? =some x):
  ∃W',sH [pd,.op ids 0,.int .i64 (i:Int),.int .i64 (to:Int),.int .i64 t] W=some (.aG [],W')∧SA σ W' ids aS g {s with az:=s.az.set i (lC d s b x (to:Int) t)}:=by
 obtain⟨ex,e⟩:=h.ex
 have hB:=hs.bs b (List.mem_of_getElem? hb)
 have uB:=Qm b x
 refine⟨_,Zz (by rw[e];exact hd.ext ex) h.b1 h.b2 hb hx (by have:=hs.len;unfold aW;omega) (fun b hb=>(hs.bs b hb).ok hN ht) hI.pre hB.qV uB.1 (by have:=uB.2;unfold aW;omega) (fun b hb=>(hs.bs b hb).can),h.dX i _⟩
theorem SA.rel {d:bD} {pd:AV} (hd:rY pd d σ) (h:SA σ W ids aS g s) {a:dR} {N:Int} (hs:jk N s) (hN:N≤a.time) (ht:a.time≤36000000) {i:Nat} {b:bg} (hb:s.az[i]? =some b):
  ∃W',GQ [pd,.op ids 0,.oe aS g i 0,.agg (bn a)] W=some (.aG [],W')∧SA σ W' ids aS g {s with az:=s.az.set i (sZ d s b a)}:=by
 obtain⟨ex,e⟩:=h.ex
 have hB:=hs.bs b (List.mem_of_getElem? hb)
 exact⟨_,ahJ (by rw[e];exact hd.ext ex) h.b1 h.b2 hb (hB.ok hN ht) (fun b hb=>(hs.bs b hb).can),h.dX i _⟩
end
theorem bex {β:Type} {X:Option (AV×Heap)} {v:AV×Heap} {f:AV×Heap→Option β} {Q:Heap→Prop} (e:X=some v) {r:Heap→Option β} (k:∃W',f v=r W'∧Q W'):∃W',X.bind f=r W'∧Q W':=by
 rw[e];exact k
theorem agR (b:bg) (a:dR) (σ:Heap):Bf [.agg (aK b),.rp (bn a)] σ=some (.bool (decide (b.number=a.jf)),σ):=by
 refine Fw (z:=.au) (by unfold aK;cases b.runs<;>rfl) (iS (qH (by unfold aK;cases b.runs<;>rfl)) rfl) (iM _) ?_
 unfold Us
 rw[ag2,bS,ae9,bS,lG,bS,nU,bS,show A.aj 0 ((bn a).drop 2)=some (.int .i64 a.jf)from rfl,bS,iN,bS]
 exact bC _ _
theorem agS (c:bf) (a:dR) (σ:Heap):Bg [.agg (aZ c),.rp (bn a)] σ=some (.bool (decide (c.number=a.bT)),σ):=by
 refine Fw (z:=.au) rfl (iS (qH rfl) rfl) (iM _) ?_
 unfold Ut
 rw[LY,bS,PZ,bS,lG,bS,nU,bS,show A.aj 0 ((bn a).drop 3)=some (.int .i64 a.bT)from rfl,bS,iN,bS]
 exact bC _ _
theorem ahr {W:Heap} {aS g:Nat} {l:List bg} (h:W[aS]? =some (.arr g 10 (l.map aK))):Lt W (.s 10) (.os aS g 10 0 l.length) (sl 10 aK l):=
 ⟨⟨sl 10 aK l,HU CY h (by omega) 7,rfl,rfl⟩,rfl,fun h=>by cases h⟩
noncomputable abbrev Mg : Nat → List AV → Heap → Option (AV × Heap) := A.tab (fun _ _ => none) [(352, Bf), (354, Bg)]
theorem afX {W:Heap} {aS g:Nat} {l:List bg} (h:W[aS]? =some (.arr g 10 (l.map aK))) (hl:l.length≤aW) (a:dR):GI Mg [.os aS g 10 0 l.length,.fn 352 [.rp (bn a)]] W=some (.int .i64 (kq (fun b:bg=>decide (b.number=a.jf)) l),W):=
 Ar (cO:=[.os aS g 10 0 l.length,.fn 352 [.rp (bn a)]]) (ts:=[sl 10 aK l,.fn 352 [.rp (bn a)]]) ⟨ahr h,MD (ama (bR (amc (VV a)) oK)) rfl,trivial⟩ (fun σ=>abz Mg l hl _ _ _ σ (fun b _=>agR b a σ)) rfl
theorem YK (c t:Int) (q:Bool):((((A.cell (.int .i64 c)).bind fun v=>some [v]).bind fun RQ=>(A.splice 0 RQ [ah,ah,aM]).bind fun wL=>((A.cell (.int .i64 t)).bind fun v=>some [v]).bind fun Ik=>(A.splice 1 Ik wL).bind fun wM=>((A.cell (AV.bool q)).bind fun v=>some [v]).bind fun RR=>(A.splice 2 RR wM).bind fun tU=>some tU).bind fun cs=>some (AV.agg cs))=some (.agg (uU ⟨c,t,q⟩)):=rfl
theorem ZZ (b:bg) (c:zA):A.splice 0 (uU c) (aK b)=some (aK {b with clock:=c}):=rfl
theorem aje (b:bg) (n:Int):A.splice 7 [.int .i64 n] (aK b)=some (aK {b with jg:=n}):=rfl
theorem alZ {d:bD} {pd:AV} (hI:sQ d) {σ W:Heap} (hd:rY pd d σ) {ids aS g:Nat} {s:bX} (h:SA σ W ids aS g s) {a:dR} (hs:jk a.time s) (hk:1≤a.kind∧a.kind≤7) (hp:∃b∈s.az,b.number=a.jf):
  ∃W',GX [pd,.op ids 0,.agg (bn a)] W=some (.int .i64 (kW d s a).2,W')∧SA σ W' ids aS g (kW d s a).1:=by
 have akX:∀{r:AV→AV→AV→Heap→Option (AV×Heap)} {x y z v:AV} {σ σ':Heap},r x y z σ=some (v,σ')→A.wrap false [] .k (A.lp r) [x,y,z] σ=some (v,σ'):=by
  intro r x y z v σ σ' e
  exact Ri (iM _) e
 suffices h:∃W',ET pd (.op ids 0) (.agg (bn a)) W=some (.int .i64 (kW d s a).2,W')∧SA σ W' ids aS g (kW d s a).1 by
  obtain⟨W',e,h⟩:=h
  exact⟨W',akX e,h⟩
 have hbl:s.az.length≤aW:=by have:=hs.len;unfold aW;omega
 have ht:=hs.n.2
 have JD:∀(k:Nat) (W:Heap),A.deref (.rp ((bn a).drop k)) W=some ((bn a).drop k):=fun k W=>rfl
 unfold ET kW
 rw[if_neg (by omega),if_neg (by omega)]
 rw[show((A.cells 5 (.agg (bn a))).bind fun cs=>some (AV.rp cs))=some (.rp (bn a))from rfl,bS]
 simp only[lG,bS,JD,show A.aj 0 ((bn a).drop 1)=some (.int .i64 a.kind)from rfl,show A.aj 0 ((bn a).drop 0)=some (.int .i64 a.time)from rfl,show A.aj 0 ((bn a).drop 4)=some (.int .i64 a.level)from rfl,iN,nU,Fb]
 rw[decide_eq_false (show ¬a.kind=8 by omega),cD,decide_eq_false (show ¬a.kind=9 by omega),cD]
 simp only[show A.aL (.op ids 0)=some (.op ids 0)from rfl,bS,show ∀o,A.aA o (.op ids 0)=some (.op ids o)from fun o=>by simp [A.aA],h.rdV]
 refine bex (afX h.b2 hbl a) ?_
 simp only[h.rdV,bS]
 obtain⟨i,b,e1,e2,e3⟩:∃(i:Nat) (b:bg),s.az[i]? =some b∧kq (fun b:bg=>decide (b.number=a.jf)) s.az=(i:Int)∧b∈s.az:=by
  rcases Bo (fun b:bg=>decide (b.number=a.jf)) s.az with⟨_,q,_⟩|⟨i,b,q1,_,q2,_,_⟩
  ·obtain⟨b,hb,yV⟩:=hp
   have:=q b hb
   rw[decide_eq_true yV]at this;cases this
  ·exact⟨i,b,q1,q2,List.mem_of_getElem? q1⟩
 have hi:=(List.getElem?_eq_some_iff.1 e1).1
 rw[e2]
 simp only[Int.toNat_natCast]
 rw[e1]
 simp only
 rw[Ru hi,bS]
 have hB:=hs.bs b e3
 have hc:=hB.bT
 have Jb:b.bE.length≤aW:=hB.qV.1
 have fo:∀o,A.aA o (.oe aS g i 0)=some (.oe aS g i o):=fun o=>by simp [A.aA]
 have fo2:∀o,A.aA 0 (.oe aS g i o)=some (.oe aS g i o):=fun o=>by simp [A.aA]
 have fo3:∀o,A.aA o (.oe aS g i 0)=some (.oe aS g i o):=fun o=>by simp [A.aA]
 have c6:A.aj 0 ((aK b).drop 6)=some (.int .i64 b.bT):=rfl
 have c5:A.aj 0 ((aK b).drop 5)=some (sl 11 aZ b.bE):=rfl
 have c2:A.aj 0 ((aK b).drop 2)=some (.bool b.clock.kU):=rfl
 have c0:A.aj 0 ((aK b).drop 0)=some (.int .i64 b.clock.shown):=rfl
 have c03:A.ay 0 3 ((aK b).drop 0)=some (.agg (uU b.clock)):=rfl
 simp only[show A.aL (.oe aS g i 0)=some (.oe aS g i 0)from rfl,bS,fo,h.rdB e1,c6,c5,c2,c0,c03,fL]
 obtain⟨W1,n1,n2⟩:=h.num (IntKind.i64.wrap (s.number+1))
 have hs1:jk a.time {s with number:=IntKind.i64.wrap (s.number+1)}:=Qo hs _
 have go:∀(to:Nat) (x:bf),b.bE[to]? =some x→∃W',sH [pd,.op ids 0,.int .i64 (i:Int),.int .i64 (to:Int),.int .i64 a.time] W1=some (.aG [],W')∧SA σ W' ids aS g (vH d s i b (to:Int) a.time).1∧(vH d s i b (to:Int) a.time).2=0:=by
  intro to x hx
  obtain⟨W',q1,q2⟩:=n2.go hI hd hs1 (Int.le_refl _) ht e1 hx
  refine⟨W',q1,?_,?_⟩
  ·unfold vH;rw[Int.toNat_natCast,hx];exact q2
  ·unfold vH;rw[Int.toNat_natCast,hx]
 have no:((A.cell (AV.int .i64 (IntKind.i64.wrap (s.number+1)))).bind fun v=>some [v])=some [.int .i64 (IntKind.i64.wrap (s.number+1))]:=rfl
 unfold MN
 by_cases k1:a.kind=1
 ·rw[if_pos k1,decide_eq_true k1,cW,kV,bS,show IntKind.i64.wrap (b.bT+1)=b.bT+1 from wrap64 (by unfold aP;unfold aW at Jb;omega),iN,bS]
  by_cases hz:b.bT+1=(b.bE.length:Int)
  ·rw[decide_eq_true hz,cW,if_pos hz]
   exact⟨W,rfl,h⟩
  ·rw[decide_eq_false hz,cD,if_neg hz,h.zf,bS,kV,bS,no,bS,n1,bS,rQ,bS,decide_eq_true (by omega),cW]
   obtain⟨to,hto⟩:∃to:Nat,b.bT+1=(to:Int):=⟨(b.bT+1).toNat,by omega⟩
   obtain⟨W',q1,q2,q3⟩:=go to _ (List.getElem?_eq_getElem (show to<b.bE.length by omega))
   rw[hto]
   simp only[q1,bS,q3]
   exact⟨W',rfl,q2⟩
 rw[if_neg k1,decide_eq_false k1,cD]
 by_cases k2:a.kind=2
 ·rw[if_pos k2,decide_eq_true k2,cW,oW,bS,show IntKind.i64.wrap (b.bT-1)=b.bT-1 from wrap64 (by unfold aP;unfold aW at Jb;omega),kN,bS]
  by_cases hz:b.bT-1<0
  ·rw[decide_eq_true hz,cW,if_pos hz]
   exact⟨W,rfl,h⟩
  ·rw[decide_eq_false hz,cD,if_neg hz,h.zf,bS,kV,bS,no,bS,n1,bS,rQ,bS,decide_eq_true (by omega),cW]
   obtain⟨to,hto⟩:∃to:Nat,b.bT-1=(to:Int):=⟨(b.bT-1).toNat,by omega⟩
   obtain⟨W',q1,q2,q3⟩:=go to _ (List.getElem?_eq_getElem (show to<b.bE.length by omega))
   rw[hto]
   simp only[q1,bS,q3]
   exact⟨W',rfl,q2⟩
 rw[if_neg k2,decide_eq_false k2,cD]
 by_cases k3:a.kind=3
 ·rw[if_pos k3,decide_eq_true k3,cW]
  have TA:GL Mg [sl 11 aZ b.bE,.fn 354 [.rp (bn a)]] W=some (.int .i64 (kq (fun c:bf=>decide (c.number=a.bT)) b.bE),W):=abI Mg b.bE Jb _ _ _ W (fun c _=>agS c a W)
  refine bex TA ?_
  simp only
  rw[kN,bS]
  rcases Bo (fun c:bf=>decide (c.number=a.bT)) b.bE with⟨q,_,_⟩|⟨to,x,q1,_,q2,_,_⟩
  ·rw[q,decide_eq_true (by decide),cW,if_pos (by decide)]
   exact⟨W,rfl,h⟩
  ·rw[q2,decide_eq_false (by omega),cD,if_neg (by omega),h.zf,bS,kV,bS,no,bS,n1,bS,rQ,bS,decide_eq_true (by omega),cW]
   obtain⟨W',g1,g2,g3⟩:=go to _ q1
   simp only[g1,bS,g3]
   exact⟨W',rfl,g2⟩
 rw[if_neg k3,decide_eq_false k3,cD]
 have SF:∀(o:Nat) (new:List AV) (b':bg),A.splice o new (aK b)=some (aK b')→∃W1 W2,A.storeAt (.oe aS g i o) new W=some W1∧((A.deref (.op ids 1) W1).bind fun c=>A.aj 0 c)=some (.int .i64 s.number)∧A.storeAt (.op ids 1) [.int .i64 (IntKind.i64.wrap (s.number+1))] W1=some W2∧SA σ W2 ids aS g (Ge s i b'):=by
  intro o new b' hsp
  obtain⟨W1,w1,w2⟩:=h.put e1 hsp
  obtain⟨W2,w3,w4⟩:=w2.num (IntKind.i64.wrap (s.number+1))
  exact⟨W1,W2,w1,w2.zf,w3,w4⟩
 by_cases k4:a.kind=4
 ·rw[if_pos k4,decide_eq_true k4,cW]
  by_cases hst:b.clock.kU=true
  ·rw[hst,if_pos (.inl rfl)]
   simp only[xC,gU,bS,lD,cT]
   exact⟨W,rfl,h⟩
  have IE:b.clock.kU=false:=by simpa using hst
  rw[IE]
  simp only[gF,bS,show A.aL (.oe aS g i 0)=some (.oe aS g i 0)from rfl,fo,h.rdB e1,c6,mg,kN]
  by_cases hz:b.bT<0
  ·rw[decide_eq_true hz,cW,if_pos (.inr hz)]
   exact⟨W,rfl,h⟩
  ·rw[decide_eq_false hz,cD,if_neg (fun q=>q.elim (fun q=>by cases q) hz),quiet_of (Mw _ _ W),bS,YK,bS,PO,bS]
   obtain⟨W1',IP,w1,w2,w3,w4⟩:=SF 0 _ _ (ZZ b ⟨dz b.clock a.time,a.time,true⟩)
   rw[w1,bS,w2,bS,kV,bS,no,bS,w3,bS,rQ,bS,decide_eq_false (by decide),cD,bS]
   exact⟨IP,rfl,w4⟩
 rw[if_neg k4,decide_eq_false k4,cD]
 by_cases k5:a.kind=5
 ·rw[if_pos k5,decide_eq_true k5,cW,wX,bS]
  by_cases hst:b.clock.kU=true
  case neg=>
   have IE:b.clock.kU=false:=by simpa using hst
   rw[IE,if_pos rfl]
   exact⟨W,rfl,h⟩
  ·rw[hst,if_neg (by simp),show(!true)=false from rfl,cD,YK,bS,PO,bS]
   obtain⟨W1',IP,w1,w2,w3,w4⟩:=SF 0 _ _ (ZZ b ⟨b.clock.shown,a.time,false⟩)
   rw[w1,bS,w2,bS,kV,bS,no,bS,w3,bS,rQ,bS,decide_eq_false (by decide),cD,bS]
   exact⟨IP,rfl,w4⟩
 rw[if_neg k5,decide_eq_false k5,cD]
 by_cases k6:a.kind=6
 ·rw[if_pos k6,decide_eq_true k6,cW,kN,bS]
  by_cases hz:b.bT<0
  ·rw[decide_eq_true hz,cW,if_pos hz]
   exact⟨W,rfl,h⟩
  ·rw[decide_eq_false hz,cD,if_neg hz,h.zf,bS,kV,bS,no,bS,n1,bS]
   obtain⟨W',q1,q2⟩:=n2.rel hd hs1 (Int.le_refl _) ht e1
   rw[q1,bS]
   exact⟨W',rfl,q2⟩
 rw[if_neg k6,decide_eq_false k6,cD,decide_eq_true (show a.kind=7 by omega),cW]
 obtain⟨W1',IP,w1,w2,w3,w4⟩:=SF 7 _ _ (aje b a.level)
 rw[oR,bS,w1,bS,bS]
 simp only
 rw[w2,bS,kV,bS,no,bS,w3,bS,rQ,bS,decide_eq_false (by decide),cD,bS]
 exact⟨IP,rfl,w4⟩
end
section
set_option maxRecDepth 100000
noncomputable def NT (a0:lJ) (a1:dR):Option Bool:=
 some (decide (a0.number=a1.jf))
theorem acy {a0:lJ} {a1:dR} {σ:Heap} {r:Bool} (h:NT a0 a1=some r):GN [(AV.agg (cz a0)),(AV.rp (bn a1))] σ=some ((AV.bool r),σ):=by
 refine uR (f:=NS) (y0:=(AV.agg (cz a0))) (y1:=(AV.rp (bn a1))) (enc:=fun r:Bool=>(AV.bool r)) (T:=NT a0 a1) rfl rfl ?_ r h
 unfold NS NT
 refine aq _ rfl<|aq _ rfl<|aq _ rfl<|aq _ rfl<|aq _ (iN _ _ _) ?_
 exact eF _ (bC _ _) ⟨rfl,rfl⟩
noncomputable def CK (a0:dR):Option Int:=
 if(!(aR a0.kind 1 9))=true then
  some 4
 else
 if(((((decide (a0.kind=8))||(decide (a0.kind=9)))&&(decide (¬(a0.jf=0))))||((decide (¬(a0.kind=3)))&&(decide (¬(a0.bT=0)))))||((!((((decide (a0.kind=8))||(decide (a0.kind=9)))||(decide (a0.kind=6)))||(decide (a0.kind=7))))&&(decide (¬(a0.level=0)))))=true then
  some 3
 else
 some 0
theorem acM {a0:dR} {σ:Heap} {r:Int} (h:CK a0=some r):Ke [(AV.agg (bn a0))] σ=some ((AV.int .i64 r),σ):=by
 refine yp (f:=N6) (y0:=(AV.agg (bn a0))) (enc:=fun r:Int=>(AV.int .i64 r)) (T:=CK a0) rfl rfl ?_ r h
 unfold N6 CK
 refine aq _ rfl<|aq _ rfl<|aq _ (jT a0.kind 1 9 σ)<|aq _ rfl ?_
 refine ji (c:=(!(aR a0.kind 1 9))) (fun c2=>?_) (fun c2=>?_)
 ·exact eF _ (bC _ _) ⟨rfl,rfl⟩
 refine aq _ rfl<|aq _ (iN _ _ _)<|eG (AV.int .i64 a0.kind) (fun hg=>rfl)<|eG (AV.bool (decide (a0.kind=9))) (fun hg=>by(try rw[hg]);exact(iN _ _ _))<|aq _ (oU _ _)<|eG (AV.int .i64 a0.kind) (fun hg=>rfl)<|eG (AV.bool (decide (a0.kind=6))) (fun hg=>by(try rw[hg]);exact(iN _ _ _))<|aq _ (oU _ _)<|eG (AV.int .i64 a0.kind) (fun hg=>rfl)<|eG (AV.bool (decide (a0.kind=7))) (fun hg=>by(try rw[hg]);exact(iN _ _ _))<|aq _ (oU _ _)<|dW (AV.int .i64 a0.jf) (fun hg=>rfl)<|dW (AV.bool (decide (¬(a0.jf=0)))) (fun hg=>by(try rw[hg]);exact(fW _ _ _))<|aq _ (rM _ _)<|eG (AV.int .i64 a0.kind) (fun hg=>rfl)<|eG (AV.bool (decide (¬(a0.kind=3)))) (fun hg=>by(try rw[hg]);exact(fW _ _ _))<|eG (AV.bool (decide (¬(a0.kind=3)))) (fun hg=>by(try rw[hg]);exact rfl)<|FP (AV.int .i64 a0.bT) (fun hg=>rfl)<|FP (AV.bool (decide (¬(a0.bT=0)))) (fun hg=>by(try rw[hg]);exact(fW _ _ _))<|eG (AV.bool ((decide (¬(a0.kind=3)))&&(decide (¬(a0.bT=0))))) (fun hg=>by(try rw[hg]);exact(rM _ _))<|aq _ (oU _ _)<|eG (AV.bool ((((decide (a0.kind=8))||(decide (a0.kind=9)))||(decide (a0.kind=6)))||(decide (a0.kind=7)))) (fun hg=>rfl)<|eG (AV.bool (!((((decide (a0.kind=8))||(decide (a0.kind=9)))||(decide (a0.kind=6)))||(decide (a0.kind=7))))) (fun hg=>by(try rw[hg]);exact rfl)<|eG (AV.bool (!((((decide (a0.kind=8))||(decide (a0.kind=9)))||(decide (a0.kind=6)))||(decide (a0.kind=7))))) (fun hg=>by(try rw[hg]);exact rfl)<|FP (AV.int .i64 a0.level) (fun hg=>rfl)<|FP (AV.bool (decide (¬(a0.level=0)))) (fun hg=>by(try rw[hg]);exact(fW _ _ _))<|eG (AV.bool ((!((((decide (a0.kind=8))||(decide (a0.kind=9)))||(decide (a0.kind=6)))||(decide (a0.kind=7))))&&(decide (¬(a0.level=0))))) (fun hg=>by(try rw[hg]);exact(rM _ _))<|aq _ (oU _ _) ?_
 refine ji (c:=(((((decide (a0.kind=8))||(decide (a0.kind=9)))&&(decide (¬(a0.jf=0))))||((decide (¬(a0.kind=3)))&&(decide (¬(a0.bT=0)))))||((!((((decide (a0.kind=8))||(decide (a0.kind=9)))||(decide (a0.kind=6)))||(decide (a0.kind=7))))&&(decide (¬(a0.level=0)))))) (fun c1=>?_) (fun c1=>?_)
 ·exact eF _ (bC _ _) ⟨rfl,rfl⟩
 exact eF _ (bC _ _) ⟨rfl,rfl⟩
noncomputable def CL (a0:gf) (a1:dR):Option Int:=
 (if(!((decide (a1.kind=8))||(decide (a1.kind=9))))=true then tq (a0.bF.length≤aW) (a0.bF.any (fun x=>(decide (x.number=a1.jf))))else some default).bind fun r1=>
 if((!((decide (a1.kind=8))||(decide (a1.kind=9))))&&(!r1))=true then
  some 8
 else
 (show Option Int from
   if a1.kind=6 then
    some 36000000
   else
   (show Option Int from
     if a1.kind=9 then
      some 1
     else
     some 65535).bind fun j3=>
   some j3).bind fun j7=>
 some (if(!(aR a1.level 0 j7))=true then 1 else 0)
theorem acN {a0:gf} {a1:dR} {σ:Heap} {r:Int} (h:CL a0 a1=some r):Kf [(AV.agg (bA a0)),(AV.agg (bn a1))] σ=some ((AV.int .i64 r),σ):=by
 refine uR (f:=Kg) (y0:=(AV.agg (bA a0))) (y1:=(AV.agg (bn a1))) (enc:=fun r:Int=>(AV.int .i64 r)) (T:=CL a0 a1) rfl rfl ?_ r h
 unfold Kg CL
 refine aq _ rfl<|aq _ rfl<|aq _ rfl<|aq _ rfl<|aq _ (iN _ _ _)<|eG (AV.rp (List.drop 1 (bn a1))) (fun hg=>rfl)<|eG (AV.int .i64 a1.kind) (fun hg=>by(try rw[hg]);exact rfl)<|eG (AV.bool (decide (a1.kind=9))) (fun hg=>by(try rw[hg]);exact(iN _ _ _))<|aq _ (oU _ _)<|aq _ rfl<|dW (sl 3 cz a0.bF) (fun hg=>rfl)<|dW (AV.fn 152 [(AV.rp (bn a1))]) (fun hg=>rfl) ?_
 refine yC (ω:=Bool) (fun r1=>(AV.bool r1)) (fun hg r1 kQ=>by(try rw[hg]);exact(quiet_of ((wC (e:=fun r:Bool=>((AV.bool r),σ)) (fun hs=>abp _ a0.bF hs _ _ (fun x=>(decide (x.number=a1.jf))) σ (fun x hx=>acy (σ:=σ) (r:=(decide (x.number=a1.jf))) rfl))) kQ))) (fun r1 kQ=>?_)
 refine dW (AV.bool (!r1)) (fun hg=>by(try rw[hg]);exact rfl)<|aq _ (rM _ _) ?_
 refine ji (c:=((!((decide (a1.kind=8))||(decide (a1.kind=9))))&&(!r1))) (fun dZ=>?_) (fun dZ=>?_)
 ·exact eF _ (bC _ _) ⟨rfl,rfl⟩
 refine aq _ rfl<|aq _ rfl<|aq _ (iN _ _ _) ?_
 refine MX (ω:=Int) (fun j7 a=>a=(([(AV.int .i64 j7)]:List AV),σ)) (
   by
    refine kZ (p:=a1.kind=6) (fun c6=>?_) (fun c6=>?_)
    ·exact cg rfl
    refine aq _ (iN _ _ _) ?_
    refine MX (ω:=Int) (fun j3 a=>a=(([(AV.int .i64 j3)]:List AV),σ)) (
      by
       refine kZ (p:=a1.kind=9) (fun c2=>?_) (fun c2=>?_)
       ·exact cg rfl
       exact cg rfl
      ) (fun j3 a ha=>?_)
    subst ha
    exact cg rfl
   ) (fun j7 a ha=>?_)
 subst ha
 refine aq _ rfl<|aq _ rfl<|aq _ (jT a1.level 0 j7 σ)<|aq _ rfl<|aq _ (uT (!(aR a1.level 0 j7)) 1 σ) ?_
 exact eF _ (bC _ _) ⟨rfl,rfl⟩
end
section
set_option maxRecDepth 100000
open HP
def gL (p:aB×ew):AV×AV:=(.agg (aN p.1),.agg (eR p.2))
abbrev gh (vb:AV) (aV:Nat) (va:AV) (d:bD):List AV:=[vb,.int .i64 d.state.number,.int .i64 d.state.mu,.bool d.state.black,sl 3 cm d.setup.aQ.aY,sl 4 bU d.setup.aQ.units,sl 3 dN d.setup.bH,sl 2 dU d.setup.lists,sl 3 cz d.setup.bF,sl 2 aN d.keys,.om aV,va]
def iL (id:Nat) (vb:AV) (aV:Nat) (va:AV) (d:bD):HP:=blk id (.box (gh vb aV va d))*(Sl (fl aK) 10 vb d.state.az*(blk aV (.map ((d.params.getD []).map gL))*Sl (fl bn) 5 va d.actions))
def iK (pd:AV) (d:bD):HP:=ex fun x:Nat×AV×Nat×AV=>pr (pd=.op x.1 0∧d.params.isSome=true)*iL x.1 x.2.1 x.2.2.1 x.2.2.2 d
section
variable {B : aJ → Prop} {aC σ : Heap} {R : HP} {pd : AV} {d : bD}
theorem Lv (H:Hs B aC σ (iK pd d*R)):∃id vb aV va,pd=.op id 0∧d.params.isSome=true∧Hs B aC σ (iL id vb aV va d*R):=by
 unfold iK at H
 rw[Mz]at H
 obtain⟨⟨id,vb,aV,va⟩,H⟩:=H
 rw[tG,mW]at H
 exact⟨id,vb,aV,va,H.1.1,H.1.2,H.2⟩
theorem C7 {id:Nat} {vb:AV} {aV:Nat} {va:AV} (hp:d.params.isSome=true) (H:Hs B aC σ (iL id vb aV va d*R)):Hs B aC σ (iK (.op id 0) d*R):=by
 unfold iK
 rw[Mz]
 refine⟨⟨id,vb,aV,va⟩,?_⟩
 rw[tG,mW]
 exact⟨⟨rfl,hp⟩,H⟩
theorem Za {vb:AV} {l:List bg} (H:Hs B aC σ (Sl (fl aK) 10 vb l*R)):RJ σ vb l:=by
 rcases uP H with⟨h1,h2,_⟩|⟨id,g,h1,K⟩
 ·exact .inl ⟨h1,h2⟩
 ·exact .inr ⟨id,g,h1,(iz K).2⟩
theorem QI (H:Hs B aC σ R) (ex:Heap):Hs bK aC (σ++ex) R:=alp (Q6 H) ex (fun _ _=>trivial)
theorem LG {W:Heap} {i:Nat} {b:aJ} (H:Hs B aC σ R) (hW:∃ex,W=σ++ex) (hi:σ.length≤i) (hb:W[i]? =some b):Hs bK aC W (blk i b*R):=by
 obtain⟨ex,rfl⟩:=hW
 have hl:=ZE H
 obtain⟨⟨bs,sv,_⟩,h,hr,h2⟩:=H
 refine⟨⟨bs++ex,by rw[sv,List.append_assoc],fun _ _=>trivial⟩,fun j=>if j=i then some b else h j,⟨fun j=>if j=i then some b else none,h,fun j=>rfl,hr,fun j=>?_,fun j=>?_⟩,fun j x hx=>?_⟩
 ·by_cases e:j=i
  ·right
   cases hj:h j with
   |none=>rfl
   |some x=>have:=(List.getElem?_eq_some_iff.1 (h2 j x hj).2).1;omega
  ·simp only[e,if_false,true_or]
 ·by_cases e:j=i<;>simp only[e,if_true,if_false,Option.or_some,Option.none_or,Option.some_or]
 ·by_cases e:j=i
  ·subst e
   simp only[if_true,Option.some.injEq]at hx
   subst hx
   exact⟨by omega,hb⟩
  ·simp only[e,if_false]at hx
   obtain⟨k1,k2⟩:=h2 j x hx
   exact⟨k1,by rw[List.getElem?_append_left (List.getElem?_eq_some_iff.1 k2).1];exact k2⟩
theorem ajX {l:List (aB×ew)} {aV:Nat} (h:σ[aV]? =some (.map (l.map gL))) (d:Nat):A.bw σ 0 (d+1) (.om aV)=some (.fm (l.map gL)):=by
 simp only[A.bw,Nat.not_lt_zero,if_false,h]
 rw[L5 d (fun p hp=>by obtain⟨q,_,rfl⟩:=List.mem_map.1 hp;exact⟨wu (zw _),wu (PU _)⟩)]
 rfl
theorem L7 {id:Nat} {vb:AV} {aV:Nat} {va:AV} (hp:d.params.isSome=true) (H:Hs B aC σ (iL id vb aV va d*R)):Lt σ Re (.op id 0) (.rp (qy d)):=by
 obtain⟨ps,hps⟩:=Option.isSome_iff_exists.1 hp
 unfold iL at H
 have H1:=hs_eq (show _=blk id (.box (gh vb aV va d))*(Sl (fl aK) 10 vb d.state.az*(blk aV (.map ((d.params.getD []).map gL))*Sl (fl bn) 5 va d.actions)*R) by ac_rfl) H
 have H2:=hs_eq (show _=Sl (fl aK) 10 vb d.state.az*(blk id (.box (gh vb aV va d))*(blk aV (.map ((d.params.getD []).map gL))*Sl (fl bn) 5 va d.actions)*R) by ac_rfl) H
 have H3:=hs_eq (show _=blk aV (.map ((d.params.getD []).map gL))*(Sl (fl aK) 10 vb d.state.az*blk id (.box (gh vb aV va d))*Sl (fl bn) 5 va d.actions*R) by ac_rfl) H
 have H4:=hs_eq (show _=Sl (fl bn) 5 va d.actions*(Sl (fl aK) 10 vb d.state.az*blk id (.box (gh vb aV va d))*blk aV (.map ((d.params.getD []).map gL))*R) by ac_rfl) H
 obtain⟨qZ,b1,b2,b3⟩:=HX H2 CY (Nat.zero_le _) 6
 obtain⟨Bc,a1,a2,a3⟩:=HX H4 VV (Nat.zero_le _) 6
 have hm:=ajX (iz H3).2 6
 rw[hps,Option.getD_some]at hm
 have hg:=(iz H1).2
 refine⟨⟨.rp [qZ,.int .i64 d.state.number,.int .i64 d.state.mu,.bool d.state.black,sl 3 cm d.setup.aQ.aY,sl 4 bU d.setup.aQ.units,sl 3 dN d.setup.bH,sl 2 dU d.setup.lists,sl 3 cz d.setup.bF,sl 2 aN d.keys,.fm (ps.map gL),Bc],?_,?_,?_⟩,rfl,fun h=>by cases h⟩
 ·simp only[A.bw,Nat.not_lt_zero,if_false,hg,List.drop_zero,gh,A.tK,b1,a1,hm,oS aeZ _ σ 0 7,oS Qf _ σ 0 7,oS VW _ σ 0 7,oS aiA _ σ 0 7,oS OL _ σ 0 7,oS zw _ σ 0 7,Option.bind_some,Option.map_some]
 ·rfl
 ·show AV.rp (A.bV DW _)=AV.rp (A.bV DW (qy d))
  congr 1
  unfold qy
  rw[hps]
  simp only[A.bV,b3,a3]
  rfl
theorem Y4 {id:Nat} {vb:AV} {aV:Nat} {va:AV} (hp:d.params.isSome=true) (H:Hs B aC σ (iL id vb aV va d*R)):rY (.op id 0) d σ:=by
 have K:∀ex,Hs bK aC (σ++ex) (iL id vb aV va d*R):=fun ex=>QI H ex
 have hg:∀ex,(σ++ex)[id]? =some (.box (gh vb aV va d)):=fun ex=>(iz (hs_eq (show _=blk id (.box (gh vb aV va d))*(Sl (fl aK) 10 vb d.state.az*(blk aV (.map ((d.params.getD []).map gL))*Sl (fl bn) 5 va d.actions)*R) by unfold iL;ac_rfl) (K ex))).2
 have hm:∀ex,(σ++ex)[aV]? =some (.map ((d.params.getD []).map gL)):=fun ex=>(iz (hs_eq (show _=blk aV (.map ((d.params.getD []).map gL))*(Sl (fl aK) 10 vb d.state.az*blk id (.box (gh vb aV va d))*Sl (fl bn) 5 va d.actions*R) by unfold iL;ac_rfl) (K ex))).2
 refine⟨rfl,⟨.op id 4,.op id 6,by simp [A.aA],by simp [A.aA],fun ex=>?_⟩,⟨.op id 10,.om aV,by simp [A.aA],fun ex=>⟨?_,fun k=>?_⟩⟩,fun ex=>L7 hp (K ex)⟩
 ·simp only[A.deref,hg ex];rfl
 ·simp only[A.deref,hg ex];rfl
 ·simp only[A.look,show A.jt (.s [0,2]) (.agg (aN k))=true from rfl,cond_true,A.entries,hm ex,Option.bind_some,show A.find (.s [0,2]) (.agg (aN k)) ((d.params.getD []).map gL)=some ((cH k (d.params.getD [])).map fun p=>AV.agg (eR p))from BG (eK:=fun k=>AV.agg (aN k)) (eV:=fun p=>AV.agg (eR p)) qo k _,Option.map_some]
  unfold jJ
  cases cH k (d.params.getD [])<;>rfl
end
noncomputable def FB (a:dR):Int:=(CK a).getD 0
noncomputable def Gi (s:gf) (a:dR):Int:=(CL s a).getD 0
theorem XK (a:dR):CK a=some (FB a):=by
 unfold FB CK
 split
 ·rfl
 split<;>rfl
theorem X9 {s:gf} (hl:s.bF.length≤aW) (a:dR):CL s a=some (Gi s a):=by
 unfold Gi CL
 rw[uX hl]
 have:∀(c:Bool) (x y:Bool),∃r,(if c=true then some x else some y:Option Bool)=some r:=by intro c x y;cases c<;>exact⟨_,rfl⟩
 obtain⟨r,hr⟩:=this (!((decide (a.kind=8))||(decide (a.kind=9)))) (s.bF.any (fun x=>(decide (x.number=a.jf)))) default
 rw[hr,Option.bind_some]
 split
 ·rfl
 ·split
  ·rfl
  ·split<;>rfl
theorem Zj {s:gf} (hl:s.bF.length≤aW) {a:dR} (h1:FB a=0) (h2:Gi s a=0):(1≤a.kind∧a.kind≤9)∧(a.kind≤7→∃p∈s.bF,p.number=a.jf)∧(a.kind≠6→0≤a.level∧a.level≤65535)∧0≤a.level∧a.level≤36000000:=by
 have e1:=XK a
 have e2:=X9 hl a
 rw[h1]at e1
 rw[h2]at e2
 unfold CK at e1
 split at e1
 ·cases e1
 rename_i k1
 have hk:1≤a.kind∧a.kind≤9:=qD (by simpa using k1)
 unfold CL at e2
 rw[uX hl]at e2
 have anP:a.kind≤7→∃p∈s.bF,p.number=a.jf:=by
  intro h
  rw[decide_eq_false (show ¬a.kind=8 by omega),decide_eq_false (show ¬a.kind=9 by omega)]at e2
  simp only[Bool.or_false,Bool.not_false,if_true,Option.bind_some,Bool.true_and]at e2
  by_cases q:s.bF.any (fun x=>decide (x.number=a.jf))=true
  ·obtain⟨p,hp,hp2⟩:=List.any_eq_true.1 q
   exact⟨p,hp,by simpa using hp2⟩
  ·rw[if_pos (by simpa using q)]at e2
   cases e2
 refine⟨hk,anP,?_⟩
 have:∀(c:Bool) (x y:Bool),∃r,(if c=true then some x else some y:Option Bool)=some r:=by intro c x y;cases c<;>exact⟨_,rfl⟩
 obtain⟨r,hr⟩:=this (!((decide (a.kind=8))||(decide (a.kind=9)))) (s.bF.any (fun x=>(decide (x.number=a.jf)))) default
 rw[hr,Option.bind_some]at e2
 split at e2
 ·cases e2
 by_cases k6:a.kind=6
 ·rw[if_pos k6]at e2
  simp only[Option.bind_some]at e2
  by_cases q:aR a.level 0 36000000=true
  ·have:=qD q
   exact⟨fun h=>absurd k6 h,this.1,this.2⟩
  ·rw[if_pos (by simpa using q)]at e2;cases e2
 ·rw[if_neg k6]at e2
  by_cases k9:a.kind=9
  ·rw[if_pos k9]at e2
   simp only[Option.bind_some]at e2
   by_cases q:aR a.level 0 1=true
   ·have:=qD q
    exact⟨fun _=>⟨this.1,by omega⟩,this.1,by omega⟩
   ·rw[if_pos (by simpa using q)]at e2;cases e2
  ·rw[if_neg k9]at e2
   simp only[Option.bind_some]at e2
   by_cases q:aR a.level 0 65535=true
   ·have:=qD q
    exact⟨fun _=>⟨this.1,by omega⟩,this.1,by omega⟩
   ·rw[if_pos (by simpa using q)]at e2;cases e2
noncomputable def Gn (d:bD) (a:dR):Int:=
 ([(([(if decide ((d.actions.length:Int)=5000)=true then 2 else 0),FB a,(if(!(aR a.time 0 36000000))=true then 1 else 0),(if decide (a.time<qC d.actions)=true then 7 else 0)]:List Int).find? fun n=>decide (¬n=0)).getD 0,Gi d.setup a].find? fun n=>decide (¬n=0)).getD 0
noncomputable def lB (d:bD) (a:dR):bD×Int:=
 if ¬(Gn d a=0)then(d,Gn d a)
 else if ¬((kW d (nB d d.state a.time) a).2=0)then(d,(kW d (nB d d.state a.time) a).2)
 else({d with state:=(kW d (nB d d.state a.time) a).1,actions:=d.actions++[a]},0)
theorem ajR {a b:Int} (h:(([a,b]:List Int).find? fun n=>decide (¬n=0)).getD 0=0):a=0∧b=0:=by
 by_cases ha:a=0
 ·by_cases hb:b=0
  ·exact⟨ha,hb⟩
  ·simp [List.find?,ha,hb]at h
 ·simp [List.find?,ha]at h
theorem ajS {a b c e:Int} (h:(([a,b,c,e]:List Int).find? fun n=>decide (¬n=0)).getD 0=0):a=0∧b=0∧c=0∧e=0:=by
 by_cases ha:a=0
 ·by_cases hb:b=0
  ·by_cases hc:c=0
   ·by_cases he:e=0
    ·exact⟨ha,hb,hc,he⟩
    ·simp [List.find?,ha,hb,hc,he]at h
   ·simp [List.find?,ha,hb,hc]at h
  ·simp [List.find?,ha,hb]at h
 ·simp [List.find?,ha]at h
theorem Zr {d:bD} {a:dR} (h:Gn d a=0):¬((d.actions.length:Int)=5000)∧FB a=0∧(0≤a.time∧a.time≤36000000)∧qC d.actions≤a.time∧Gi d.setup a=0:=by
 obtain⟨h1,h2⟩:=ajR h
 obtain⟨k1,k2,k3,k4⟩:=ajS h1
 refine⟨fun q=>?_,k2,?_,?_,h2⟩
 ·rw[decide_eq_true q,if_pos rfl]at k1;cases k1
 ·by_cases q:aR a.time 0 36000000=true
  ·exact qD q
  ·rw[if_pos (by simpa using q)]at k3;cases k3
 ·by_cases q:a.time<qC d.actions
  ·rw[decide_eq_true q,if_pos rfl]at k4;cases k4
  ·omega
structure vn (d : bD) : Prop where
 di:sQ d
 si:jk (qC d.actions) d.state
 SC:d.state.az.map (·.number)=d.setup.bF.map (·.number)
 len:d.actions.length≤5000
 par:d.params.isSome=true
theorem vn.pl {d:bD} (h:vn d):d.setup.bF.length≤aW:=by
 have e:=congrArg List.length h.SC
 simp only[List.length_map]at e
 have:=h.si.len
 unfold aW;omega
theorem LM {l:List bg} {i:Nat} {b b':bg} (h:l[i]? =some b) (e:b'.number=b.number):(l.set i b').map (·.number)=l.map (·.number):=by
 rw[List.map_set]
 refine List.ext_getElem? fun j=>?_
 rw[List.getElem?_set]
 split
 ·rename_i q
  have hl:=(List.getElem?_eq_some_iff.1 h).1
  rw[if_pos (by simpa [←q]using hl),List.getElem?_map,←q,h,Option.map_some,e]
 ·rfl
theorem ahw {d:bD} {t:Int} {s s':bX} (h:BV d t s=some s'):s'.az.map (·.number)=s.az.map (·.number):=by
 unfold BV at h
 split at h
 ·cases h
 obtain⟨b,hb,h⟩:=Option.bind_eq_some_iff.1 h
 obtain⟨x,hx,rfl⟩:=Option.map_eq_some_iff.1 h
 exact LM hb rfl
theorem Vn {d:bD} {t:Int}:∀(n:Nat) (s:bX),(zB d t n s).az.map (·.number)=s.az.map (·.number)
 |0,s=>rfl
 |n+1,s=>by
  unfold zB
  cases h:BV d t s with
  |none=>rfl
  |some s'=>simp only;rw[Vn n s',ahw h]
theorem VK (d:bD) (s:bX) (t:Int):(nB d s t).az.map (·.number)=s.az.map (·.number):=Vn _ s
theorem ag5:oN ⟨1,[]⟩=0:=by decide
theorem ajr {d:bD} (hI:sQ d) {s:bX} {a:dR} (hs:jk a.time s) (hk:1≤a.kind∧a.kind≤9) (hl:a.kind≠6→0≤a.level∧a.level≤65535) (uz:0≤a.level∧a.level≤36000000):jk a.time (kW d s a).1∧(kW d s a).1.az.map (·.number)=s.az.map (·.number):=by
 have ht:=hs.n
 unfold kW
 by_cases k8:a.kind=8
 ·rw[if_pos k8];exact⟨⟨hs.n,hs.len,hs.bs,hl (by omega)⟩,rfl⟩
 rw[if_neg k8]
 by_cases k9:a.kind=9
 ·rw[if_pos k9];exact⟨⟨hs.n,hs.len,hs.bs,hs.mu⟩,rfl⟩
 rw[if_neg k9]
 generalize (kq (fun b:bg=>decide (b.number=a.jf)) s.az).toNat=i
 cases hb:s.az[i]? with
 |none=>exact⟨hs,rfl⟩
 |some b=>
  simp only
  have vI:=List.mem_of_getElem? hb
  have hB:=hs.bs b vI
  have fR:=Dd hB.pS (Int.le_refl _) ht.2
  have put:∀b':bg,vk a.time b'→b'.number=b.number→jk a.time (Ge s i b')∧(Ge s i b').az.map (·.number)=s.az.map (·.number):=fun b' h1 h2=>⟨LN hs i h1 _,LM hb h2⟩
  have go:∀to:Int,0≤to→jk a.time (vH d s i b to a.time).1∧(vH d s i b to a.time).1.az.map (·.number)=s.az.map (·.number):=by
   intro to h0
   unfold vH
   cases hx:b.bE[to.toNat]? with
   |none=>exact⟨hs,rfl⟩
   |some x=>
    have e:to=((to.toNat:Nat):Int):=by omega
    have:=YG hI (Qo hs (IntKind.i64.wrap (s.number+1))) (Int.le_refl _) ht.2 vI hx
    rw[←e]at this
    exact⟨LN hs i this _,LM hb rfl⟩
  have apN:=hB.bT
  unfold MN
  split
  ·split
   ·exact⟨hs,rfl⟩
   ·exact go _ (by omega)
  split
  ·split
   ·exact⟨hs,rfl⟩
   ·exact go _ (by omega)
  split
  ·split
   ·exact⟨hs,rfl⟩
   ·exact go _ (by omega)
  split
  ·split
   ·exact⟨hs,rfl⟩
   ·refine put _ ⟨hB.qV,hB.dw,hB.can,hB.runs,hB.jg,⟨fR.2.1,fR.2.2,Int.le_refl _⟩,hB.bT,?_⟩ rfl
    rcases hB.Cs with h|⟨h1,h2,h3⟩
    ·exact .inl h
    ·exact .inr ⟨h1,h2,h3⟩
  split
  ·split
   ·exact⟨hs,rfl⟩
   ·rename_i hst
    have IE:b.clock.kU=true:=by simpa using hst
    obtain⟨c1,c2,c3⟩:=hB.pS
    refine put _ ⟨hB.qV,hB.dw,hB.can,hB.runs,hB.jg,⟨c1,by show b.clock.shown≤a.time;omega,Int.le_refl _⟩,hB.bT,?_⟩ rfl
    rcases hB.Cs with h|⟨h1,h2,h3⟩
    ·exact .inl h
    ·refine .inr ⟨h1,?_,h3⟩
     rw[fR.1,if_pos IE]at h2
     show IntKind.i64.wrap (IntKind.i64.wrap (b.clock.shown+a.time) -a.time)≤b.follow
     rw[show IntKind.i64.wrap (b.clock.shown+a.time)=b.clock.shown+a.time from wrap64 (by unfold aP;omega),wrap64 (by unfold aP;omega)]
     omega
  split
  ·split
   ·exact⟨hs,rfl⟩
   ·refine⟨LN hs i (b:=sZ d {s with number:=IntKind.i64.wrap (s.number+1)} b a) ⟨hB.qV,hB.dw,XB (Ln (VN hB)),fun k r hkr=>?_,hB.jg,⟨fR.2.1,fR.2.2,Int.le_refl _⟩,⟨by show(-1:Int)≤-1;omega,by show(-1:Int)<_;omega⟩,.inl (by show(-1:Int)<0;decide)⟩ _,LM hb rfl⟩
    have hm:(k,r)∈HL d {s with number:=IntKind.i64.wrap (s.number+1)} b a:=(PM _).mem_iff.1 hkr
    obtain⟨p,hp,q⟩:=List.mem_filterMap.1 hm
    obtain⟨r',hr',q⟩:=Option.map_eq_some_iff.1 q
    injection q with q1 q2
    subst q2
    unfold yB at hr'
    split at hr'
    ·cases hr'
    ·rename_i hq
     injection hr' with hr'
     subst hr'
     have lS:(dJ b p.1 (dz b.clock a.time)).2=true:=by
      cases h:(dJ b p.1 (dz b.clock a.time)).2
      ·exact absurd (.inl h) hq
      ·rfl
     have hfo:=zC (hB.ok (Int.le_refl _) ht.2) lS
     exact L2 (FO hfo _) (by simp) ⟨fR.2.1,by show dz b.clock a.time≤_;omega⟩ (by simp) uz ag5
  ·exact put _ ⟨hB.qV,hB.dw,hB.can,hB.runs,hl (by assumption),hB.pS,hB.bT,hB.Cs⟩ rfl
theorem Q2 {d:bD} (h:vn d) (a:dR):vn (lB d a).1:=by
 unfold lB
 split
 ·exact h
 rename_i h0
 have h0:Gn d a=0:=by simpa using h0
 obtain⟨k1,k2,k3,k4,k5⟩:=Zr h0
 obtain⟨a1,a2,a3,a4⟩:=Zj h.pl k2 k5
 split
 ·exact h
 ·have hA:=PI h.di h.si k4 k3.2
  obtain⟨b1,b2⟩:=ajr h.di hA a1 a3 a4
  refine⟨⟨h.di.pre,h.di.lev,h.di.par⟩,?_,?_,?_,h.par⟩
  ·have:qC (d.actions++[a])=a.time:=by unfold qC;simp
   show jk (qC (d.actions++[a])) _
   rw[this];exact b1
  ·show(kW d (nB d d.state a.time) a).1.az.map (·.number)=_
   rw[b2,VK];exact h.SC
  ·show(d.actions++[a]).length≤5000
   rw[List.length_append,List.length_singleton]
   exact Nat.lt_of_le_of_ne h.len (fun q=>k1 (by rw[q];rfl))
end
section
set_option maxRecDepth 100000
open HP
section
variable {aC σ : Heap} {R : HP} {pd : AV} {d : bD}
theorem aoh (a b c e:Int):((((A.cell (.int .i64 a)).bind fun v=>some [v]).bind fun gM=>(A.splice 0 gM [ah,ah,ah,ah]).bind fun gO=>((A.cell (.int .i64 b)).bind fun v=>some [v]).bind fun kC=>(A.splice 1 kC gO).bind fun fZ=>((A.cell (.int .i64 c)).bind fun v=>some [v]).bind fun eu=>(A.splice 2 eu fZ).bind fun gu=>((A.cell (.int .i64 e)).bind fun v=>some [v]).bind fun gP=>(A.splice 3 gP gu).bind fun fM=>some fM).bind fun cs=>some (AV.sl 1 (chunks 1 4 cs)))=some (sl 1 rS [a,b,c,e]):=rfl
theorem amw (a b:Int):((((A.cell (.int .i64 a)).bind fun v=>some [v]).bind fun gZ=>(A.splice 0 gZ [ah,ah]).bind fun hG=>((A.cell (.int .i64 b)).bind fun v=>some [v]).bind fun fI=>(A.splice 1 fI hG).bind fun lu=>some lu).bind fun cs=>some (AV.sl 1 (chunks 1 2 cs)))=some (sl 1 rS [a,b]):=rfl
theorem agt (a:dR):(((A.cells 5 (.agg (bn a))).bind fun AJ=>(A.splice 0 AJ [ah,ah,ah,ah,ah]).bind fun nQ=>some nQ).bind fun cs=>some (AV.sl 5 (chunks 5 1 cs)))=some (.sl 5 [bn a]):=rfl
theorem QW {r:AV→AV→Heap→Option (AV×Heap)} {x y v:AV} {σ σ':Heap} (e:r x y σ=some (v,σ')):A.wrap false [] .k (A.cQ r) [x,y] σ=some (v,σ'):=by
 have:A.cQ r [x,y] σ=some (v,σ'):=e
 simp only[A.wrap,Bool.false_and,cond_false,A.bV,this,Option.map_some,iM]
theorem Mk {α:Type} {c:α→List AV} {sz:Nat} {B:aJ→Prop} {v:AV} {l:List α} (H:Hs B aC σ (Sl (fl c) sz v l*R)):A.cell v=some v:=by
 rcases uP H with⟨_,rfl|rfl,_⟩|⟨id,g,rfl,_⟩<;>rfl
theorem Zh {id:Nat} {vb:AV} {aV:Nat} {va:AV} (hp:d.params.isSome=true) (hl:d.actions.length≤aW) (H:Hs bK aC σ (iL id vb aV va d*R)):xW [.op id 0] σ=some (.int .i64 (qC d.actions),σ):=
 Ar (cO:=[.op id 0]) (ts:=[.rp (qy d)]) ⟨L7 hp H,trivial⟩ (fun σ=>Zi d hl σ) rfl
theorem alO {id:Nat} {vb:AV} {aV:Nat} {va:AV} (hp:d.params.isSome=true) (hl:d.actions.length≤aW) (H:Hs bK aC σ (iL id vb aV va d*R)) (t:Int):GW [.op id 0,.int .i64 t] σ=some (.int .i64 (BY d.actions t),σ):=
 Ar (cO:=[.op id 0,.int .i64 t]) (ts:=[.rp (qy d),.int .i64 t]) ⟨L7 hp H,Q7 t,trivial⟩ (fun σ=>alP d hl t σ) rfl
theorem Mj {id:Nat} {vb:AV} {aV:Nat} {va:AV} {B:aJ→Prop} (H:Hs B aC σ (iL id vb aV va d*R)):σ[id]? =some (.box (gh vb aV va d)):=
 (iz (hs_eq (show _=blk id (.box (gh vb aV va d))*(Sl (fl aK) 10 vb d.state.az*(blk aV (.map ((d.params.getD []).map gL))*Sl (fl bn) 5 va d.actions)*R) by unfold iL;ac_rfl) H)).2
theorem QY {s:bX} {v:AV} {H:Heap} (h:FR σ s v H):(∃ex,H=σ++ex)∧A.storeAt (.op H.length 0) (bk v s) (H++[aJ.box td])=some (H++[aJ.box (bk v s)])∧(H++[aJ.box (bk v s)])[H.length]? =some (.box (bk v s))∧((s.az=[]∧v=.ez)∨∃g,v=.os (σ.length+1) g 10 0 s.az.length∧SA σ (H++[aJ.box (bk v s)]) H.length (σ.length+1) g s):=by
 obtain⟨⟨ex,hex⟩,_⟩:=h.ex
 have hlen:σ.length≤H.length:=by rw[hex];simp
 have G0:(H++[aJ.box td])[H.length]? =some (.box td):=by rw[List.getElem?_append_right (Nat.le_refl _),Nat.sub_self];rfl
 have G1:(H++[aJ.box (bk v s)])[H.length]? =some (.box (bk v s)):=by rw[List.getElem?_append_right (Nat.le_refl _),Nat.sub_self];rfl
 refine⟨⟨ex,hex⟩,?_,G1,?_⟩
 ·simp only[A.storeAt,G0]
  rw[show A.splice 0 (bk v s) td=some (bk v s)from rfl,Option.map_some,List.set_append_right _ _ (Nat.le_refl _),Nat.sub_self]
  rfl
 ·rcases h with⟨h1,h2,h3⟩|⟨g,h1,h2⟩
  ·exact .inl ⟨h1,h2⟩
  ·refine .inr ⟨g,h1,⟨by rw[←h1];exact G1,?_,⟨ex++[aJ.box (bk v s)],by rw[hex,List.append_assoc]⟩,hlen,Nat.le_succ _⟩⟩
   have hl:σ.length+1<H.length:=by rw[h2];simp
   rw[List.getElem?_append_left hl,h2]
   exact Mu σ g s
theorem ajq {d:bD} {pd:AV} (hI:sQ d) {σ H:Heap} (hd:rY pd d σ) {s:bX} {v:AV} (h:FR σ s v H) {a:dR} (hs:jk a.time s) (hk:1≤a.kind∧a.kind≤9) (hp:a.kind≤7→∃b∈s.az,b.number=a.jf):
  ∃W',GX [pd,.op H.length 0,.agg (bn a)] (H++[aJ.box (bk v s)])=some (.int .i64 (kW d s a).2,W')∧(∃ex,W'=σ++ex)∧W'[H.length]? =some (.box (bk v (kW d s a).1))∧((((kW d s a).1).az=[]∧v=.ez)∨∃g,v=.os (σ.length+1) g 10 0 (kW d s a).1.az.length∧W'[σ.length+1]? =some (.arr g 10 ((kW d s a).1.az.map aK))):=by
 obtain⟨hex,_,G1,hc⟩:=QY h
 have IA:∃ex,H++[aJ.box (bk v s)]=σ++ex:=by obtain⟨ex,rfl⟩:=hex;exact⟨_,List.append_assoc _ _ _⟩
 have hlen:σ.length≤H.length:=by obtain⟨ex,rfl⟩:=hex;simp
 by_cases k7:a.kind≤7
 ·rcases hc with⟨h1,h2⟩|⟨g,h1,xD⟩
  ·obtain⟨b,hb,_⟩:=hp k7
   rw[h1]at hb;cases hb
  ·obtain⟨W',w1,w2⟩:=alZ hI hd xD hs ⟨hk.1,k7⟩ (hp k7)
   have hle:(kW d s a).1.az.length=s.az.length:=by
    have:=w2.b1
    have e:∀l1 l2:List bg,l1.map (·.number)=l2.map (·.number)→l1.length=l2.length:=fun l1 l2 h=>by simpa using congrArg List.length h
    unfold kW
    rw[if_neg (by omega),if_neg (by omega)]
    generalize (kq (fun b:bg=>decide (b.number=a.jf)) s.az).toNat=i
    cases hb:s.az[i]? with
    |none=>rfl
    |some b=>
     simp only
     have hgo:∀to,(vH d s i b to a.time).1.az.length=s.az.length:=by
      intro to;unfold vH;cases b.bE[to.toNat]? <;>simp
     unfold MN
     repeat (first|rfl|exact hgo _|exact List.length_set|split)
   refine⟨W',w1,w2.ex,?_,.inr ⟨g,by rw[hle];exact h1,w2.b2⟩⟩
   rw[w2.b1,hle,←h1]
 ·have zf:((A.deref (.op H.length 1) (H++[aJ.box (bk v s)])).bind fun c=>A.aj 0 c)=some (.int .i64 s.number):=by simp only[A.deref,G1];rfl
  have JD:∀(k:Nat) (W:Heap),A.deref (.rp ((bn a).drop k)) W=some ((bn a).drop k):=fun k W=>rfl
  obtain⟨W0,Cw⟩:∃W0,W0=H++[aJ.box (bk v s)]:=⟨_,rfl⟩
  have hHl:H.length<W0.length:=by rw[Cw];simp
  rw[←Cw]at zf G1 IA ⊢
  have st:∀(s1 s2:bX) (o:Nat) (new:List AV),A.splice o new (bk v s1)=some (bk v s2)→A.storeAt (.op H.length o) new (W0.set H.length (.box (bk v s1)))=some (W0.set H.length (.box (bk v s2))):=by
   intro s1 s2 o new hsp
   simp only[A.storeAt,List.getElem?_set_self hHl,hsp,Option.map_some,List.set_set]
  have st0:A.storeAt (.op H.length 1) [.int .i64 (IntKind.i64.wrap (s.number+1))] W0=some (W0.set H.length (.box (bk v {s with number:=IntKind.i64.wrap (s.number+1)}))):=by
   simp only[A.storeAt,G1];rfl
  have fin:∀s':bX,s'.az=s.az→(∃ex,W0.set H.length (.box (bk v s'))=σ++ex)∧(W0.set H.length (.box (bk v s')))[H.length]? =some (.box (bk v s'))∧((s'.az=[]∧v=.ez)∨∃g,v=.os (σ.length+1) g 10 0 s'.az.length∧(W0.set H.length (.box (bk v s')))[σ.length+1]? =some (.arr g 10 (s'.az.map aK))):=by
   intro s' hs'
   refine⟨Q4 IA hlen _,List.getElem?_set_self hHl,?_⟩
   rcases hc with⟨h1,h2⟩|⟨g,h1,xD⟩
   ·exact .inl ⟨by rw[hs'];exact h1,h2⟩
   ·rw[←Cw]at xD
    refine .inr ⟨g,by rw[hs'];exact h1,?_⟩
    rw[List.getElem?_set_ne xD.ne,hs']
    exact xD.b2
  have run:∃W',ET pd (.op H.length 0) (.agg (bn a)) W0=some (.int .i64 (kW d s a).2,W')∧W'=W0.set H.length (.box (bk v (kW d s a).1))∧(kW d s a).1.az=s.az:=by
   unfold ET kW
   rw[show((A.cells 5 (.agg (bn a))).bind fun cs=>some (AV.rp cs))=some (.rp (bn a))from rfl,bS]
   simp only[lG,bS,JD,show A.aj 0 ((bn a).drop 1)=some (.int .i64 a.kind)from rfl,show A.aj 0 ((bn a).drop 4)=some (.int .i64 a.level)from rfl,iN,show A.aL (.op H.length 0)=some (.op H.length 0)from rfl,show ∀o,A.aA o (.op H.length 0)=some (.op H.length o)from fun o=>by simp [A.aA],zf,kV]
   by_cases k8:a.kind=8
   ·rw[if_pos k8,decide_eq_true k8,cW,oR,bS,st0,bS,oR,bS,st _ {s with number:=IntKind.i64.wrap (s.number+1),mu:=a.level} 2 _ rfl,bS]
    exact⟨_,rfl,rfl,rfl⟩
   ·have k9:a.kind=9:=by omega
    rw[if_neg k8,decide_eq_false k8,cD,if_pos k9,decide_eq_true k9,cW,oR,bS,st0,bS,show((A.cell (AV.bool (decide (a.level=1)))).bind fun v=>some [v])=some [.bool (decide (a.level=1))]from rfl,bS,st _ {s with number:=IntKind.i64.wrap (s.number+1),black:=decide (a.level=1)} 3 _ rfl,bS]
    exact⟨_,rfl,rfl,rfl⟩
  obtain⟨W',e1,e2,e3⟩:=run
  subst e2
  exact⟨_,Ri (iM _) e1,fin _ e3⟩
theorem aaK (hK:vn d) (a:dR) (H:Hs bK aC σ (iK pd d*R)):∃σ',xY [pd,.agg (bn a)] σ=some (.int .i64 (lB d a).2,σ')∧Hs bK aC σ' (iK pd (lB d a).1*R):=by
 suffices h:∃σ',Ks pd (.agg (bn a)) σ=some (.int .i64 (lB d a).2,σ')∧Hs bK aC σ' (iK pd (lB d a).1*R) by
  obtain⟨σ',e,h⟩:=h
  exact⟨σ',QW e,h⟩
 obtain⟨id,vb,aV,va,rfl,hp,H⟩:=Lv H
 have mK:=Mj H
 have aaX:=(List.getElem?_eq_some_iff.1 mK).1
 have Gw:d.actions.length≤aW:=by have:=hK.len;unfold aW;omega
 have pW:=hs_eq (show _=Sl (fl bn) 5 va d.actions*(Sl (fl aK) 10 vb d.state.az*blk id (.box (gh vb aV va d))*blk aV (.map ((d.params.getD []).map gL))*R) by unfold iL;ac_rfl) H
 have Ni:=hs_eq (show _=Sl (fl aK) 10 vb d.state.az*(blk id (.box (gh vb aV va d))*(blk aV (.map ((d.params.getD []).map gL))*Sl (fl bn) 5 va d.actions)*R) by unfold iL;ac_rfl) H
 have ca:=Mk pW
 have cb:=Mk Ni
 unfold Ks
 rw[show A.cells 5 (.agg (bn a))=some (bn a)from rfl,bS]
 simp only[show A.aL (.op id 0)=some (.op id 0)from rfl,bS,show ∀o,A.aA o (.op id 0)=some (.op id o)from fun o=>by simp [A.aA]]
 rw[show((A.deref (.op id 11) σ).bind fun c=>A.aj 0 c)=some va from by simp only[A.deref,mK];exact ca,bS,ZX pW,bS,iN,bS,quiet_of (uT _ _ σ),bS,Fb,bS,quiet_of (acM (XK a)),bS,aex,bS,quiet_of (XU _ σ),bS,wX,bS,quiet_of (uT _ _ σ),bS,bS,quiet_of (Zh hp Gw H),bS,kN,bS,quiet_of (uT _ _ σ),bS,aoh,bS,quiet_of (C4 _ (by show 4≤aW;decide) σ),bS]
 rw[show((A.deref (.op id 4) σ).bind fun c=>A.ay 0 5 c)=some (.agg (bA d.setup))from by simp only[A.deref,mK];rfl,bS,bS,quiet_of (acN (X9 hK.pl a)),bS,amw,bS,quiet_of (C4 _ (by show 2≤aW;decide) σ),bS]
 have hE:(([(([(if decide ((d.actions.length:Int)=5000)=true then 2 else 0),FB a,(if(!(aR a.time 0 36000000))=true then 1 else 0),(if decide (a.time<qC d.actions)=true then 7 else 0)]:List Int).find? fun n=>decide (¬n=0)).getD 0,Gi d.setup a]:List Int).find? fun n=>decide (¬n=0)).getD 0=Gn d a:=rfl
 rw[hE,fW,bS]
 unfold lB
 by_cases h0:Gn d a=0
 case neg=>
  rw[decide_eq_true h0,cW,if_pos h0]
  exact⟨σ,rfl,C7 hp H⟩
 rw[decide_eq_false (fun q=>q h0),cD,if_neg (fun q=>q h0),bS]
 obtain⟨k1,k2,k3,k4,k5⟩:=Zr h0
 obtain⟨a1,a2,a3,a4⟩:=Zj hK.pl k2 k5
 have hrd:=Y4 hp H
 obtain⟨v,W,e1,e2⟩:=Yv hK.di hrd k3.2 hK.si k4 ⟨.op id 0,by simp [A.aA],by simp only[A.deref,mK];rfl⟩ (Za Ni)
 have I3:=PI hK.di hK.si k4 k3.2
 obtain⟨s1,hs1⟩:∃s1,s1=nB d d.state a.time:=⟨_,rfl⟩
 have hpl:a.kind≤7→∃b∈s1.az,b.number=a.jf:=by
  intro h
  obtain⟨p,hp1,hp2⟩:=a2 h
  have hn:s1.az.map (·.number)=d.setup.bF.map (·.number):=by rw[hs1,VK];exact hK.SC
  have:a.jf∈s1.az.map (·.number):=by rw[hn,←hp2];exact List.mem_map.2 ⟨p,hp1,rfl⟩
  obtain⟨b,hb,yV⟩:=List.mem_map.1 this
  exact⟨b,hb,yV⟩
 rw[←hs1]at e1 e2 I3 ⊢
 rw[e1,bS]
 simp only
 rw[show A.cells 4 (.agg (bk v s1))=some (bk v s1)from rfl,bS]
 obtain⟨x1,x2,x3,x4⟩:=QY e2
 rw[x2,bS,bS]
 obtain⟨W',w1,w2,w3,w4⟩:=ajq hK.di hrd e2 I3 a1 hpl
 rw[w1,bS]
 simp only
 rw[fW,bS]
 by_cases hr:(kW d s1 a).2=0
 case neg=>
  rw[decide_eq_true hr,cW,if_pos hr]
  obtain⟨ex,rfl⟩:=w2
  exact⟨_,rfl,C7 hp (QI H ex)⟩
 rw[decide_eq_false (fun q=>q hr),cD,if_neg (fun q=>q hr)]
 obtain⟨s2,hs2⟩:∃s2,s2=(kW d s1 a).1:=⟨_,rfl⟩
 rw[←hs2]at w3 w4 ⊢
 rw[show((A.deref (.op W.length 0) W').bind fun c=>A.ay 0 4 c)=some (.agg (bk v s2))from by simp only[A.deref,w3];rfl,bS,show A.cells 4 (.agg (bk v s2))=some (bk v s2)from rfl,bS]
 -- the new boards are the desk's own
 have K:Hs bK aC W' (blk id (.box (gh vb aV va d))*(Sl (fl aK) 10 v s2.az*(blk aV (.map ((d.params.getD []).map gL))*(Sl (fl bn) 5 va d.actions*R)))):=by
  obtain⟨ex,hex⟩:=w2
  have H':Hs bK aC W' (blk id (.box (gh vb aV va d))*(blk aV (.map ((d.params.getD []).map gL))*(Sl (fl bn) 5 va d.actions*R))):=by
   rw[hex]
   exact QI (wm (hs_eq (show _=Sl (fl aK) 10 vb d.state.az*(blk id (.box (gh vb aV va d))*(blk aV (.map ((d.params.getD []).map gL))*(Sl (fl bn) 5 va d.actions*R))) by unfold iL;ac_rfl) H)) ex
  rcases w4 with⟨q1,q2⟩|⟨g,q1,q2⟩
  ·rw[q1,q2]
   exact hs_eq (show _=_ by ac_rfl) (qY (v:=.ez) (E:=fl aK) (sz:=10) H' (.inr rfl))
  ·rw[q1]
   have H'':=wm (hs_eq (show _=Sl (fl aK) 10 vb d.state.az*(blk id (.box (gh vb aV va d))*(blk aV (.map ((d.params.getD []).map gL))*(Sl (fl bn) 5 va d.actions*R))) by unfold iL;ac_rfl) H)
   have A1:=LG H'' ⟨ex,hex⟩ (Nat.le_succ _) q2
   exact hs_eq (show _=_ by ac_rfl) (Mt (n:=s2.az.length) A1)
 have K1:=zF (b':=.box (gh v aV va {d with state:=s2})) K trivial
 have anR:=(iz K).2
 rw[show A.storeAt (.op id 0) (bk v s2) W'=some (W'.set id (.box (gh v aV va {d with state:=s2})))from by simp only[A.storeAt,anR];rfl,bS]
 have anT:=(iz K1).2
 rw[show((A.deref (.op id 11) (W'.set id (.box (gh v aV va {d with state:=s2})))).bind fun c=>A.aj 0 c)=some va from by simp only[A.deref,anT];exact ca,bS,bS,agt,bS]
 have K2:=hs_eq (show _=Sl (fl bn) 5 va d.actions*(els (fl bn) [bn a] [a]*(blk id (.box (gh v aV va {d with state:=s2}))*(Sl (fl aK) 10 v s2.az*(blk aV (.map ((d.params.getD []).map gL))*R)))) by
  rw[show els (fl bn) [bn a] [a]=pr (bn a=bn a)*emp from rfl];ac_rfl) (mW.2 ⟨(rfl:bn a=bn a),hs_eq (ym _).symm K1⟩)
 obtain⟨Bc,W2,f1,f2⟩:=HW (most:=140737488355328 / 40) K2 (by have:=hK.len;simp;omega) (fun _ _ _ _=>trivial)
 rw[f1,bS]
 simp only
 have ca':=Mk f2
 have K3:=hs_eq (show _=blk id (.box (gh v aV va {d with state:=s2}))*(Sl (fl bn) 5 Bc (d.actions++[a])*(Sl (fl aK) 10 v s2.az*(blk aV (.map ((d.params.getD []).map gL))*R))) by ac_rfl) f2
 have anU:=(iz K3).2
 have K4:=zF (b':=.box (gh v aV Bc {d with state:=s2,actions:=d.actions++[a]})) K3 trivial
 rw[show((A.cell Bc).bind fun v=>some [v])=some [Bc]from by rw[ca'];rfl,bS,show A.storeAt (.op id 11) [Bc] W2=some (W2.set id (.box (gh v aV Bc {d with state:=s2,actions:=d.actions++[a]})))from by simp only[A.storeAt,anU];rfl,bS]
 exact⟨_,rfl,C7 (d:={d with state:=s2,actions:=d.actions++[a]}) hp (hs_eq (show _=iL id v aV Bc {d with state:=s2,actions:=d.actions++[a]}*R by unfold iL;ac_rfl) K4)⟩
end
end
section
set_option maxRecDepth 100000
open HP
noncomputable def sV (d:bD) (s:bX) (k:aB) (t:Int):Int:=if ¬(eS d k).1=1 then(sw d s.az k t).out else if s.black=true then 0 else zh (sw d s.az k t).out s.mu
noncomputable def sW (d:bD) (t:Int):List lK×Int:=
 if ¬(BY d.actions t=0)then([],BY d.actions t)else(d.keys.map (fun k=>⟨k,sV d (nB d d.state t) k t⟩),0)
theorem ajh {l:List dR} {t:Int} (h:BY l t=0):(0≤t∧t≤36000000)∧qC l≤t:=by
 unfold BY at h
 split at h
 ·rename_i q
  refine⟨qD q,?_⟩
  by_cases q2:t<qC l
  ·rw[decide_eq_true q2,if_pos rfl]at h;cases h
  ·omega
 ·cases h
section
variable {aC σ : Heap} {R : HP} {pd : AV} {d : bD} {B : aJ → Prop}
theorem ahs {ids:Nat} {v:AV} {s:bX} (H:Hs B aC σ (blk ids (.box (bk v s))*(Sl (fl aK) 10 v s.az*R))):Lt σ QT (.op ids 0) (.rp (rK s)):=by
 obtain⟨qZ,b1,b2,b3⟩:=HX (hs_eq (show _=Sl (fl aK) 10 v s.az*(blk ids (.box (bk v s))*R) by ac_rfl) H) CY (Nat.zero_le _) 6
 have hg:=(iz H).2
 refine⟨⟨.rp [qZ,.int .i64 s.number,.int .i64 s.mu,.bool s.black],?_,rfl,?_⟩,rfl,fun h=>by cases h⟩
 ·simp only[A.bw,Nat.not_lt_zero,if_false,hg,List.drop_zero,bk,A.tK,b1,Option.bind_some,Option.map_some]
 ·show AV.rp (A.bV [(.s 10),.k,.k,.k] _)=AV.rp (A.bV [(.s 10),.k,.k,.k] (rK s))
  congr 1
  unfold rK
  simp only[A.bV,b3]
  rfl
theorem aj0 {id:Nat} {vb:AV} {aV:Nat} {va:AV} (hp:d.params.isSome=true) {ids:Nat} {v:AV} {s:bX} (H:Hs B aC σ (iL id vb aV va d*(blk ids (.box (bk v s))*(Sl (fl aK) 10 v s.az*R)))) (hI:sQ d) {t:Int} (hs:jk t s) (k:aB):CM [.op id 0,.op ids 0,.agg (aN k),.int .i64 t] σ=some (.int .i64 (sV d s k t),σ):=by
 have Jj:∀b∈s.az,rO b t:=fun b hb=>(hs.bs b hb).ok (Int.le_refl _) hs.n.2
 exact Ar (cO:=[.op id 0,.op ids 0,.agg (aN k),.int .i64 t]) (ts:=[.rp (qy d),.rp (rK s),.agg (aN k),.int .i64 t]) ⟨L7 hp H,ahs (wm H),MD (wu (zw k)) rfl,Q7 t,trivial⟩ (fun σ=>aj1 (by have:=hs.len;unfold aW;omega) Jj hs.mu (fun _=>ZI hI Jj) σ) rfl
theorem ake (k:aB) (n:Int):(((A.cells 2 (.agg (aN k))).bind fun eu=>(A.splice 0 eu [ah,br,ah]).bind fun gu=>((A.cell (.int .i64 n)).bind fun v=>some [v]).bind fun gP=>(A.splice 2 gP gu).bind fun fM=>some fM).bind fun cs=>some (AV.agg cs))=some (.agg (dM ⟨k,n⟩)):=rfl
theorem akH (x:lK):(((A.cells 3 (.agg (dM x))).bind fun mH=>(A.splice 0 mH [ah,br,ah]).bind fun qN=>some qN).bind fun cs=>some (AV.sl 3 (chunks 3 1 cs)))=some (.sl 3 [dM x]):=rfl
theorem ae4 {id:Nat} {vb:AV} {aV:Nat} {va:AV} (hp:d.params.isSome=true) {ids:Nat} {v:AV} {s:bX} (hI:sQ d) {t:Int} (hs:jk t s) (hk:d.keys.length≤1000000) {i:Nat} {k:aB} (hi:d.keys[i]? =some k) {vo:AV} {out:List lK} (ho:out.length≤1000000) (H:Hs bK aC σ (iL id vb aV va d*(blk ids (.box (bk v s))*(Sl (fl aK) 10 v s.az*(Sl (fl dM) 3 vo out*R))))):
  ∃ gK σ', ((fun v11 kK =>
    (A.lss (v11.getD 1 AV.undef) (AV.int .i64 (d.keys.length:Int))).bind fun cE=>
    A.cond cE (
     (A.aT 2 (sl 2 aN d.keys) (v11.getD 1 AV.undef)).bind fun dg=>
     ((A.deref dg kK).bind fun ku=>A.ay 0 2 ku).bind fun cB=>
     (A.cells 2 cB).bind fun iV=>
     (A.splice 0 iV [ah,br]).bind fun gM=>
     (A.ay 0 2 gM).bind fun cR=>
     (A.ay 0 2 gM).bind fun bO=>
     (A.quiet (CM [(AV.op id 0),(AV.op ids 0),bO,(AV.int .i64 t)] kK) kK).bind fun dh=>
     (((A.cells 2 cR).bind fun eu=>(A.splice 0 eu [ah,br,ah]).bind fun gu=>((A.cell dh).bind fun v=>some [v]).bind fun gP=>(A.splice 2 gP gu).bind fun fM=>some fM).bind fun cs=>some (AV.agg cs)).bind fun dL=>
     (((A.cells 3 dL).bind fun mH=>(A.splice 0 mH [ah,br,ah]).bind fun qN=>some qN).bind fun cs=>some (AV.sl 3 (chunks 3 1 cs))).bind fun cL=>
     (A.append 3 (140737488355328 / 32) (v11.getD 0 AV.undef) cL kK).bind fun mM=>
     (A.add (v11.getD 1 AV.undef) aH).bind fun x32=>
     some (AX.normal,[mM.1,x32],mM.2)) (
     some (AX.exit 0,[(v11.getD 0 AV.undef),(v11.getD 1 AV.undef)],kK)))) [vo,.int .i64 (i:Int)] σ=some (.normal,[gK,.int .i64 ((i+1:Nat):Int)],σ')∧Hs bK aC σ' (iL id vb aV va d*(blk ids (.box (bk v s))*(Sl (fl aK) 10 v s.az*(Sl (fl dM) 3 gK (out++[⟨k,sV d s k t⟩])*R)))):=by
 simp only[List.getD_cons_zero,List.getD_cons_succ]
 rw[jr hi,bS,cW,iQ hi,bS,nU,bS,rI,bS,C9,bS,HN _ _ rfl,bS,rI,bS,bS,quiet_of (aj0 hp H hI hs k),bS,ake,bS,akH,bS]
 have K2:=hs_eq (show _=Sl (fl dM) 3 vo out*(els (fl dM) [dM ⟨k,sV d s k t⟩] [⟨k,sV d s k t⟩]*(iL id vb aV va d*(blk ids (.box (bk v s))*(Sl (fl aK) 10 v s.az*R)))) by
  rw[show els (fl dM) [dM ⟨k,sV d s k t⟩] [⟨k,sV d s k t⟩]=pr (dM ⟨k,sV d s k t⟩=dM ⟨k,sV d s k t⟩)*emp from rfl];ac_rfl) (mW.2 ⟨(rfl:dM ⟨k,sV d s k t⟩=dM ⟨k,sV d s k t⟩),hs_eq (ym _).symm H⟩)
 obtain⟨gK,σ',f1,f2⟩:=HW (most:=140737488355328 / 32) K2 (by simp;omega) (fun _ _ _ _=>trivial)
 rw[f1,bS]
 simp only
 rw[fU hi (by unfold aW;omega),bS]
 exact⟨gK,σ',rfl,hs_eq (by ac_rfl) f2⟩
theorem Wu (hK:vn d) (hk:d.keys.length≤1000000) (t:Int) (H:Hs bK aC σ (iK pd d*R)):∃v σ',GR [pd,.int .i64 t] σ=some (.aG [v,.int .i64 (sW d t).2],σ')∧Hs bK aC σ' (Sl (fl dM) 3 v (sW d t).1*(iK pd d*R)):=by
 suffices h:∃v σ',Kh pd (.int .i64 t) σ=some (.aG [v,.int .i64 (sW d t).2],σ')∧Hs bK aC σ' (Sl (fl dM) 3 v (sW d t).1*(iK pd d*R)) by
  obtain⟨v,σ',e,h⟩:=h
  exact⟨v,σ',QW e,h⟩
 obtain⟨id,vb,aV,va,rfl,hp,H⟩:=Lv H
 have Gw:d.actions.length≤aW:=by have:=hK.len;unfold aW;omega
 have mK:=Mj H
 have Ni:=hs_eq (show _=Sl (fl aK) 10 vb d.state.az*(blk id (.box (gh vb aV va d))*(blk aV (.map ((d.params.getD []).map gL))*Sl (fl bn) 5 va d.actions)*R) by unfold iL;ac_rfl) H
 unfold Kh sW
 rw[alO hp Gw H,bS]
 simp only
 rw[fW,bS]
 by_cases h0:BY d.actions t=0
 case neg=>
  rw[decide_eq_true h0,cW,if_pos h0]
  exact⟨.au,σ,rfl,qY (C7 hp H) (.inl rfl)⟩
 rw[decide_eq_false (fun q=>q h0),cD,if_neg (fun q=>q h0)]
 obtain⟨t1,t2⟩:=ajh h0
 have hrd:=Y4 hp H
 obtain⟨v,W,e1,e2⟩:=Yv hK.di hrd t1.2 hK.si t2 ⟨.op id 0,by simp [A.aA],by simp only[A.deref,mK];rfl⟩ (Za Ni)
 have I3:=PI hK.di hK.si t2 t1.2
 obtain⟨s1,hs1⟩:∃s1,s1=nB d d.state t:=⟨_,rfl⟩
 rw[←hs1]at e1 e2 I3 ⊢
 rw[e1,bS]
 simp only
 rw[show A.cells 4 (.agg (bk v s1))=some (bk v s1)from rfl,bS]
 obtain⟨x1,x2,x3,x4⟩:=QY e2
 rw[x2,bS]
 obtain⟨ids,Sk⟩:∃ids,ids=W.length:=⟨_,rfl⟩
 obtain⟨W0,Cw⟩:∃W0,W0=W++[aJ.box (bk v s1)]:=⟨_,rfl⟩
 rw[←Sk]at x3 x4 ⊢
 rw[←Cw]at x3 x4 ⊢
 have IA:∃ex,W0=σ++ex:=by rw[Cw];obtain⟨ex,rfl⟩:=x1;exact⟨_,List.append_assoc _ _ _⟩
 have hlen:σ.length≤ids:=by rw[Sk];obtain⟨ex,rfl⟩:=x1;simp
 have K:Hs bK aC W0 (iL id vb aV va d*(blk ids (.box (bk v s1))*(Sl (fl aK) 10 v s1.az*(Sl (fl dM) 3 .au []*R)))):=by
  rcases x4 with⟨q1,q2⟩|⟨g,q1,q2⟩
  ·have A1:=LG H IA hlen x3
   rw[q2,q1]
   rw[q2]at A1
   have A2:=qY (v:=.ez) (E:=fl aK) (sz:=10) (qY (v:=.au) (E:=fl dM) (sz:=3) A1 (.inl rfl)) (.inr rfl)
   exact hs_eq (by ac_rfl) A2
  ·obtain⟨ex,hex⟩:=IA
   obtain⟨exW,anX⟩:=x1
   -- the boards first, then the box
   have hA:∃ex',W=σ++ex':=⟨exW,anX⟩
   have yV:W[σ.length+1]? =some (.arr g 10 (s1.az.map aK)):=by
    have:=q2.b2
    rcases e2 with⟨z1,z2,_⟩|⟨g',z1,z2⟩
    ·rw[q1]at z2;cases z2
    ·have hl:σ.length+1<W.length:=by rw[z2];simp
     rw[Cw,List.getElem?_append_left hl]at this
     exact this
   have A1:=LG H hA (Nat.le_succ _) yV
   have A2:=LG A1 (W:=W0) ⟨_,Cw⟩ (by rw[Sk];exact Nat.le_refl _) x3
   rw[q1]
   rw[q1]at A2
   have A3:=qY (v:=.au) (E:=fl dM) (sz:=3) A2 (.inl rfl)
   have A4:=hs_eq (show _=blk (σ.length+1) (.arr g 10 (s1.az.map aK))*(iL id vb aV va d*(blk ids (.box (bk (.os (σ.length+1) g 10 0 s1.az.length) s1))*(Sl (fl dM) 3 .au []*R))) by ac_rfl) A3
   exact hs_eq (by ac_rfl) (Mt (n:=s1.az.length) A4)
 simp only[show A.aL (.op id 0)=some (.op id 0)from rfl,bS,show ∀o,A.aA o (.op id 0)=some (.op id o)from fun o=>by simp [A.aA]]
 have anS:=Mj K
 rw[show((A.deref (.op id 9) W0).bind fun c=>A.aj 0 c)=some (sl 2 aN d.keys)from by simp only[A.deref,anS];rfl,bS,fL,bS]
 have hL:∃q,A.loop ((fun v11 kK=>
    (A.lss (v11.getD 1 AV.undef) (AV.int .i64 (d.keys.length:Int))).bind fun cE=>
    A.cond cE (
     (A.aT 2 (sl 2 aN d.keys) (v11.getD 1 AV.undef)).bind fun dg=>
     ((A.deref dg kK).bind fun ku=>A.ay 0 2 ku).bind fun cB=>
     (A.cells 2 cB).bind fun iV=>
     (A.splice 0 iV [ah,br]).bind fun gM=>
     (A.ay 0 2 gM).bind fun cR=>
     (A.ay 0 2 gM).bind fun bO=>
     (A.quiet (CM [(AV.op id 0),(AV.op ids 0),bO,(AV.int .i64 t)] kK) kK).bind fun dh=>
     (((A.cells 2 cR).bind fun eu=>(A.splice 0 eu [ah,br,ah]).bind fun gu=>((A.cell dh).bind fun v=>some [v]).bind fun gP=>(A.splice 2 gP gu).bind fun fM=>some fM).bind fun cs=>some (AV.agg cs)).bind fun dL=>
     (((A.cells 3 dL).bind fun mH=>(A.splice 0 mH [ah,br,ah]).bind fun qN=>some qN).bind fun cs=>some (AV.sl 3 (chunks 3 1 cs))).bind fun cL=>
     (A.append 3 (140737488355328 / 32) (v11.getD 0 AV.undef) cL kK).bind fun mM=>
     (A.add (v11.getD 1 AV.undef) aH).bind fun x32=>
     some (AX.normal,[mM.1,x32],mM.2)) (
     some (AX.exit 0,[(v11.getD 0 AV.undef),(v11.getD 1 AV.undef)],kK)))) [.au,.int .i64 0] W0=some q∧∃vo u W',q=(.exit 0,[vo,u],W')∧Hs bK aC W' (iL id vb aV va d*(blk ids (.box (bk v s1))*(Sl (fl aK) 10 v s1.az*(Sl (fl dM) 3 vo (d.keys.map (fun k=>⟨k,sV d s1 k t⟩))*R)))):=by
  refine mm (fun z u w=>∃(i:Nat) (vo:AV),i≤d.keys.length∧u=[vo,.int .i64 (i:Int)]∧z=d.keys.length-i∧Hs bK aC w (iL id vb aV va d*(blk ids (.box (bk v s1))*(Sl (fl aK) 10 v s1.az*(Sl (fl dM) 3 vo ((d.keys.take i).map (fun k=>⟨k,sV d s1 k t⟩))*R))))) ?_ (n:=d.keys.length) ⟨0,.au,Nat.zero_le _,rfl,rfl,K⟩
  rintro z u w ⟨i,vo,hi,rfl,hz,K⟩
  by_cases h:i<d.keys.length
  ·have hx:d.keys[i]? =some d.keys[i]:=List.getElem?_eq_getElem h
   obtain⟨gK,σ',f1,f2⟩:=ae4 hp hK.di I3 hk hx (by simp;omega) K
   refine .inl ⟨d.keys.length-(i+1),_,_,by omega,f1,i+1,gK,h,rfl,rfl,?_⟩
   rw[List.take_add_one,hx,Option.toList_some,List.map_append,List.map_cons,List.map_nil]
   exact f2
  ·have:i=d.keys.length:=by omega
   subst this
   rw[List.take_length]at K
   refine .inr ⟨(.exit 0,[vo,.int .i64 (d.keys.length:Int)],w),?_,by simp,vo,_,w,rfl,K⟩
   simp only[List.getD_cons_zero,List.getD_cons_succ]
   rw[jq,bS,cD]
 obtain⟨q,l1,vo,u,W',rfl,K'⟩:=hL
 refine⟨vo,W',?_,?_⟩
 ·refine(congrArg (fun z=>Option.bind z _) l1).trans ?_
  rw[bS]
  simp only[l9,List.getD_cons_zero]
 ·have K2:=wm (hs_eq (show _=(blk ids (.box (bk v s1))*Sl (fl aK) 10 v s1.az)*(iL id vb aV va d*(Sl (fl dM) 3 vo (d.keys.map (fun k=>⟨k,sV d s1 k t⟩))*R)) by ac_rfl) K')
  have K3:=C7 hp K2
  exact hs_eq (by ac_rfl) K3
theorem ajB {α:Type} {c:α→List AV} {sz most:Nat} {v:AV} {l:List α} (hl:l.length≤most) (H:Hs bK aC σ (Sl (fl c) sz v l*R)) {r0:AV→Heap→Option (AV×Heap)} (hr:∀a σ,r0 a σ=(A.pU a AV.au).bind fun x1=>A.cond x1 (some (AV.au,σ)) ((A.append sz most AV.ez a σ).bind fun r2=>some (r2.1,r2.2))):
  ∃v' σ',A.qq (A.wrap false [] .k (A.cK r0)) [v] σ=some (v',σ')∧Hs bK aC σ' (Sl (fl c) sz v' l*(Sl (fl c) sz v l*R)):=by
 rcases uP H with⟨rfl,hv,K⟩|⟨id,g,rfl,K⟩
 ·refine⟨.ez,σ,?_,qY H (.inr rfl)⟩
  rcases hv with rfl|rfl<;>rfl
 ·by_cases h0:l=[]
  ·subst h0
   exact⟨.ez,σ,rfl,qY H (.inr rfl)⟩
  obtain⟨n,hn⟩:∃n,l.length=n+1:=by
   cases h:l with
   |nil=>exact absurd h h0
   |cons b l=>exact⟨l.length,rfl⟩
  have hg:=(iz K).2
  have e0:A.qq (A.wrap false [] .k (A.cK r0)) [.os id g sz 0 l.length] σ=A.wrap false [] .k (A.cK r0) [.os id g sz 0 l.length] σ:=by rw[hn];rfl
  have e1:A.cK r0 [.os id g sz 0 l.length] σ=some (.os σ.length l.length sz 0 l.length,σ++[.arr l.length sz (l.map c)]):=by
   show r0 (.os id g sz 0 l.length) σ=_
   rw[hr,show A.pU (.os id g sz 0 l.length) .au=some (.bool false)from rfl,bS,cD]
   have hel:A.elems sz (.os id g sz 0 l.length) σ=some (l.map c):=by
    simp only[A.elems,hg]
    simp [List.take_of_length_le]
   have hne:l.map c≠[]:=by simpa using h0
   have hap:A.append sz most .ez (.os id g sz 0 l.length) σ=some (.os σ.length l.length sz 0 l.length,σ++[.arr l.length sz (l.map c)]):=by
    unfold A.append
    rw[hel,bS]
    simp only[A.sJ,if_neg hne,List.length_map]
    rw[if_pos hl]
   rw[hap,bS]
  refine⟨.os σ.length l.length sz 0 l.length,σ++[.arr l.length sz (l.map c)],?_,?_⟩
  ·rw[e0]
   simp only[A.wrap,Bool.false_and,cond_false,A.bV,e1,Option.map_some,iM]
  ·exact Mt (n:=l.length) (FM H trivial)
theorem agP (hl:d.actions.length≤5000) (H:Hs bK aC σ (iK pd d*R)):∃v σ',Ka [pd] σ=some (v,σ')∧Hs bK aC σ' (Sl (fl bn) 5 v d.actions*(iK pd d*R)):=by
 obtain⟨id,vb,aV,va,rfl,hp,H⟩:=Lv H
 have mK:=Mj H
 have pW:=hs_eq (show _=Sl (fl bn) 5 va d.actions*(Sl (fl aK) 10 vb d.state.az*blk id (.box (gh vb aV va d))*blk aV (.map ((d.params.getD []).map gL))*R) by unfold iL;ac_rfl) H
 obtain⟨v',σ',f1,f2⟩:=ajB (most:=140737488355328 / 40) (by omega) pW (r0:=NH) (fun _ _=>rfl)
 refine⟨v',σ',?_,?_⟩
 ·have e:EO (.op id 0) σ=some (v',σ'):=by
   unfold EO
   rw[show A.aL (.op id 0)=some (.op id 0)from rfl,bS,show A.aA 11 (.op id 0)=some (.op id 11)from by simp [A.aA],bS,show((A.deref (.op id 11) σ).bind fun c=>A.aj 0 c)=some va from by simp only[A.deref,mK];exact Mk pW,bS,show J8 [va] σ=some (v',σ')from f1,bS]
  have:A.cK EO [.op id 0] σ=some (v',σ'):=e
  show A.wrap false [] .k (A.cK EO) [.op id 0] σ=_
  simp only[A.wrap,Bool.false_and,cond_false,A.bV,this,Option.map_some,iM]
 ·have K:=hs_eq (show _=iL id vb aV va d*(Sl (fl bn) 5 v' d.actions*R) by unfold iL;ac_rfl) f2
  exact hs_eq (by ac_rfl) (C7 hp K)
theorem Zg (hl:d.actions.length≤5000) (H:Hs bK aC σ (iK pd d*R)):xW [pd] σ=some (.int .i64 (qC d.actions),σ):=by
 obtain⟨id,vb,aV,va,rfl,hp,H⟩:=Lv H
 exact Zh hp (by unfold aW;omega) H
end
end
section
set_option maxRecDepth 100000
open HP
structure FU (s : gf) : Prop where
 gI:s.aQ.aY.length≤1000000
 par:∀p∈s.aQ.aY,p.params.length≤1000000∧∀q∈p.params,q.ranges.length≤1000000
 un:s.aQ.units.length≤1000000
 pre:s.bH.length≤1000000∧∀p∈s.bH,p.jL.length≤1000000
 No:s.lists.length≤1000000
 bT:∀l∈s.lists,l.bE.length≤1000000∧∀c∈l.bE,c.dm.length≤1000000∧c.fq.points.length≤1000000
 pl:s.bF.length≤1000000
theorem Fa {α:Type} {c:α→List AV} {sz most:Nat} {l:List α} {m:List AV→Heap→Option (AV×Heap)} {r0:AV→Heap→Option (AV×Heap)} (hc:∀x,iU (c x)) (hm:m=A.qq (A.wrap true [(.s sz)] .k (A.cK r0))) (hr:∀a σ,r0 a σ=(A.pU a .au).bind fun x1=>A.cond x1 (some (.au,σ)) ((A.append sz most .ez a σ).bind fun r2=>some (r2.1,r2.2))) (hl:l.length≤most) (σ:Heap):A.jl (.s sz) m [sl sz c l] σ=some (sl sz c l,σ):=by
 obtain⟨v,σ',e1,_,K⟩:=Qx (B:=bK) (r:=fun _ _=>none) hm hr hl (fun _ _ _ _=>trivial) (HV σ)
 obtain⟨v',e2,e3⟩:=ajQ hc K
 unfold A.jl
 rw[e1,Option.bind_some]
 simp only
 rw[e2,Option.map_some]
 simp only
 rw[e3]
theorem amE {σ:Heap} {id:Nat} {b:aJ} (h:σ[id]? =some b):σ.set id b=σ:=by
 obtain⟨hl,rfl⟩:=List.getElem?_eq_some_iff.1 h
 exact List.set_getElem_self hl
theorem agK {W:Heap} {id g sz i o:Nat} {rows:List (List AV)} {row new:List AV} (h:W[id]? =some (.arr g sz rows)) (hr:rows[i]? =some row) (hs:A.splice o new row=some row):A.storeAt (.oe id g i o) new W=some W:=by
 simp only[A.storeAt,h,if_true,hr,Option.bind_some,hs,Option.map_some]
 obtain⟨hl,rfl⟩:=List.getElem?_eq_some_iff.1 hr
 rw[List.set_getElem_self hl,amE h]
def Du {α:Type} (c:α→List AV) (sz:Nat) (W:Heap) (v:AV) (l:List α):Prop:=(l=[]∧(v=.au∨v=.ez))∨∃id g,v=.os id g sz 0 l.length∧W[id]? =some (.arr g sz (l.map c))
theorem Y8 {α:Type} {c:α→List AV} {sz:Nat} {B:aJ→Prop} {aC σ:Heap} {R:HP} {v:AV} {l:List α} (H:Hs B aC σ (Sl (fl c) sz v l*R)):Du c sz σ v l:=by
 rcases uP H with⟨h1,h2,_⟩|⟨id,g,h1,K⟩
 ·exact .inl ⟨h1,h2⟩
 ·exact .inr ⟨id,g,h1,(iz K).2⟩
theorem Du.len {α:Type} {c:α→List AV} {sz:Nat} {W:Heap} {v:AV} {l:List α} (h:Du c sz W v l):A.bJ v=some (.int .i64 (l.length:Int)):=by
 rcases h with⟨rfl,rfl|rfl⟩|⟨id,g,rfl,_⟩<;>rfl
theorem Du.at {α:Type} {c:α→List AV} {sz:Nat} {W:Heap} {v:AV} {l:List α} (h:Du c sz W v l) {i:Nat} {x:α} (hx:l[i]? =some x):∃id g,A.aT sz v (.int .i64 (i:Int))=some (.oe id g i 0)∧(∀o,A.deref (.oe id g i o) W=some ((c x).drop o))∧∀o new,A.splice o new (c x)=some (c x)→A.storeAt (.oe id g i o) new W=some W:=by
 have hi:=(List.getElem?_eq_some_iff.1 hx).1
 rcases h with⟨rfl,_⟩|⟨id,g,rfl,hg⟩
 ·simp at hx
 ·have hr:(l.map c)[i]? =some (c x):=by rw[List.getElem?_map,hx];rfl
  refine⟨id,g,?_,fun o=>?_,fun o new hs=>agK hg hr hs⟩
  ·have:((i:Int)<(l.length:Int)):=by omega
   simp [A.aT,A.idx,this]
  ·simp only[A.deref,hg,if_true,hr,Option.map_some]
theorem QE {α:Type} {c:α→List AV} {sz:Nat} {B:aJ→Prop} {aC σ:Heap} {R:HP} {v:AV} {l:List α} (H:Hs B aC σ (Sl (fl c) sz v l*R)) (hc:∀x,iU (c x)) {n:Nat} (hn:n≤aC.length) (d:Nat):∃v',A.bw σ n (d+1) v=some v'∧((l=[]∧(v'=.au∨v'=.ez))∨v'=sl sz c l):=by
 rcases uP H with⟨rfl,rfl|rfl,_⟩|⟨id,g,rfl,K⟩
 ·exact⟨.au,by simp [A.bw],.inl ⟨rfl,.inl rfl⟩⟩
 ·exact⟨.ez,by simp [A.bw],.inl ⟨rfl,.inr rfl⟩⟩
 ·obtain⟨h1,h2⟩:=iz K
  exact⟨_,HU hc h2 (by omega) d,.inr rfl⟩
def uZ:List AV→cV→HP:=fun e x=>ex fun vp=>pr (e=[.str x.name,.int .i64 x.size,vp])*Sl (fl eR) 7 vp x.params
def uY:List AV→iR→HP:=fun e x=>ex fun vc=>pr (e=[.int .i64 x.number,vc])*Sl (fl aZ) 11 vc x.bE
section
variable {B : aJ → Prop} {aC σ : Heap} {R : HP} {e : List AV}
theorem aaz {x:cV}:Hs B aC σ (uZ e x*R)↔∃vp,e=[.str x.name,.int .i64 x.size,vp]∧Hs B aC σ (Sl (fl eR) 7 vp x.params*R):=by
 unfold uZ
 rw[Mz]
 constructor
 ·rintro⟨vp,H⟩;rw[tG,mW]at H;exact⟨vp,H⟩
 ·rintro⟨vp,H⟩;exact⟨vp,by rw[tG,mW];exact H⟩
theorem aax {x:iR}:Hs B aC σ (uY e x*R)↔∃vc,e=[.int .i64 x.number,vc]∧Hs B aC σ (Sl (fl aZ) 11 vc x.bE*R):=by
 unfold uY
 rw[Mz]
 constructor
 ·rintro⟨vp,H⟩;rw[tG,mW]at H;exact⟨vp,H⟩
 ·rintro⟨vp,H⟩;exact⟨vp,by rw[tG,mW];exact H⟩
abbrev MH:List Sh:=[.k,.k,.k,.k,.k,.k,(.s 3)]
theorem WB:∀{seg:List (List AV)} {l:List cV} {R:HP},Hs B aC σ (els uZ seg l*R)→∀{n:Nat},n≤aC.length→∀(d:Nat),∃tZ,A.jh σ n (d+1) seg=some tZ∧tZ.map (A.bV [.k,.k,(.e 7 MH)])=l.map cm
 |[],[],R,H,n,hn,d=>⟨[],by simp [A.jh],rfl⟩
 |[],_::_,R,H,n,hn,d=>(mW.1 H).1.elim
 |_::_,[],R,H,n,hn,d=>(mW.1 H).1.elim
 |e::seg,x::l,R,H,n,hn,d=>by
  rw[els,tG]at H
  obtain⟨vp,he,K⟩:=aaz.1 H
  obtain⟨v',h1,h2⟩:=QE K PU hn d
  obtain⟨tZ,k1,k2⟩:=WB (wm H) hn d
  refine⟨[.str x.name,.int .i64 x.size,v']::tZ,?_,?_⟩
  ·rw[he];simp [A.jh,A.eO,A.bw,h1,k1]
  ·have:A.nn (.e 7 MH) v'=sl 7 eR x.params:=by
    rcases h2 with⟨h2,rfl|rfl⟩|rfl
    ·rw[h2];rfl
    ·rw[h2];rfl
    ·exact tW (fun _=>rfl) _
   rw[List.map_cons,k2,List.map_cons]
   congr 1
   simp only[A.bV,iM,this]
   rfl
theorem WA:∀{seg:List (List AV)} {l:List iR} {R:HP},Hs B aC σ (els uY seg l*R)→∀{n:Nat},n≤aC.length→∀(d:Nat),∃tZ,A.jh σ n (d+1) seg=some tZ∧tZ.map (A.bV [.k,(.e 11 FY)])=l.map dU
 |[],[],R,H,n,hn,d=>⟨[],by simp [A.jh],rfl⟩
 |[],_::_,R,H,n,hn,d=>(mW.1 H).1.elim
 |_::_,[],R,H,n,hn,d=>(mW.1 H).1.elim
 |e::seg,x::l,R,H,n,hn,d=>by
  rw[els,tG]at H
  obtain⟨vp,he,K⟩:=aax.1 H
  obtain⟨v',h1,h2⟩:=QE K L6 hn d
  obtain⟨tZ,k1,k2⟩:=WA (wm H) hn d
  refine⟨[.int .i64 x.number,v']::tZ,?_,?_⟩
  ·rw[he];simp [A.jh,A.eO,A.bw,h1,k1]
  ·have:A.nn (.e 11 FY) v'=sl 11 aZ x.bE:=by
    rcases h2 with⟨h2,rfl|rfl⟩|rfl
    ·rw[h2];rfl
    ·rw[h2];rfl
    ·exact tW (fun _=>rfl) _
   rw[List.map_cons,k2,List.map_cons]
   congr 1
   simp only[A.bV,iM,this]
   rfl
theorem ai0 {v:AV} {l:List cV} (H:Hs B aC σ (Sl uZ 3 v l*R)) {n:Nat} (hn:n≤aC.length) (d:Nat):∃v',A.bw σ n (d+2) v=some v'∧A.nn (.e 3 [.k,.k,(.e 7 MH)]) v'=sl 3 cm l:=by
 rcases zq H with⟨rfl,rfl|rfl,_⟩|⟨id,g,seg,rfl,hl,H⟩
 ·exact⟨.au,by simp [A.bw],rfl⟩
 ·exact⟨.ez,by simp [A.bw],rfl⟩
 ·obtain⟨h1,h2⟩:=iz H
  obtain⟨tZ,k1,k2⟩:=WB (hs_eq (show _=els uZ seg l*(blk id (.arr g 3 seg)*R) by ac_rfl) H) hn d
  refine⟨.sl 3 tZ,?_,?_⟩
  ·simp only[A.bw,if_neg (show ¬id<n by omega),h2]
   rw[if_pos (by simp;omega),List.drop_zero,List.take_of_length_le (by omega),Fl,k1]
   rfl
  ·simp only[A.nn,k2];rfl
theorem aiI {v:AV} {l:List iR} (H:Hs B aC σ (Sl uY 2 v l*R)) {n:Nat} (hn:n≤aC.length) (d:Nat):∃v',A.bw σ n (d+2) v=some v'∧A.nn (.e 2 [.k,(.e 11 FY)]) v'=sl 2 dU l:=by
 rcases zq H with⟨rfl,rfl|rfl,_⟩|⟨id,g,seg,rfl,hl,H⟩
 ·exact⟨.au,by simp [A.bw],rfl⟩
 ·exact⟨.ez,by simp [A.bw],rfl⟩
 ·obtain⟨h1,h2⟩:=iz H
  obtain⟨tZ,k1,k2⟩:=WA (hs_eq (show _=els uY seg l*(blk id (.arr g 2 seg)*R) by ac_rfl) H) hn d
  refine⟨.sl 2 tZ,?_,?_⟩
  ·simp only[A.bw,if_neg (show ¬id<n by omega),h2]
   rw[if_pos (by simp;omega),List.drop_zero,List.take_of_length_le (by omega),Fl,k1]
   rfl
  ·simp only[A.nn,k2];rfl
end
section
variable {aC σ : Heap} {R : HP}
theorem F2 {α β A1 A2:Type} {X:Option α} {v:α} {f:α→Option β} {g:A1→A2→β} {Q:A1→A2→Prop} (e:X=some v) (k:∃a b,f v=some (g a b)∧Q a b):∃a b,X.bind f=some (g a b)∧Q a b:=by
 rw[e];exact k
theorem R5 {α β A1:Type} {X:Option α} {v:α} {f:α→Option β} {g:A1→β} {Q:A1→Prop} (e:X=some v) (k:∃a,Q a∧f v=some (g a)):∃a,Q a∧X.bind f=some (g a):=by
 rw[e];exact k
theorem zP {α:Type} {E:List AV→α→HP} {sz:Nat} {B:aJ→Prop} {v:AV} {l:List α} (H:Hs B aC σ (Sl E sz v l*R)):A.cell v=some v:=by
 rcases zq H with⟨_,rfl|rfl,_⟩|⟨id,g,seg,rfl,_⟩<;>rfl
theorem ajE {W:Heap} {x:cV} {pv:AV} (hx:∀q∈x.params,q.ranges.length≤1000000) (hl:x.params.length≤1000000) (h:Du eR 7 W pv x.params) (u0 u1 u2:AV):A.loop ((fun v30 jQ=>
      (A.lss (v30.getD 4 AV.undef) (AV.int .i64 (x.params.length:Int))).bind fun eB=>
      A.cond eB (
       ((A.lb (v30.getD 3 AV.undef)).bind fun _=>some (2)).bind fun xH=>
       ((A.lb (v30.getD 3 AV.undef)).bind fun gZ=>A.aj xH gZ).bind fun gz=>
       ((A.lb (v30.getD 3 AV.undef)).bind fun _=>some (2)).bind fun A6=>
       ((A.lb (v30.getD 3 AV.undef)).bind fun lu=>A.aj A6 lu).bind fun eY=>
       (A.aT 7 eY (v30.getD 4 AV.undef)).bind fun dc=>
       (A.aA 6 dc).bind fun dV=>
       ((A.deref dV jQ).bind fun lQ=>A.aj 0 lQ).bind fun fB=>
       (A.quiet ((A.jl (.s 3) CG) [fB] jQ) jQ).bind fun eC=>
       (A.aT 7 gz (v30.getD 4 AV.undef)).bind fun eo=>
       (A.aA 6 eo).bind fun fC=>
       ((A.cell eC).bind fun v=>some [v]).bind fun iW=>
       (A.storeAt fC iW jQ).bind fun pM=>
       (A.add (v30.getD 4 AV.undef) aH).bind fun eD=>
       some (AX.normal,[(v30.getD 0 AV.undef),(v30.getD 1 AV.undef),(v30.getD 2 AV.undef),(v30.getD 3 AV.undef),eD],pM)) (
       some (AX.exit 2,[(v30.getD 0 AV.undef),(v30.getD 1 AV.undef),(v30.getD 2 AV.undef),(v30.getD 3 AV.undef),(v30.getD 4 AV.undef)],jQ)))) [u0,u1,u2,.lbx [.str x.name,.int .i64 x.size,pv],.int .i64 0] W=some (.exit 2,[u0,u1,u2,.lbx [.str x.name,.int .i64 x.size,pv],.int .i64 (x.params.length:Int)],W):=by
 refine AR (mm (Q:=fun q=>q=(.exit 2,[u0,u1,u2,.lbx [.str x.name,.int .i64 x.size,pv],.int .i64 (x.params.length:Int)],W)) (fun z v w=>∃i:Nat,i≤x.params.length∧v=[u0,u1,u2,.lbx [.str x.name,.int .i64 x.size,pv],.int .i64 (i:Int)]∧w=W∧z=x.params.length-i) ?_ (n:=x.params.length) ⟨0,Nat.zero_le _,rfl,rfl,rfl⟩)
 have hc:A.cell pv=some pv:=by rcases h with⟨_,rfl|rfl⟩|⟨id,g,rfl,_⟩<;>rfl
 rintro z v w ⟨i,hi,rfl,rfl,hz⟩
 by_cases hlt:i<x.params.length
 ·have hq:x.params[i]? =some x.params[i]:=List.getElem?_eq_getElem hlt
  obtain⟨id,g,e1,e2,e3⟩:=h.at hq
  refine .inl ⟨x.params.length-(i+1),_,_,by omega,?_,i+1,hlt,rfl,rfl,rfl⟩
  simp only[List.getD_cons_zero,List.getD_cons_succ]
  have hp2:A.aj 2 [.str x.name,.int .i64 x.size,pv]=some pv:=hc
  rw[jr hq,bS,cW]
  simp only[ia,bS,hp2,e1,show ∀o,A.aA o (.oe id g i 0)=some (.oe id g i o)from fun o=>by simp [A.aA],e2]
  rw[show A.aj 0 ((eR x.params[i]).drop 6)=some (sl 3 mq x.params[i].ranges)from rfl,bS,quiet_of (Fa (most:=140737488355328 / 32) (m:=CG) (r0:=NK) WR rfl (fun _ _=>rfl) (by have:=hx _ (List.getElem_mem hlt);omega) w),bS,show((A.cell (sl 3 mq x.params[i].ranges)).bind fun v=>some [v])=some [sl 3 mq x.params[i].ranges]from rfl,bS,e3 6 _ rfl,bS,fU hq (by unfold aW;omega),bS]
 ·have:i=x.params.length:=by omega
  subst this
  refine .inr ⟨_,?_,by simp,rfl⟩
  simp only[List.getD_cons_zero,List.getD_cons_succ]
  rw[jq,bS,cD]
theorem ajF {W : Heap} {x : iR} {pv : AV} (hx : ∀ c ∈ x.bE, c.dm.length ≤ 1000000 ∧ c.fq.points.length ≤ 1000000) (hl : x.bE.length ≤ 1000000) (h : Du aZ 11 W pv x.bE) (u0 u1 : AV) : A.loop ((fun dr fQ =>
        (A.lss (dr.getD 3 AV.undef) (AV.int .i64 (x.bE.length:Int))).bind fun xe=>
        A.cond xe (
         ((A.lb (dr.getD 2 AV.undef)).bind fun _=>some (1)).bind fun As=>
         ((A.lb (dr.getD 2 AV.undef)).bind fun nD=>A.aj As nD).bind fun uc=>
         (A.aT 11 uc (dr.getD 3 AV.undef)).bind fun j0=>
         (A.aL j0).bind fun xg=>
         (A.aA 10 xg).bind fun xh=>
         ((A.deref xh fQ).bind fun lP=>A.aj 0 lP).bind fun ng=>
         (A.quiet ((A.jl (.s 8) CH) [ng] fQ) fQ).bind fun rX=>
         (A.aL j0).bind fun ud=>
         (A.aA 6 ud).bind fun mB=>
         (A.aA 1 mB).bind fun nL=>
         ((A.deref nL fQ).bind fun nE=>A.aj 0 nE).bind fun ue=>
         (A.quiet ((A.jl (.s 2) CF) [ue] fQ) fQ).bind fun nM=>
         (A.aL j0).bind fun uf=>
         (A.aA 10 uf).bind fun mC=>
         ((A.cell rX).bind fun v=>some [v]).bind fun wJ=>
         (A.storeAt mC wJ fQ).bind fun wK=>
         (A.aL j0).bind fun ug=>
         (A.aA 6 ug).bind fun xk=>
         (A.aA 1 xk).bind fun mD=>
         ((A.cell nM).bind fun v=>some [v]).bind fun Ai=>
         (A.storeAt mD Ai wK).bind fun Aj=>
         (A.add (dr.getD 3 AV.undef) aH).bind fun AF=>
         some (AX.normal,[(dr.getD 0 AV.undef),(dr.getD 1 AV.undef),(dr.getD 2 AV.undef),AF],Aj)) (
         some (AX.exit 8,[(dr.getD 0 AV.undef),(dr.getD 1 AV.undef),(dr.getD 2 AV.undef),(dr.getD 3 AV.undef)],fQ)))) [u0,u1,.lbx [.int .i64 x.number,pv],.int .i64 0] W=some (.exit 8,[u0,u1,.lbx [.int .i64 x.number,pv],.int .i64 (x.bE.length:Int)],W):=by
 refine AR (mm (Q:=fun q=>q=(.exit 8,[u0,u1,.lbx [.int .i64 x.number,pv],.int .i64 (x.bE.length:Int)],W)) (fun z v w=>∃i:Nat,i≤x.bE.length∧v=[u0,u1,.lbx [.int .i64 x.number,pv],.int .i64 (i:Int)]∧w=W∧z=x.bE.length-i) ?_ (n:=x.bE.length) ⟨0,Nat.zero_le _,rfl,rfl,rfl⟩)
 have hc:A.cell pv=some pv:=by rcases h with⟨_,rfl|rfl⟩|⟨id,g,rfl,_⟩<;>rfl
 rintro z v w ⟨i,hi,rfl,rfl,hz⟩
 by_cases hlt:i<x.bE.length
 ·have hq:x.bE[i]? =some x.bE[i]:=List.getElem?_eq_getElem hlt
  obtain⟨id,g,e1,e2,e3⟩:=h.at hq
  have hb:=hx _ (List.getElem_mem hlt)
  refine .inl ⟨x.bE.length-(i+1),_,_,by omega,?_,i+1,hlt,rfl,rfl,rfl⟩
  simp only[List.getD_cons_zero,List.getD_cons_succ]
  have hp2:A.aj 1 [.int .i64 x.number,pv]=some pv:=hc
  rw[jr hq,bS,cW]
  simp only[ia,bS,hp2,e1,show A.aL (.oe id g i 0)=some (.oe id g i 0)from rfl,show ∀o,A.aA o (.oe id g i 0)=some (.oe id g i o)from fun o=>by simp [A.aA],show A.aA 1 (.oe id g i 6)=some (.oe id g i 7)from rfl,e2]
  rw[show A.aj 0 ((aZ x.bE[i]).drop 10)=some (sl 8 fG x.bE[i].dm)from rfl,bS,quiet_of (Fa (most:=140737488355328 / 64) (m:=CH) (r0:=NM) XQ rfl (fun _ _=>rfl) (by omega) w),bS,show A.aj 0 ((aZ x.bE[i]).drop 7)=some (sl 2 gX x.bE[i].fq.points)from rfl,bS,quiet_of (Fa (most:=140737488355328 / 16) (m:=CF) (r0:=NJ) PV rfl (fun _ _=>rfl) (by omega) w),bS,show((A.cell (sl 8 fG x.bE[i].dm)).bind fun v=>some [v])=some [sl 8 fG x.bE[i].dm]from rfl,bS,e3 10 _ rfl,bS,show((A.cell (sl 2 gX x.bE[i].fq.points)).bind fun v=>some [v])=some [sl 2 gX x.bE[i].fq.points]from rfl,bS,e3 7 _ rfl,bS,fU hq (by unfold aW;omega),bS]
 ·have:i=x.bE.length:=by omega
  subst this
  refine .inr ⟨_,?_,by simp,rfl⟩
  simp only[List.getD_cons_zero,List.getD_cons_succ]
  rw[jq,bS,cD]
theorem LX {α:Type} {E:List AV→α→HP} {sz most:Nat} {v:AV} {l:List α} {e:List AV} {x:α} (hl:l.length+1≤most) (H:Hs bK aC σ (Sl E sz v l*(E e x*R))):∃v' σ',A.append sz most v (.sl sz [e]) σ=some (v',σ')∧Hs bK aC σ' (Sl E sz v' (l++[x])*R):=
 HW (ys:=[e]) (xs:=[x]) (hs_eq (by rw[ajM]) H) (by simpa using hl) (fun _ _ _ _=>trivial)
theorem alc {l:List ew} (hl:l.length≤1000000) (H:Hs bK aC σ R):∃v σ',EL [sl 7 eR l] σ=some (v,σ')∧A.cell v=some v∧Hs bK aC σ' (Sl (fl eR) 7 v l*R):=
 Qx (most:=140737488355328 / 80) (r:=fun _ _=>none) rfl (fun _ _=>rfl) (by omega) (fun _ _ _ _=>trivial) H
theorem ai5 (n:ByteArray) (m:Int) (v:AV):(((A.cells 3 (.agg [.str n,.int .i64 m,v])).bind fun iX=>(A.splice 0 iX [br,ah,AV.au]).bind fun iO=>some iO).bind fun cs=>some (AV.sl 3 (chunks 3 1 cs)))=some (.sl 3 [[.str n,.int .i64 m,v]]):=rfl
theorem ai4 (n:Int) (v:AV):(((A.cells 2 (.agg [.int .i64 n,v])).bind fun iX=>(A.splice 0 iX [ah,AV.au]).bind fun iO=>some iO).bind fun cs=>some (AV.sl 2 (chunks 2 1 cs)))=some (.sl 2 [[.int .i64 n,v]]):=rfl
theorem al2 {s:gf} (hb:FU s) (H:Hs bK aC σ R) (un pl u:AV):∃v W,A.loop ((fun bP gJ=>
   (A.lss (bP.getD 3 AV.undef) (AV.int .i64 (s.aQ.aY.length:Int))).bind fun bM=>
   A.cond bM (
    (A.aT 3 (sl 3 cm s.aQ.aY) (bP.getD 3 AV.undef)).bind fun cC=>
    ((A.deref cC gJ).bind fun gO=>A.ay 0 3 gO).bind fun bO=>
    (A.cells 3 bO).bind fun fZ=>
    (A.splice 0 fZ [br,ah,AV.au]).bind fun eu=>
    (A.aj 2 eu).bind fun x24=>
    (EL [x24] gJ).bind fun jA=>
    ((A.cell jA.1).bind fun v=>some [v]).bind fun fM=>
    (A.splice 2 fM eu).bind fun lq=>
    (A.aj 2 lq).bind fun x28=>
    (A.bJ x28).bind fun x29=>
    (A.loop (fun v30 jQ=>
      (A.lss (v30.getD 4 AV.undef) x29).bind fun eB=>
      A.cond eB (
       ((A.lb (v30.getD 3 AV.undef)).bind fun _=>some (2)).bind fun xH=>
       ((A.lb (v30.getD 3 AV.undef)).bind fun gZ=>A.aj xH gZ).bind fun gz=>
       ((A.lb (v30.getD 3 AV.undef)).bind fun _=>some (2)).bind fun A6=>
       ((A.lb (v30.getD 3 AV.undef)).bind fun lu=>A.aj A6 lu).bind fun eY=>
       (A.aT 7 eY (v30.getD 4 AV.undef)).bind fun dc=>
       (A.aA 6 dc).bind fun dV=>
       ((A.deref dV jQ).bind fun lQ=>A.aj 0 lQ).bind fun fB=>
       (A.quiet ((A.jl (.s 3) CG) [fB] jQ) jQ).bind fun eC=>
       (A.aT 7 gz (v30.getD 4 AV.undef)).bind fun eo=>
       (A.aA 6 eo).bind fun fC=>
       ((A.cell eC).bind fun v=>some [v]).bind fun iW=>
       (A.storeAt fC iW jQ).bind fun pM=>
       (A.add (v30.getD 4 AV.undef) aH).bind fun eD=>
       some (AX.normal,[(v30.getD 0 AV.undef),(v30.getD 1 AV.undef),(v30.getD 2 AV.undef),(v30.getD 3 AV.undef),eD],pM)) (
       some (AX.exit 2,[(v30.getD 0 AV.undef),(v30.getD 1 AV.undef),(v30.getD 2 AV.undef),(v30.getD 3 AV.undef),(v30.getD 4 AV.undef)],jQ))) [(bP.getD 0 AV.undef),(bP.getD 1 AV.undef),(bP.getD 2 AV.undef),(AV.lbx lq),ah] jA.2).bind fun cZ=>
    bif cZ.1==AX.exit 2 then(
     ((A.lb (cZ.2.1.getD 2 AV.undef)).bind fun _=>some (0)).bind fun Em=>
     ((A.lb (cZ.2.1.getD 2 AV.undef)).bind fun _=>some (Em)).bind fun En=>
     ((A.lb (cZ.2.1.getD 2 AV.undef)).bind fun nP=>A.aj En nP).bind fun gB=>
     ((A.lb (cZ.2.1.getD 3 AV.undef)).bind fun iB=>A.ay 0 3 iB).bind fun gd=>
     (((A.cells 3 gd).bind fun iX=>(A.splice 0 iX [br,ah,AV.au]).bind fun iO=>some iO).bind fun cs=>some (AV.sl 3 (chunks 3 1 cs))).bind fun eZ=>
     (A.append 3 (140737488355328 / 48) gB eZ cZ.2.2).bind fun xK=>
     ((A.lb (cZ.2.1.getD 2 AV.undef)).bind fun _=>some (0)).bind fun Eo=>
     ((A.lb (cZ.2.1.getD 2 AV.undef)).bind fun _=>some (Eo)).bind fun Ep=>
     (A.lb (cZ.2.1.getD 2 AV.undef)).bind fun xw=>
     ((A.cell xK.1).bind fun v=>some [v]).bind fun uq=>
     (A.splice Ep uq xw).bind fun pO=>
     (A.add (bP.getD 3 AV.undef) aH).bind fun gD=>
     some (AX.normal,[(cZ.2.1.getD 0 AV.undef),(cZ.2.1.getD 1 AV.undef),(AV.lbx pO),gD],xK.2))else
    none) (
    some (AX.exit 0,[(bP.getD 0 AV.undef),(bP.getD 1 AV.undef),(bP.getD 2 AV.undef),(bP.getD 3 AV.undef)],gJ)))) [.lbx (bA s),u,.lbx [.au,un,.au,.au,pl],.int .i64 0] σ=some (.exit 0,[.lbx (bA s),u,.lbx [v,un,.au,.au,pl],.int .i64 (s.aQ.aY.length:Int)],W)∧Hs bK aC W (Sl uZ 3 v s.aQ.aY*R):=by
 suffices h:∃q,A.loop ((fun bP gJ=>
   (A.lss (bP.getD 3 AV.undef) (AV.int .i64 (s.aQ.aY.length:Int))).bind fun bM=>
   A.cond bM (
    (A.aT 3 (sl 3 cm s.aQ.aY) (bP.getD 3 AV.undef)).bind fun cC=>
    ((A.deref cC gJ).bind fun gO=>A.ay 0 3 gO).bind fun bO=>
    (A.cells 3 bO).bind fun fZ=>
    (A.splice 0 fZ [br,ah,AV.au]).bind fun eu=>
    (A.aj 2 eu).bind fun x24=>
    (EL [x24] gJ).bind fun jA=>
    ((A.cell jA.1).bind fun v=>some [v]).bind fun fM=>
    (A.splice 2 fM eu).bind fun lq=>
    (A.aj 2 lq).bind fun x28=>
    (A.bJ x28).bind fun x29=>
    (A.loop (fun v30 jQ=>
      (A.lss (v30.getD 4 AV.undef) x29).bind fun eB=>
      A.cond eB (
       ((A.lb (v30.getD 3 AV.undef)).bind fun _=>some (2)).bind fun xH=>
       ((A.lb (v30.getD 3 AV.undef)).bind fun gZ=>A.aj xH gZ).bind fun gz=>
       ((A.lb (v30.getD 3 AV.undef)).bind fun _=>some (2)).bind fun A6=>
       ((A.lb (v30.getD 3 AV.undef)).bind fun lu=>A.aj A6 lu).bind fun eY=>
       (A.aT 7 eY (v30.getD 4 AV.undef)).bind fun dc=>
       (A.aA 6 dc).bind fun dV=>
       ((A.deref dV jQ).bind fun lQ=>A.aj 0 lQ).bind fun fB=>
       (A.quiet ((A.jl (.s 3) CG) [fB] jQ) jQ).bind fun eC=>
       (A.aT 7 gz (v30.getD 4 AV.undef)).bind fun eo=>
       (A.aA 6 eo).bind fun fC=>
       ((A.cell eC).bind fun v=>some [v]).bind fun iW=>
       (A.storeAt fC iW jQ).bind fun pM=>
       (A.add (v30.getD 4 AV.undef) aH).bind fun eD=>
       some (AX.normal,[(v30.getD 0 AV.undef),(v30.getD 1 AV.undef),(v30.getD 2 AV.undef),(v30.getD 3 AV.undef),eD],pM)) (
       some (AX.exit 2,[(v30.getD 0 AV.undef),(v30.getD 1 AV.undef),(v30.getD 2 AV.undef),(v30.getD 3 AV.undef),(v30.getD 4 AV.undef)],jQ))) [(bP.getD 0 AV.undef),(bP.getD 1 AV.undef),(bP.getD 2 AV.undef),(AV.lbx lq),ah] jA.2).bind fun cZ=>
    bif cZ.1==AX.exit 2 then(
     ((A.lb (cZ.2.1.getD 2 AV.undef)).bind fun _=>some (0)).bind fun Em=>
     ((A.lb (cZ.2.1.getD 2 AV.undef)).bind fun _=>some (Em)).bind fun En=>
     ((A.lb (cZ.2.1.getD 2 AV.undef)).bind fun nP=>A.aj En nP).bind fun gB=>
     ((A.lb (cZ.2.1.getD 3 AV.undef)).bind fun iB=>A.ay 0 3 iB).bind fun gd=>
     (((A.cells 3 gd).bind fun iX=>(A.splice 0 iX [br,ah,AV.au]).bind fun iO=>some iO).bind fun cs=>some (AV.sl 3 (chunks 3 1 cs))).bind fun eZ=>
     (A.append 3 (140737488355328 / 48) gB eZ cZ.2.2).bind fun xK=>
     ((A.lb (cZ.2.1.getD 2 AV.undef)).bind fun _=>some (0)).bind fun Eo=>
     ((A.lb (cZ.2.1.getD 2 AV.undef)).bind fun _=>some (Eo)).bind fun Ep=>
     (A.lb (cZ.2.1.getD 2 AV.undef)).bind fun xw=>
     ((A.cell xK.1).bind fun v=>some [v]).bind fun uq=>
     (A.splice Ep uq xw).bind fun pO=>
     (A.add (bP.getD 3 AV.undef) aH).bind fun gD=>
     some (AX.normal,[(cZ.2.1.getD 0 AV.undef),(cZ.2.1.getD 1 AV.undef),(AV.lbx pO),gD],xK.2))else
    none) (
    some (AX.exit 0,[(bP.getD 0 AV.undef),(bP.getD 1 AV.undef),(bP.getD 2 AV.undef),(bP.getD 3 AV.undef)],gJ)))) [.lbx (bA s),u,.lbx [.au,un,.au,.au,pl],.int .i64 0] σ=some q∧∃v W,q=(.exit 0,[.lbx (bA s),u,.lbx [v,un,.au,.au,pl],.int .i64 (s.aQ.aY.length:Int)],W)∧Hs bK aC W (Sl uZ 3 v s.aQ.aY*R) by
  obtain⟨q,e,v,W,rfl,K⟩:=h
  exact⟨v,W,e,K⟩
 refine mm (fun z v w=>∃(i:Nat) (vo:AV),i≤s.aQ.aY.length∧v=[.lbx (bA s),u,.lbx [vo,un,.au,.au,pl],.int .i64 (i:Int)]∧z=s.aQ.aY.length-i∧Hs bK aC w (Sl uZ 3 vo (s.aQ.aY.take i)*R)) ?_ (n:=s.aQ.aY.length) ⟨0,.au,Nat.zero_le _,rfl,rfl,qY H (.inl rfl)⟩
 rintro z v w ⟨i,vo,hi,rfl,hz,K⟩
 by_cases h:i<s.aQ.aY.length
 ·obtain⟨x,bZ⟩:∃x,x=s.aQ.aY[i]:=⟨_,rfl⟩
  have hx:s.aQ.aY[i]? =some x:=by rw[bZ];exact List.getElem?_eq_getElem h
  have hpb:=hb.par x (List.mem_of_getElem? hx)
  have hlb:=hb.gI
  have step:∃gK w',((fun bP gJ=>
   (A.lss (bP.getD 3 AV.undef) (AV.int .i64 (s.aQ.aY.length:Int))).bind fun bM=>
   A.cond bM (
    (A.aT 3 (sl 3 cm s.aQ.aY) (bP.getD 3 AV.undef)).bind fun cC=>
    ((A.deref cC gJ).bind fun gO=>A.ay 0 3 gO).bind fun bO=>
    (A.cells 3 bO).bind fun fZ=>
    (A.splice 0 fZ [br,ah,AV.au]).bind fun eu=>
    (A.aj 2 eu).bind fun x24=>
    (EL [x24] gJ).bind fun jA=>
    ((A.cell jA.1).bind fun v=>some [v]).bind fun fM=>
    (A.splice 2 fM eu).bind fun lq=>
    (A.aj 2 lq).bind fun x28=>
    (A.bJ x28).bind fun x29=>
    (A.loop (fun v30 jQ=>
      (A.lss (v30.getD 4 AV.undef) x29).bind fun eB=>
      A.cond eB (
       ((A.lb (v30.getD 3 AV.undef)).bind fun _=>some (2)).bind fun xH=>
       ((A.lb (v30.getD 3 AV.undef)).bind fun gZ=>A.aj xH gZ).bind fun gz=>
       ((A.lb (v30.getD 3 AV.undef)).bind fun _=>some (2)).bind fun A6=>
       ((A.lb (v30.getD 3 AV.undef)).bind fun lu=>A.aj A6 lu).bind fun eY=>
       (A.aT 7 eY (v30.getD 4 AV.undef)).bind fun dc=>
       (A.aA 6 dc).bind fun dV=>
       ((A.deref dV jQ).bind fun lQ=>A.aj 0 lQ).bind fun fB=>
       (A.quiet ((A.jl (.s 3) CG) [fB] jQ) jQ).bind fun eC=>
       (A.aT 7 gz (v30.getD 4 AV.undef)).bind fun eo=>
       (A.aA 6 eo).bind fun fC=>
       ((A.cell eC).bind fun v=>some [v]).bind fun iW=>
       (A.storeAt fC iW jQ).bind fun pM=>
       (A.add (v30.getD 4 AV.undef) aH).bind fun eD=>
       some (AX.normal,[(v30.getD 0 AV.undef),(v30.getD 1 AV.undef),(v30.getD 2 AV.undef),(v30.getD 3 AV.undef),eD],pM)) (
       some (AX.exit 2,[(v30.getD 0 AV.undef),(v30.getD 1 AV.undef),(v30.getD 2 AV.undef),(v30.getD 3 AV.undef),(v30.getD 4 AV.undef)],jQ))) [(bP.getD 0 AV.undef),(bP.getD 1 AV.undef),(bP.getD 2 AV.undef),(AV.lbx lq),ah] jA.2).bind fun cZ=>
    bif cZ.1==AX.exit 2 then(
     ((A.lb (cZ.2.1.getD 2 AV.undef)).bind fun _=>some (0)).bind fun Em=>
     ((A.lb (cZ.2.1.getD 2 AV.undef)).bind fun _=>some (Em)).bind fun En=>
     ((A.lb (cZ.2.1.getD 2 AV.undef)).bind fun nP=>A.aj En nP).bind fun gB=>
     ((A.lb (cZ.2.1.getD 3 AV.undef)).bind fun iB=>A.ay 0 3 iB).bind fun gd=>
     (((A.cells 3 gd).bind fun iX=>(A.splice 0 iX [br,ah,AV.au]).bind fun iO=>some iO).bind fun cs=>some (AV.sl 3 (chunks 3 1 cs))).bind fun eZ=>
     (A.append 3 (140737488355328 / 48) gB eZ cZ.2.2).bind fun xK=>
     ((A.lb (cZ.2.1.getD 2 AV.undef)).bind fun _=>some (0)).bind fun Eo=>
     ((A.lb (cZ.2.1.getD 2 AV.undef)).bind fun _=>some (Eo)).bind fun Ep=>
     (A.lb (cZ.2.1.getD 2 AV.undef)).bind fun xw=>
     ((A.cell xK.1).bind fun v=>some [v]).bind fun uq=>
     (A.splice Ep uq xw).bind fun pO=>
     (A.add (bP.getD 3 AV.undef) aH).bind fun gD=>
     some (AX.normal,[(cZ.2.1.getD 0 AV.undef),(cZ.2.1.getD 1 AV.undef),(AV.lbx pO),gD],xK.2))else
    none) (
    some (AX.exit 0,[(bP.getD 0 AV.undef),(bP.getD 1 AV.undef),(bP.getD 2 AV.undef),(bP.getD 3 AV.undef)],gJ)))) [.lbx (bA s),u,.lbx [vo,un,.au,.au,pl],.int .i64 (i:Int)] w=some (.normal,[.lbx (bA s),u,.lbx [gK,un,.au,.au,pl],.int .i64 ((i+1:Nat):Int)],w')∧Hs bK aC w' (Sl uZ 3 gK (s.aQ.aY.take i++[x])*R):=by
   simp only[List.getD_cons_zero,List.getD_cons_succ]
   rw[jr hx,bS,cW,iQ hx,bS,nU,bS,show A.ay 0 3 (cm x)=some (.agg (cm x))from rfl,bS,show A.cells 3 (.agg (cm x))=some (cm x)from rfl,bS,show A.splice 0 (cm x) [br,ah,AV.au]=some (cm x)from rfl,bS,p9,bS]
   obtain⟨pv,w1,c1,c2,c3⟩:=alc hpb.1 K
   have xD:=Y8 c3
   rw[c1,bS]
   simp only
   rw[show((A.cell pv).bind fun v=>some [v])=some [pv]from by rw[c2];rfl,bS,show A.splice 2 [pv] (cm x)=some [.str x.name,.int .i64 x.size,pv]from rfl,bS,show A.aj 2 [.str x.name,.int .i64 x.size,pv]=some pv from c2,bS,xD.len,bS]
   refine F2 (ajE hpb.2 hpb.1 xD _ _ _) ?_
   simp only[l9,List.getD_cons_zero,List.getD_cons_succ,ia,bS]
   have IW:=zP K
   rw[show A.aj 0 [vo,un,.au,.au,pl]=some vo from IW,bS,show A.ay 0 3 [.str x.name,.int .i64 x.size,pv]=some (.agg [.str x.name,.int .i64 x.size,pv])from rfl,bS,ai5,bS]
   obtain⟨gK,w2,f1,f2⟩:=LX (most:=140737488355328 / 48) (E:=uZ) (l:=s.aQ.aY.take i) (v:=vo) (e:=[.str x.name,.int .i64 x.size,pv]) (x:=x) (R:=R) (by rw[List.length_take];omega) (hs_eq (by ac_rfl) (aaz.2 ⟨pv,rfl,c3⟩))
   rw[f1,bS]
   simp only
   rw[show((A.cell gK).bind fun v=>some [v])=some [gK]from by rw[zP f2];rfl,bS,show A.splice 0 [gK] [vo,un,.au,.au,pl]=some [gK,un,.au,.au,pl]from rfl,bS,fU hx (by unfold aW;omega),bS]
   exact⟨gK,w2,rfl,f2⟩
  obtain⟨gK,w',s1,s2⟩:=step
  refine .inl ⟨s.aQ.aY.length-(i+1),_,_,by omega,s1,i+1,gK,h,rfl,rfl,?_⟩
  rw[List.take_add_one,hx]
  exact s2
 ·have:i=s.aQ.aY.length:=by omega
  subst this
  rw[List.take_length]at K
  refine .inr ⟨(.exit 0,[.lbx (bA s),u,.lbx [vo,un,.au,.au,pl],.int .i64 (s.aQ.aY.length:Int)],w),?_,by simp,vo,w,rfl,K⟩
  simp only[List.getD_cons_zero,List.getD_cons_succ]
  rw[jq,bS,cD]
theorem al3 {s:gf} (hb:FU s) (H:Hs bK aC σ R) (vl un pl u:AV) (hvl:A.cell vl=some vl):∃v W,A.loop ((fun v72 sF=>
    (A.lss (v72.getD 3 AV.undef) (AV.int .i64 (s.bH.length:Int))).bind fun eE=>
    A.cond eE (
     (A.aT 3 (sl 3 dN s.bH) (v72.getD 3 AV.undef)).bind fun je=>
     ((A.deref je sF).bind fun lR=>A.ay 0 3 lR).bind fun jC=>
     (A.cells 3 jC).bind fun AK=>
     (A.splice 0 AK [ah,br,AV.au]).bind fun ur=>
     (A.aj 2 ur).bind fun pZ=>
     ((A.jl (.s 3) EH) [pZ] sF).bind fun xM=>
     ((A.cell xM.1).bind fun v=>some [v]).bind fun kD=>
     (A.splice 2 kD ur).bind fun iY=>
     ((A.lb (v72.getD 2 AV.undef)).bind fun _=>some (2)).bind fun Et=>
     ((A.lb (v72.getD 2 AV.undef)).bind fun xy=>A.aj Et xy).bind fun mO=>
     (A.ay 0 3 iY).bind fun iJ=>
     (((A.cells 3 iJ).bind fun nS=>(A.splice 0 nS [ah,br,AV.au]).bind fun nT=>some nT).bind fun cs=>some (AV.sl 3 (chunks 3 1 cs))).bind fun x91=>
     (A.append 3 (140737488355328 / 48) mO x91 xM.2).bind fun xQ=>
     ((A.lb (v72.getD 2 AV.undef)).bind fun _=>some (2)).bind fun Ev=>
     (A.lb (v72.getD 2 AV.undef)).bind fun D9=>
     ((A.cell xQ.1).bind fun v=>some [v]).bind fun sk=>
     (A.splice Ev sk D9).bind fun jx=>
     (A.add (v72.getD 3 AV.undef) aH).bind fun xV=>
     some (AX.normal,[(v72.getD 0 AV.undef),(v72.getD 1 AV.undef),(AV.lbx jx),xV],xQ.2)) (
     some (AX.exit 4,[(v72.getD 0 AV.undef),(v72.getD 1 AV.undef),(v72.getD 2 AV.undef),(v72.getD 3 AV.undef)],sF)))) [.lbx (bA s),u,.lbx [vl,un,.au,.au,pl],.int .i64 0] σ=some (.exit 4,[.lbx (bA s),u,.lbx [vl,un,v,.au,pl],.int .i64 (s.bH.length:Int)],W)∧Hs bK aC W (Sl (fl dN) 3 v s.bH*R):=by
 suffices h:∃q,A.loop ((fun v72 sF=>
    (A.lss (v72.getD 3 AV.undef) (AV.int .i64 (s.bH.length:Int))).bind fun eE=>
    A.cond eE (
     (A.aT 3 (sl 3 dN s.bH) (v72.getD 3 AV.undef)).bind fun je=>
     ((A.deref je sF).bind fun lR=>A.ay 0 3 lR).bind fun jC=>
     (A.cells 3 jC).bind fun AK=>
     (A.splice 0 AK [ah,br,AV.au]).bind fun ur=>
     (A.aj 2 ur).bind fun pZ=>
     ((A.jl (.s 3) EH) [pZ] sF).bind fun xM=>
     ((A.cell xM.1).bind fun v=>some [v]).bind fun kD=>
     (A.splice 2 kD ur).bind fun iY=>
     ((A.lb (v72.getD 2 AV.undef)).bind fun _=>some (2)).bind fun Et=>
     ((A.lb (v72.getD 2 AV.undef)).bind fun xy=>A.aj Et xy).bind fun mO=>
     (A.ay 0 3 iY).bind fun iJ=>
     (((A.cells 3 iJ).bind fun nS=>(A.splice 0 nS [ah,br,AV.au]).bind fun nT=>some nT).bind fun cs=>some (AV.sl 3 (chunks 3 1 cs))).bind fun x91=>
     (A.append 3 (140737488355328 / 48) mO x91 xM.2).bind fun xQ=>
     ((A.lb (v72.getD 2 AV.undef)).bind fun _=>some (2)).bind fun Ev=>
     (A.lb (v72.getD 2 AV.undef)).bind fun D9=>
     ((A.cell xQ.1).bind fun v=>some [v]).bind fun sk=>
     (A.splice Ev sk D9).bind fun jx=>
     (A.add (v72.getD 3 AV.undef) aH).bind fun xV=>
     some (AX.normal,[(v72.getD 0 AV.undef),(v72.getD 1 AV.undef),(AV.lbx jx),xV],xQ.2)) (
     some (AX.exit 4,[(v72.getD 0 AV.undef),(v72.getD 1 AV.undef),(v72.getD 2 AV.undef),(v72.getD 3 AV.undef)],sF)))) [.lbx (bA s),u,.lbx [vl,un,.au,.au,pl],.int .i64 0] σ=some q∧∃v W,q=(.exit 4,[.lbx (bA s),u,.lbx [vl,un,v,.au,pl],.int .i64 (s.bH.length:Int)],W)∧Hs bK aC W (Sl (fl dN) 3 v s.bH*R) by
  obtain⟨q,e,v,W,rfl,K⟩:=h
  exact⟨v,W,e,K⟩
 refine mm (fun z v w=>∃(i:Nat) (vo:AV),i≤s.bH.length∧v=[.lbx (bA s),u,.lbx [vl,un,vo,.au,pl],.int .i64 (i:Int)]∧z=s.bH.length-i∧Hs bK aC w (Sl (fl dN) 3 vo (s.bH.take i)*R)) ?_ (n:=s.bH.length) ⟨0,.au,Nat.zero_le _,rfl,rfl,qY H (.inl rfl)⟩
 rintro z v w ⟨i,vo,hi,rfl,hz,K⟩
 by_cases h:i<s.bH.length
 ·obtain⟨x,bZ⟩:∃x,x=s.bH[i]:=⟨_,rfl⟩
  have hx:s.bH[i]? =some x:=by rw[bZ];exact List.getElem?_eq_getElem h
  have hpb:=hb.pre.2 x (List.mem_of_getElem? hx)
  have hlb:=hb.pre.1
  have step:∃gK w',((fun v72 sF=>
    (A.lss (v72.getD 3 AV.undef) (AV.int .i64 (s.bH.length:Int))).bind fun eE=>
    A.cond eE (
     (A.aT 3 (sl 3 dN s.bH) (v72.getD 3 AV.undef)).bind fun je=>
     ((A.deref je sF).bind fun lR=>A.ay 0 3 lR).bind fun jC=>
     (A.cells 3 jC).bind fun AK=>
     (A.splice 0 AK [ah,br,AV.au]).bind fun ur=>
     (A.aj 2 ur).bind fun pZ=>
     ((A.jl (.s 3) EH) [pZ] sF).bind fun xM=>
     ((A.cell xM.1).bind fun v=>some [v]).bind fun kD=>
     (A.splice 2 kD ur).bind fun iY=>
     ((A.lb (v72.getD 2 AV.undef)).bind fun _=>some (2)).bind fun Et=>
     ((A.lb (v72.getD 2 AV.undef)).bind fun xy=>A.aj Et xy).bind fun mO=>
     (A.ay 0 3 iY).bind fun iJ=>
     (((A.cells 3 iJ).bind fun nS=>(A.splice 0 nS [ah,br,AV.au]).bind fun nT=>some nT).bind fun cs=>some (AV.sl 3 (chunks 3 1 cs))).bind fun x91=>
     (A.append 3 (140737488355328 / 48) mO x91 xM.2).bind fun xQ=>
     ((A.lb (v72.getD 2 AV.undef)).bind fun _=>some (2)).bind fun Ev=>
     (A.lb (v72.getD 2 AV.undef)).bind fun D9=>
     ((A.cell xQ.1).bind fun v=>some [v]).bind fun sk=>
     (A.splice Ev sk D9).bind fun jx=>
     (A.add (v72.getD 3 AV.undef) aH).bind fun xV=>
     some (AX.normal,[(v72.getD 0 AV.undef),(v72.getD 1 AV.undef),(AV.lbx jx),xV],xQ.2)) (
     some (AX.exit 4,[(v72.getD 0 AV.undef),(v72.getD 1 AV.undef),(v72.getD 2 AV.undef),(v72.getD 3 AV.undef)],sF)))) [.lbx (bA s),u,.lbx [vl,un,vo,.au,pl],.int .i64 (i:Int)] w=some (.normal,[.lbx (bA s),u,.lbx [vl,un,gK,.au,pl],.int .i64 ((i+1:Nat):Int)],w')∧Hs bK aC w' (Sl (fl dN) 3 gK (s.bH.take i++[x])*R):=by
   simp only[List.getD_cons_zero,List.getD_cons_succ]
   rw[jr hx,bS,cW,iQ hx,bS,nU,bS,show A.ay 0 3 (dN x)=some (.agg (dN x))from rfl,bS,show A.cells 3 (.agg (dN x))=some (dN x)from rfl,bS,show A.splice 0 (dN x) [ah,br,AV.au]=some (dN x)from rfl,bS,show A.aj 2 (dN x)=some (sl 3 dM x.jL)from rfl,bS,Fa (most:=140737488355328 / 32) (m:=EH) (r0:=NF) KF rfl (fun _ _=>rfl) (by omega) w,bS]
   simp only[ia,bS]
   have IW:=zP K
   rw[show((A.cell (sl 3 dM x.jL)).bind fun v=>some [v])=some [sl 3 dM x.jL]from rfl,bS,show A.splice 2 [sl 3 dM x.jL] (dN x)=some (dN x)from rfl,bS,show A.aj 2 [vl,un,vo,.au,pl]=some vo from IW,bS,show A.ay 0 3 (dN x)=some (.agg (dN x))from rfl,bS,show(((A.cells 3 (.agg (dN x))).bind fun iX=>(A.splice 0 iX [ah,br,AV.au]).bind fun iO=>some iO).bind fun cs=>some (AV.sl 3 (chunks 3 1 cs)))=some (.sl 3 [dN x])from rfl,bS]
   obtain⟨gK,w2,f1,f2⟩:=LX (most:=140737488355328 / 48) (E:=fl dN) (l:=s.bH.take i) (v:=vo) (e:=dN x) (x:=x) (R:=R) (by rw[List.length_take];omega) (hs_eq (by ac_rfl) (mW.2 ⟨(rfl:dN x=dN x),K⟩))
   rw[f1,bS]
   simp only
   rw[show((A.cell gK).bind fun v=>some [v])=some [gK]from by rw[zP f2];rfl,bS,show A.splice 2 [gK] [vl,un,vo,.au,pl]=some [vl,un,gK,.au,pl]from rfl,bS,fU hx (by unfold aW;omega),bS]
   exact⟨gK,w2,rfl,f2⟩
  obtain⟨gK,w',s1,s2⟩:=step
  refine .inl ⟨s.bH.length-(i+1),_,_,by omega,s1,i+1,gK,h,rfl,rfl,?_⟩
  rw[List.take_add_one,hx]
  exact s2
 ·have:i=s.bH.length:=by omega
  subst this
  rw[List.take_length]at K
  refine .inr ⟨(.exit 4,[.lbx (bA s),u,.lbx [vl,un,vo,.au,pl],.int .i64 (s.bH.length:Int)],w),?_,by simp,vo,w,rfl,K⟩
  simp only[List.getD_cons_zero,List.getD_cons_succ]
  rw[jq,bS,cD]
theorem alb {l:List bf} (hl:l.length≤1000000) (H:Hs bK aC σ R):∃v σ',CI [sl 11 aZ l] σ=some (v,σ')∧A.cell v=some v∧Hs bK aC σ' (Sl (fl aZ) 11 v l*R):=anF (by omega) H
theorem al4 {s:gf} (hb:FU s) (H:Hs bK aC σ R) (vl un vp pl u:AV):∃v W,A.loop ((fun iG rW=>
     (A.lss (iG.getD 2 AV.undef) (AV.int .i64 (s.lists.length:Int))).bind fun nI=>
     A.cond nI (
      (A.aT 2 (sl 2 dU s.lists) (iG.getD 2 AV.undef)).bind fun nJ=>
      ((A.deref nJ rW).bind fun Dx=>A.ay 0 2 Dx).bind fun nK=>
      (A.cells 2 nK).bind fun Dy=>
      (A.splice 0 Dy [ah,AV.au]).bind fun mw=>
      (A.aj 1 mw).bind fun x112=>
      (CI [x112] rW).bind fun sY=>
      ((A.cell sY.1).bind fun v=>some [v]).bind fun DA=>
      (A.splice 1 DA mw).bind fun tP=>
      (A.aj 1 tP).bind fun DU=>
      (A.bJ DU).bind fun pK=>
      (A.loop (fun dr fQ=>
        (A.lss (dr.getD 3 AV.undef) pK).bind fun xe=>
        A.cond xe (
         ((A.lb (dr.getD 2 AV.undef)).bind fun _=>some (1)).bind fun As=>
         ((A.lb (dr.getD 2 AV.undef)).bind fun nD=>A.aj As nD).bind fun uc=>
         (A.aT 11 uc (dr.getD 3 AV.undef)).bind fun j0=>
         (A.aL j0).bind fun xg=>
         (A.aA 10 xg).bind fun xh=>
         ((A.deref xh fQ).bind fun lP=>A.aj 0 lP).bind fun ng=>
         (A.quiet ((A.jl (.s 8) CH) [ng] fQ) fQ).bind fun rX=>
         (A.aL j0).bind fun ud=>
         (A.aA 6 ud).bind fun mB=>
         (A.aA 1 mB).bind fun nL=>
         ((A.deref nL fQ).bind fun nE=>A.aj 0 nE).bind fun ue=>
         (A.quiet ((A.jl (.s 2) CF) [ue] fQ) fQ).bind fun nM=>
         (A.aL j0).bind fun uf=>
         (A.aA 10 uf).bind fun mC=>
         ((A.cell rX).bind fun v=>some [v]).bind fun wJ=>
         (A.storeAt mC wJ fQ).bind fun wK=>
         (A.aL j0).bind fun ug=>
         (A.aA 6 ug).bind fun xk=>
         (A.aA 1 xk).bind fun mD=>
         ((A.cell nM).bind fun v=>some [v]).bind fun Ai=>
         (A.storeAt mD Ai wK).bind fun Aj=>
         (A.add (dr.getD 3 AV.undef) aH).bind fun AF=>
         some (AX.normal,[(dr.getD 0 AV.undef),(dr.getD 1 AV.undef),(dr.getD 2 AV.undef),AF],Aj)) (
         some (AX.exit 8,[(dr.getD 0 AV.undef),(dr.getD 1 AV.undef),(dr.getD 2 AV.undef),(dr.getD 3 AV.undef)],fQ))) [(iG.getD 0 AV.undef),(iG.getD 1 AV.undef),(AV.lbx tP),ah] sY.2).bind fun iF=>
      bif iF.1==AX.exit 8 then(
       ((A.lb (iF.2.1.getD 1 AV.undef)).bind fun _=>some (3)).bind fun DP=>
       ((A.lb (iF.2.1.getD 1 AV.undef)).bind fun wL=>A.aj DP wL).bind fun x150=>
       ((A.lb (iF.2.1.getD 2 AV.undef)).bind fun wM=>A.ay 0 2 wM).bind fun x152=>
       (((A.cells 2 x152).bind fun tU=>(A.splice 0 tU [ah,AV.au]).bind fun DC=>some DC).bind fun cs=>some (AV.sl 2 (chunks 2 1 cs))).bind fun AG=>
       (A.append 2 (140737488355328 / 32) x150 AG iF.2.2).bind fun wZ=>
       ((A.lb (iF.2.1.getD 1 AV.undef)).bind fun _=>some (3)).bind fun DQ=>
       (A.lb (iF.2.1.getD 1 AV.undef)).bind fun wO=>
       ((A.cell wZ.1).bind fun v=>some [v]).bind fun sS=>
       (A.splice DQ sS wO).bind fun wN=>
       (A.add (iG.getD 2 AV.undef) aH).bind fun DV=>
       some (AX.normal,[(iF.2.1.getD 0 AV.undef),(AV.lbx wN),DV],wZ.2))else
      none) (
      some (AX.exit 6,[(iG.getD 0 AV.undef),(iG.getD 1 AV.undef),(iG.getD 2 AV.undef)],rW)))) [u,.lbx [vl,un,vp,.au,pl],.int .i64 0] σ=some (.exit 6,[u,.lbx [vl,un,vp,v,pl],.int .i64 (s.lists.length:Int)],W)∧Hs bK aC W (Sl uY 2 v s.lists*R):=by
 suffices h:∃q,A.loop ((fun iG rW=>
     (A.lss (iG.getD 2 AV.undef) (AV.int .i64 (s.lists.length:Int))).bind fun nI=>
     A.cond nI (
      (A.aT 2 (sl 2 dU s.lists) (iG.getD 2 AV.undef)).bind fun nJ=>
      ((A.deref nJ rW).bind fun Dx=>A.ay 0 2 Dx).bind fun nK=>
      (A.cells 2 nK).bind fun Dy=>
      (A.splice 0 Dy [ah,AV.au]).bind fun mw=>
      (A.aj 1 mw).bind fun x112=>
      (CI [x112] rW).bind fun sY=>
      ((A.cell sY.1).bind fun v=>some [v]).bind fun DA=>
      (A.splice 1 DA mw).bind fun tP=>
      (A.aj 1 tP).bind fun DU=>
      (A.bJ DU).bind fun pK=>
      (A.loop (fun dr fQ=>
        (A.lss (dr.getD 3 AV.undef) pK).bind fun xe=>
        A.cond xe (
         ((A.lb (dr.getD 2 AV.undef)).bind fun _=>some (1)).bind fun As=>
         ((A.lb (dr.getD 2 AV.undef)).bind fun nD=>A.aj As nD).bind fun uc=>
         (A.aT 11 uc (dr.getD 3 AV.undef)).bind fun j0=>
         (A.aL j0).bind fun xg=>
         (A.aA 10 xg).bind fun xh=>
         ((A.deref xh fQ).bind fun lP=>A.aj 0 lP).bind fun ng=>
         (A.quiet ((A.jl (.s 8) CH) [ng] fQ) fQ).bind fun rX=>
         (A.aL j0).bind fun ud=>
         (A.aA 6 ud).bind fun mB=>
         (A.aA 1 mB).bind fun nL=>
         ((A.deref nL fQ).bind fun nE=>A.aj 0 nE).bind fun ue=>
         (A.quiet ((A.jl (.s 2) CF) [ue] fQ) fQ).bind fun nM=>
         (A.aL j0).bind fun uf=>
         (A.aA 10 uf).bind fun mC=>
         ((A.cell rX).bind fun v=>some [v]).bind fun wJ=>
         (A.storeAt mC wJ fQ).bind fun wK=>
         (A.aL j0).bind fun ug=>
         (A.aA 6 ug).bind fun xk=>
         (A.aA 1 xk).bind fun mD=>
         ((A.cell nM).bind fun v=>some [v]).bind fun Ai=>
         (A.storeAt mD Ai wK).bind fun Aj=>
         (A.add (dr.getD 3 AV.undef) aH).bind fun AF=>
         some (AX.normal,[(dr.getD 0 AV.undef),(dr.getD 1 AV.undef),(dr.getD 2 AV.undef),AF],Aj)) (
         some (AX.exit 8,[(dr.getD 0 AV.undef),(dr.getD 1 AV.undef),(dr.getD 2 AV.undef),(dr.getD 3 AV.undef)],fQ))) [(iG.getD 0 AV.undef),(iG.getD 1 AV.undef),(AV.lbx tP),ah] sY.2).bind fun iF=>
      bif iF.1==AX.exit 8 then(
       ((A.lb (iF.2.1.getD 1 AV.undef)).bind fun _=>some (3)).bind fun DP=>
       ((A.lb (iF.2.1.getD 1 AV.undef)).bind fun wL=>A.aj DP wL).bind fun x150=>
       ((A.lb (iF.2.1.getD 2 AV.undef)).bind fun wM=>A.ay 0 2 wM).bind fun x152=>
       (((A.cells 2 x152).bind fun tU=>(A.splice 0 tU [ah,AV.au]).bind fun DC=>some DC).bind fun cs=>some (AV.sl 2 (chunks 2 1 cs))).bind fun AG=>
       (A.append 2 (140737488355328 / 32) x150 AG iF.2.2).bind fun wZ=>
       ((A.lb (iF.2.1.getD 1 AV.undef)).bind fun _=>some (3)).bind fun DQ=>
       (A.lb (iF.2.1.getD 1 AV.undef)).bind fun wO=>
       ((A.cell wZ.1).bind fun v=>some [v]).bind fun sS=>
       (A.splice DQ sS wO).bind fun wN=>
       (A.add (iG.getD 2 AV.undef) aH).bind fun DV=>
       some (AX.normal,[(iF.2.1.getD 0 AV.undef),(AV.lbx wN),DV],wZ.2))else
      none) (
      some (AX.exit 6,[(iG.getD 0 AV.undef),(iG.getD 1 AV.undef),(iG.getD 2 AV.undef)],rW)))) [u,.lbx [vl,un,vp,.au,pl],.int .i64 0] σ=some q∧∃v W,q=(.exit 6,[u,.lbx [vl,un,vp,v,pl],.int .i64 (s.lists.length:Int)],W)∧Hs bK aC W (Sl uY 2 v s.lists*R) by
  obtain⟨q,e,v,W,rfl,K⟩:=h
  exact⟨v,W,e,K⟩
 refine mm (fun z v w=>∃(i:Nat) (vo:AV),i≤s.lists.length∧v=[u,.lbx [vl,un,vp,vo,pl],.int .i64 (i:Int)]∧z=s.lists.length-i∧Hs bK aC w (Sl uY 2 vo (s.lists.take i)*R)) ?_ (n:=s.lists.length) ⟨0,.au,Nat.zero_le _,rfl,rfl,qY H (.inl rfl)⟩
 rintro z v w ⟨i,vo,hi,rfl,hz,K⟩
 by_cases h:i<s.lists.length
 ·obtain⟨x,bZ⟩:∃x,x=s.lists[i]:=⟨_,rfl⟩
  have hx:s.lists[i]? =some x:=by rw[bZ];exact List.getElem?_eq_getElem h
  have hpb:=hb.bT x (List.mem_of_getElem? hx)
  have hlb:=hb.No
  have step:∃gK w',((fun iG rW=>
     (A.lss (iG.getD 2 AV.undef) (AV.int .i64 (s.lists.length:Int))).bind fun nI=>
     A.cond nI (
      (A.aT 2 (sl 2 dU s.lists) (iG.getD 2 AV.undef)).bind fun nJ=>
      ((A.deref nJ rW).bind fun Dx=>A.ay 0 2 Dx).bind fun nK=>
      (A.cells 2 nK).bind fun Dy=>
      (A.splice 0 Dy [ah,AV.au]).bind fun mw=>
      (A.aj 1 mw).bind fun x112=>
      (CI [x112] rW).bind fun sY=>
      ((A.cell sY.1).bind fun v=>some [v]).bind fun DA=>
      (A.splice 1 DA mw).bind fun tP=>
      (A.aj 1 tP).bind fun DU=>
      (A.bJ DU).bind fun pK=>
      (A.loop (fun dr fQ=>
        (A.lss (dr.getD 3 AV.undef) pK).bind fun xe=>
        A.cond xe (
         ((A.lb (dr.getD 2 AV.undef)).bind fun _=>some (1)).bind fun As=>
         ((A.lb (dr.getD 2 AV.undef)).bind fun nD=>A.aj As nD).bind fun uc=>
         (A.aT 11 uc (dr.getD 3 AV.undef)).bind fun j0=>
         (A.aL j0).bind fun xg=>
         (A.aA 10 xg).bind fun xh=>
         ((A.deref xh fQ).bind fun lP=>A.aj 0 lP).bind fun ng=>
         (A.quiet ((A.jl (.s 8) CH) [ng] fQ) fQ).bind fun rX=>
         (A.aL j0).bind fun ud=>
         (A.aA 6 ud).bind fun mB=>
         (A.aA 1 mB).bind fun nL=>
         ((A.deref nL fQ).bind fun nE=>A.aj 0 nE).bind fun ue=>
         (A.quiet ((A.jl (.s 2) CF) [ue] fQ) fQ).bind fun nM=>
         (A.aL j0).bind fun uf=>
         (A.aA 10 uf).bind fun mC=>
         ((A.cell rX).bind fun v=>some [v]).bind fun wJ=>
         (A.storeAt mC wJ fQ).bind fun wK=>
         (A.aL j0).bind fun ug=>
         (A.aA 6 ug).bind fun xk=>
         (A.aA 1 xk).bind fun mD=>
         ((A.cell nM).bind fun v=>some [v]).bind fun Ai=>
         (A.storeAt mD Ai wK).bind fun Aj=>
         (A.add (dr.getD 3 AV.undef) aH).bind fun AF=>
         some (AX.normal,[(dr.getD 0 AV.undef),(dr.getD 1 AV.undef),(dr.getD 2 AV.undef),AF],Aj)) (
         some (AX.exit 8,[(dr.getD 0 AV.undef),(dr.getD 1 AV.undef),(dr.getD 2 AV.undef),(dr.getD 3 AV.undef)],fQ))) [(iG.getD 0 AV.undef),(iG.getD 1 AV.undef),(AV.lbx tP),ah] sY.2).bind fun iF=>
      bif iF.1==AX.exit 8 then(
       ((A.lb (iF.2.1.getD 1 AV.undef)).bind fun _=>some (3)).bind fun DP=>
       ((A.lb (iF.2.1.getD 1 AV.undef)).bind fun wL=>A.aj DP wL).bind fun x150=>
       ((A.lb (iF.2.1.getD 2 AV.undef)).bind fun wM=>A.ay 0 2 wM).bind fun x152=>
       (((A.cells 2 x152).bind fun tU=>(A.splice 0 tU [ah,AV.au]).bind fun DC=>some DC).bind fun cs=>some (AV.sl 2 (chunks 2 1 cs))).bind fun AG=>
       (A.append 2 (140737488355328 / 32) x150 AG iF.2.2).bind fun wZ=>
       ((A.lb (iF.2.1.getD 1 AV.undef)).bind fun _=>some (3)).bind fun DQ=>
       (A.lb (iF.2.1.getD 1 AV.undef)).bind fun wO=>
       ((A.cell wZ.1).bind fun v=>some [v]).bind fun sS=>
       (A.splice DQ sS wO).bind fun wN=>
       (A.add (iG.getD 2 AV.undef) aH).bind fun DV=>
       some (AX.normal,[(iF.2.1.getD 0 AV.undef),(AV.lbx wN),DV],wZ.2))else
      none) (
      some (AX.exit 6,[(iG.getD 0 AV.undef),(iG.getD 1 AV.undef),(iG.getD 2 AV.undef)],rW)))) [u,.lbx [vl,un,vp,vo,pl],.int .i64 (i:Int)] w=some (.normal,[u,.lbx [vl,un,vp,gK,pl],.int .i64 ((i+1:Nat):Int)],w')∧Hs bK aC w' (Sl uY 2 gK (s.lists.take i++[x])*R):=by
   simp only[List.getD_cons_zero,List.getD_cons_succ]
   rw[jr hx,bS,cW,iQ hx,bS,nU,bS,show A.ay 0 2 (dU x)=some (.agg (dU x))from rfl,bS,show A.cells 2 (.agg (dU x))=some (dU x)from rfl,bS,show A.splice 0 (dU x) [ah,AV.au]=some (dU x)from rfl,bS,Py,bS]
   obtain⟨pv,w1,c1,c2,c3⟩:=alb hpb.1 K
   have xD:=Y8 c3
   rw[c1,bS]
   simp only
   rw[show((A.cell pv).bind fun v=>some [v])=some [pv]from by rw[c2];rfl,bS,show A.splice 1 [pv] (dU x)=some [.int .i64 x.number,pv]from rfl,bS,show A.aj 1 [.int .i64 x.number,pv]=some pv from c2,bS,xD.len,bS]
   refine F2 (ajF hpb.2 hpb.1 xD _ _) ?_
   simp only[l9,List.getD_cons_zero,List.getD_cons_succ,ia,bS]
   have IW:=zP K
   rw[show A.aj 3 [vl,un,vp,vo,pl]=some vo from IW,bS,show A.ay 0 2 [.int .i64 x.number,pv]=some (.agg [.int .i64 x.number,pv])from rfl,bS,ai4,bS]
   obtain⟨gK,w2,f1,f2⟩:=LX (most:=140737488355328 / 32) (E:=uY) (l:=s.lists.take i) (v:=vo) (e:=[.int .i64 x.number,pv]) (x:=x) (R:=R) (by rw[List.length_take];omega) (hs_eq (by ac_rfl) (aax.2 ⟨pv,rfl,c3⟩))
   rw[f1,bS]
   simp only
   rw[show((A.cell gK).bind fun v=>some [v])=some [gK]from by rw[zP f2];rfl,bS,show A.splice 3 [gK] [vl,un,vp,vo,pl]=some [vl,un,vp,gK,pl]from rfl,bS,fU hx (by unfold aW;omega),bS]
   exact⟨gK,w2,rfl,f2⟩
  obtain⟨gK,w',s1,s2⟩:=step
  refine .inl ⟨s.lists.length-(i+1),_,_,by omega,s1,i+1,gK,h,rfl,rfl,?_⟩
  rw[List.take_add_one,hx]
  exact s2
 ·have:i=s.lists.length:=by omega
  subst this
  rw[List.take_length]at K
  refine .inr ⟨(.exit 6,[u,.lbx [vl,un,vp,vo,pl],.int .i64 (s.lists.length:Int)],w),?_,by simp,vo,w,rfl,K⟩
  simp only[List.getD_cons_zero,List.getD_cons_succ]
  rw[jq,bS,cD]
end
theorem ahY {s:gf} (hb:FU s) (σ:Heap):Kw [.agg (bA s)] σ=some (.agg (bA s),σ):=by
 suffices h:∃v,A.nn (.a [(.e 3 Dr),(.s 4),(.e 3 [.k,.k,(.s 3)]),(.e 2 [.k,(.e 11 uh)]),(.s 3)]) v=.agg (bA s)∧OJ (.agg (bA s)) σ=some (v,σ) by
  obtain⟨v,h1,h2⟩:=h
  exact Fv rfl (iS (qH rfl) rfl) h1 h2
 unfold OJ
 have hu:=hb.un
 have hpl:=hb.pl
 rw[show A.cells 5 (.agg (bA s))=some (bA s)from rfl,bS,show A.aj 4 (bA s)=some (sl 3 cz s.bF)from rfl,bS,Fa (most:=140737488355328 / 24) (m:=NC) (r0:=ND) OL rfl (fun _ _=>rfl) (by omega) σ,bS]
 simp only
 rw[show((((A.cell (sl 3 cz s.bF)).bind fun v=>some [v]).bind fun c4=>(A.splice 4 c4 zW).bind fun c5=>some c5).bind fun cs=>some (AV.agg cs))=some (.agg [AV.au,AV.au,AV.au,AV.au,sl 3 cz s.bF])from rfl,bS,show A.cells 5 (.agg [AV.au,AV.au,AV.au,AV.au,sl 3 cz s.bF])=some [AV.au,AV.au,AV.au,AV.au,sl 3 cz s.bF]from rfl,bS,show A.splice 0 [AV.au,AV.au,AV.au,AV.au,sl 3 cz s.bF] zW=some [AV.au,AV.au,AV.au,AV.au,sl 3 cz s.bF]from rfl,bS,show A.aj 1 (bA s)=some (sl 4 bU s.aQ.units)from rfl,bS,Fa (most:=140737488355328 / 40) (m:=NL) (r0:=NN) Qf rfl (fun _ _=>rfl) (by omega) σ,bS]
 simp only
 rw[show((A.cell (sl 4 bU s.aQ.units)).bind fun v=>some [v])=some [sl 4 bU s.aQ.units]from rfl,bS,show A.splice 1 [sl 4 bU s.aQ.units] [AV.au,AV.au,AV.au,AV.au,sl 3 cz s.bF]=some [AV.au,sl 4 bU s.aQ.units,AV.au,AV.au,sl 3 cz s.bF]from rfl,bS,VE,bS,fL,bS]
 obtain⟨v1,W1,l1,K1⟩:=al2 hb (R:=emp) (HV (B:=bK) σ) (sl 4 bU s.aQ.units) (sl 3 cz s.bF) (.lbx zW)
 refine R5 l1 ?_
 simp only[l9,List.getD_cons_zero,List.getD_cons_succ,ia,bS]
 rw[show A.aj 2 (bA s)=some (sl 3 dN s.bH)from rfl,bS,fL,bS]
 obtain⟨v2,W2,l2,K2⟩:=al3 hb K1 v1 (sl 4 bU s.aQ.units) (sl 3 cz s.bF) (.lbx zW) (zP K1)
 refine R5 l2 ?_
 simp only[l9,List.getD_cons_zero,List.getD_cons_succ,ia,bS]
 rw[show A.aj 3 (bA s)=some (sl 2 dU s.lists)from rfl,bS,fL,bS]
 obtain⟨v3,W3,l3,K3⟩:=al4 hb K2 v1 (sl 4 bU s.aQ.units) v2 (sl 3 cz s.bF) (.lbx zW)
 refine R5 l3 ?_
 simp only[l9,List.getD_cons_zero,List.getD_cons_succ,ia,bS]
 rw[show A.ay 0 5 [v1,sl 4 bU s.aQ.units,v2,v3,sl 3 cz s.bF]=some (.agg [v1,sl 4 bU s.aQ.units,v2,v3,sl 3 cz s.bF])from rfl,bS,show A.cells 5 (.agg [v1,sl 4 bU s.aQ.units,v2,v3,sl 3 cz s.bF])=some [v1,sl 4 bU s.aQ.units,v2,v3,sl 3 cz s.bF]from rfl,bS,show A.splice 0 [v1,sl 4 bU s.aQ.units,v2,v3,sl 3 cz s.bF] zW=some [v1,sl 4 bU s.aQ.units,v2,v3,sl 3 cz s.bF]from rfl,bS,show A.ay 0 5 [v1,sl 4 bU s.aQ.units,v2,v3,sl 3 cz s.bF]=some (.agg [v1,sl 4 bU s.aQ.units,v2,v3,sl 3 cz s.bF])from rfl,bS]
 have J1:=hs_eq (show _=Sl uZ 3 v1 s.aQ.aY*(Sl uY 2 v3 s.lists*(Sl (fl dN) 3 v2 s.bH*emp)) by ac_rfl) K3
 have J2:=hs_eq (show _=Sl (fl dN) 3 v2 s.bH*(Sl uY 2 v3 s.lists*(Sl uZ 3 v1 s.aQ.aY*emp)) by ac_rfl) K3
 obtain⟨v1',a1,a2⟩:=ai0 J1 (Nat.le_refl _) 6
 obtain⟨v2',b1,b2⟩:=QE J2 VW (Nat.le_refl _) 7
 obtain⟨v3',c1,c2⟩:=aiI K3 (Nat.le_refl _) 6
 refine⟨.agg [v1',sl 4 bU s.aQ.units,v2',v3',sl 3 cz s.bF],?_,Mn K3 ?_ ?_⟩
 ·have Jo:A.nn (.e 3 [.k,.k,(.s 3)]) v2'=sl 3 dN s.bH:=by
   rcases b2 with⟨h,rfl|rfl⟩|rfl
   ·rw[h];rfl
   ·rw[h];rfl
   ·exact tW (fun _=>rfl) _
  show AV.agg (A.bV [(.e 3 [.k,.k,(.e 7 MH)]),(.s 4),(.e 3 [.k,.k,(.s 3)]),(.e 2 [.k,(.e 11 FY)]),(.s 3)] _)=_
  simp only[A.bV,a2,Jo,c2]
  rfl
 ·simp only[A.bw,A.eO,a1,b1,c1,oS Qf _ W3 σ.length 8,oS OL _ W3 σ.length 8,Option.bind_some,Option.map_some]
 ·intro e
  have n1:v1'=v1:=by
   rcases zq J1 with⟨_,rfl|rfl,_⟩|⟨id,g,seg,rfl,hl,K⟩
   ·simp [A.bw]at a1;exact a1.symm
   ·simp [A.bw]at a1;exact a1.symm
   ·obtain⟨k1,k2⟩:=iz K
    have:=(List.getElem?_eq_some_iff.1 k2).1
    subst e;omega
  have n2:v2'=v2:=by
   rcases zq J2 with⟨_,rfl|rfl,_⟩|⟨id,g,seg,rfl,hl,K⟩
   ·simp [A.bw]at b1;exact b1.symm
   ·simp [A.bw]at b1;exact b1.symm
   ·obtain⟨k1,k2⟩:=iz K
    have:=(List.getElem?_eq_some_iff.1 k2).1
    subst e;omega
  have n3:v3'=v3:=by
   rcases zq K3 with⟨_,rfl|rfl,_⟩|⟨id,g,seg,rfl,hl,K⟩
   ·simp [A.bw]at c1;exact c1.symm
   ·simp [A.bw]at c1;exact c1.symm
   ·obtain⟨k1,k2⟩:=iz K
    have:=(List.getElem?_eq_some_iff.1 k2).1
    subst e;omega
  rw[n1,n2,n3]
end
end Go.Proofs.YtooknfkholjpbaaGreat
