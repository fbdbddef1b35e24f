/- Parts of the proof of TopCuesAreFades, in order. -/
import Derived.Orders
import Derived.Below
import Derived.WalkKit
import Derived.Laws.StructEq
import Derived.Laws.Append
import Derived.Laws.AppendOwn
import Derived.Test.YtfcnnphidnjleaaGreatRows
import Derived.KernelRfl
import Derived.Lib.Bytealg
import Derived.Sort.Defs
import Derived.Lib.BitFns
import Derived.Test.YtfcnnphidnjleaaGreatShelf
import Derived.Laws.Externs
import Derived.Lib.Overlaps
import Derived.IntWalk
import Derived.Sort.Statements
import Derived.Shelf.SlSortCmp.WholeK
import Derived.Shelf.SlSortCmp.NoneTotal
import Derived.Sort.AssemblyPlain
import Derived.Lib.Strings
import Derived.Test.YtfcnnphidnjleaaGreatKTopCuesAreFades4
namespace Go.Proofs.YtfcnnphidnjleaaGreat
set_option linter.unusedVariables false
set_option linter.unusedSimpArgs false
set_option linter.unusedSectionVars false
section
set_option maxRecDepth 100000
open HP
theorem alp {s:List Sh} {ro:Sh} {r:AV→AV→AV→Heap→Option (AV×Heap)} {x y z v v':AV} {σ:Heap} (h:[x,y,z].any A.own=false) (e1:A.bT s [x,y,z]=[x,y,z]) (e2:A.nn ro v=v') (e:r x y z σ=some (v,σ)):A.wrap true s ro (A.ko r) [x,y,z] σ=some (v',σ):=by
 refine wrap_eq h ?_ e2
 rw[e1]
 exact e
theorem Ch {x y X Y:Int} (hx:0≤x) (hx2:x≤X) (hy:0≤y) (hy2:y≤Y):0≤x*y∧x*y≤X*Y:=⟨Int.mul_nonneg hx hy,Int.mul_le_mul hx2 hy2 hy (by omega)⟩
def mM (l:List lI) (p q:Int):Nat→Nat→Nat
 |0,i=>i
 |f+1,i=>if i+2<l.length∧(l.getD (i+1) dQ).time*q≤1000*p then mM l p q f (i+1)else i
def TJ (l:List lI) (p q:Int):Int:=(l.getD (mM l p q l.length 0) dQ).way*((l.getD (mM l p q l.length 0+1) dQ).time-(l.getD (mM l p q l.length 0) dQ).time)*q+((l.getD (mM l p q l.length 0+1) dQ).way-(l.getD (mM l p q l.length 0) dQ).way)*(1000*p-(l.getD (mM l p q l.length 0) dQ).time*q)
def TI (l:List lI) (p q:Int):Int:=(l.getD (mM l p q l.length 0+1) dQ).time-(l.getD (mM l p q l.length 0) dQ).time
def nD (c:pO) (p q:Nat):Nat×Nat:=
 if c.kind=2 then(p*p,q*q)else if c.kind=3 then(p*(2*q-p),q*q)else if c.kind=4 then(p*p*(3*q-2*p),q*q*q)else if c.kind=5 then(if p<q then(0,1)else(1,1))
 else if c.kind=6 then((TJ c.points p q).toNat,(1000*TI c.points p q).toNat*q)else(p,q)
structure aaS (l : List lI) : Prop where
 two:2≤l.length
 len:l.length≤20
 bd:∀i,i<l.length→0≤(l.getD i dQ).time∧(l.getD i dQ).time≤1000∧0≤(l.getD i dQ).way∧(l.getD i dQ).way≤1000
 fst:(l.getD 0 dQ).time=0
 lst:(l.getD (l.length-1) dQ).time=1000
 ord:∀i,i+1<l.length→(l.getD i dQ).time<(l.getD (i+1) dQ).time∧(l.getD i dQ).way≤(l.getD (i+1) dQ).way
theorem al8 {c:pO} (h:pP c=0) (h6:c.kind=6):aaS c.points:=by
 unfold pP at h
 split at h
 ·cases h
 try rw[if_pos h6]at h
 split at h
 ·cases h
 split at h
 ·cases h
 rename_i h2 JH
 unfold TA at h
 split at h
 ·cases h
 rename_i hb
 split at h
 ·cases h
 rename_i hf
 split at h
 ·cases h
 rename_i hl
 split at h
 ·cases h
 rename_i ho
 have hb':∀p∈c.points,DU p=false:=by
  intro p hp
  cases q:DU p
  ·rfl
  ·exact absurd (List.any_eq_true.2 ⟨p,hp,q⟩) hb
 have hf:=Decidable.not_not.1 hf
 have hl:=Decidable.not_not.1 hl
 refine⟨by omega,by omega,fun i hi=>?_,hf.1,hl.1,fun i hi=>?_⟩
 ·have e:=B6 hi
  have:=hb' _ (List.mem_of_getElem? e)
  unfold DU aQ at this
  simp only[Bool.or_eq_false_iff,Bool.not_eq_false',decide_eq_true_eq]at this
  omega
 ·have h1:¬Ee c.points (i+1)=true:=fun q=>ho (List.any_eq_true.2 ⟨i+1,by rw[List.mem_range'];exact⟨i,by omega,by omega⟩,q⟩)
  unfold Ee at h1
  simp only[decide_eq_true_eq,Nat.add_sub_cancel]at h1
  omega
theorem Y9 {l:List lI} {p q:Int}:∀(f i:Nat),i+f=l.length→i+1<l.length→(l.getD i dQ).time*q≤1000*p→mM l p q f i+1<l.length∧(l.getD (mM l p q f i) dQ).time*q≤1000*p∧(1000*p<(l.getD (mM l p q f i+1) dQ).time*q∨mM l p q f i+2=l.length)
 |0,i,h1,h2,_=>by omega
 |f+1,i,h1,h2,h3=>by
  rw[mM]
  split
  ·rename_i h
   exact Y9 f (i+1) (by omega) (by omega) h.2
  ·rename_i h
   refine⟨h2,h3,?_⟩
   by_cases h4:i+2<l.length
   ·exact .inl (Int.lt_of_not_ge fun q=>h ⟨h4,q⟩)
   ·exact .inr (by omega)
theorem ajL {l : List lI} (hl : aaS l) {p q : Int} (hp : 0 ≤ p) (hp2 : p ≤ 36000000) (hq : 0 < q) (wo : q ≤ 36000000) (σ : Heap) : ∃ r, A.loop ((fun v64 gu =>
        (A.add (v64.getD 2 AV.undef) (AV.int .i64 2)).bind fun jX=>
        (A.bK (sl 2 iu l)).bind fun gI=>
        (A.lss jX gI).bind fun fQ=>
        (A.guard fQ true (some (AV.int .i64 p)) an).bind fun eZ=>
        (A.guard fQ true (A.mul (AV.int .i64 1000) eZ) an).bind fun mm=>
        (A.guard fQ true (some (sl 2 iu l)) an).bind fun qy=>
        (A.guard fQ true (some (v64.getD 2 AV.undef)) an).bind fun hG=>
        (A.guard fQ true (A.add hG aH) an).bind fun iq=>
        (A.guard fQ true (A.aW 2 qy iq) an).bind fun eu=>
        (A.guard fQ true (A.aA 0 eu) an).bind fun iD=>
        (A.guard fQ true ((A.deref iD gu).bind fun l7=>A.aj 0 l7) an).bind fun jg=>
        (A.guard fQ true (some (AV.int .i64 q)) an).bind fun jF=>
        (A.guard fQ true (A.mul jg jF) an).bind fun fA=>
        (A.guard fQ true (A.geq mm fA) an).bind fun oC=>
        (A.pick fQ oC aI).bind fun oD=>
        A.cond oD (
         (A.add (v64.getD 2 AV.undef) aH).bind fun pK=>
         some (AX.normal,[(v64.getD 0 AV.undef),(v64.getD 1 AV.undef),pK],gu)) (
         some (AX.exit 1,[(v64.getD 0 AV.undef),(v64.getD 1 AV.undef),(v64.getD 2 AV.undef)],gu)))) [.lbx [(AV.int .u64 0),(AV.int .u64 0)],.lbx [(AV.int .u64 0),(AV.int .u64 0)],.int .i64 0] σ=some r∧r=(.exit 1,[.lbx [(AV.int .u64 0),(AV.int .u64 0)],.lbx [(AV.int .u64 0),(AV.int .u64 0)],.int .i64 (mM l p q l.length 0:Nat)],σ):=by
 have JH:=hl.len
 refine nO (fun z v w=>∃i:Nat,v=[.lbx [(AV.int .u64 0),(AV.int .u64 0)],.lbx [(AV.int .u64 0),(AV.int .u64 0)],.int .i64 (i:Int)]∧w=σ∧z=l.length-i∧i≤l.length∧mM l p q (l.length-i) i=mM l p q l.length 0) ?_ (n:=l.length) ⟨0,rfl,rfl,rfl,Nat.zero_le _,rfl⟩
 rintro z v w ⟨i,rfl,rfl,hz,hi,hT⟩
 simp only[List.getD_cons_zero,List.getD_cons_succ]
 rw[show A.add (.int .i64 (i:Int)) (.int .i64 2)=some (.int .i64 ((i+2:Nat):Int))from BV (b:=2) (by omega),bS,gf,bS,kV,bS]
 by_cases h1:i+2<l.length
 ·obtain⟨b1,b2,_,_⟩:=hl.bd (i+1) (by omega)
  have m1:=Ch b1 b2 (Int.le_of_lt hq) wo
  have ex:=B6 (l:=l) (i:=i+1) (by omega)
  rw[decide_eq_true (by omega)]
  simp only[gT,bS]
  rw[xh,wrap64 (by unfold aM;omega),bS,show A.add (.int .i64 (i:Int)) (.int .i64 1)=some (.int .i64 ((i+1:Nat):Int))from BV (b:=1) (by omega),bS,jk ex,bS,show A.aA 0 (.rp (iu (l.getD (i+1) dQ)))=some (.rp (iu (l.getD (i+1) dQ)))from rfl,bS,oq,bS,show A.aj 0 (iu (l.getD (i+1) dQ))=some (.int .i64 (l.getD (i+1) dQ).time)from rfl,bS,xh,wrap64 (by unfold aM;omega),bS,su,bS]
  simp only[lq,bS]
  rw[show l.length-i=(l.length-(i+1))+1 by omega,mM]at hT
  by_cases h2:(l.getD (i+1) dQ).time*q≤1000*p
  ·rw[decide_eq_true h2,cA]
   rw[if_pos ⟨h1,h2⟩]at hT
   exact .inl ⟨l.length-(i+1),_,_,by omega,rfl,i+1,rfl,rfl,rfl,by omega,hT⟩
  ·rw[decide_eq_false h2,cz]
   rw[if_neg (fun q=>h2 q.2)]at hT
   exact .inr ⟨_,rfl,by simp,by rw[hT]⟩
 ·rw[decide_eq_false (by omega)]
  simp only[we,bS,nh]
  rw[cz]
  refine .inr ⟨_,rfl,by simp,?_⟩
  have:mM l p q (l.length-i) i=i:=by
   cases hf:l.length-i with
   |zero=>rfl
   |succ f=>rw[mM,if_neg (fun q=>h1 q.1)]
  rw[←hT,this]
theorem Bs {α:Type} {X:Option α} {v:α} (h:∃b,X=some b∧b=v):X=some v:=by obtain⟨b,h,rfl⟩:=h;exact h
theorem abm {c:pO} (hc:pP c=0) {p q:Nat} (hp:0<p) (hpq:p<q) (hq:q≤36000000) (σ:Heap):Lx [.agg (lJ c),.int .i64 (p:Int),.int .i64 (q:Int)] σ=some (.aF [.agg (wd (nD c p q).1),.agg (wd (nD c p q).2)],σ)∧(nD c p q).1≤(nD c p q).2∧0<(nD c p q).2∧(nD c p q).2<100000000000000000000000000:=by
 have q2:q*q≤36000000*36000000:=Nat.mul_le_mul hq hq
 have q3:q*q*q≤36000000*36000000*36000000:=Nat.mul_le_mul q2 hq
 have UO:0<q*q:=Nat.mul_pos (by omega) (by omega)
 have q3p:0<q*q*q:=Nat.mul_pos UO (by omega)
 have pp:p*p≤q*q:=Nat.mul_le_mul (by omega) (by omega)
 have head:∀{v:AV},A.nn .k v=v→True:=fun _=>trivial
 have go:(LK (.agg (lJ c)) (.int .i64 (p:Int)) (.int .i64 (q:Int)) σ=some (.aF [.agg (wd (nD c p q).1),.agg (wd (nD c p q).2)],σ))→Lx [.agg (lJ c),.int .i64 (p:Int),.int .i64 (q:Int)] σ=some (.aF [.agg (wd (nD c p q).1),.agg (wd (nD c p q).2)],σ):=fun h=>alp rfl (ff (mA rfl) rfl) (gQ _) h
 suffices LK (.agg (lJ c)) (.int .i64 (p:Int)) (.int .i64 (q:Int)) σ=some (.aF [.agg (wd (nD c p q).1),.agg (wd (nD c p q).2)],σ)∧(nD c p q).1≤(nD c p q).2∧0<(nD c p q).2∧(nD c p q).2<100000000000000000000000000 from⟨go this.1,this.2⟩
 clear go head
 unfold LK nD
 rw[show A.cells 2 (.agg (lJ c))=some (lJ c)from rfl,bS,zB (by omega),bS,wU (by omega) (by omega) (by omega),bS,nN,bS,pQ,bS,show A.aj 0 (lJ c)=some (.int .i64 c.kind)from rfl,bS,gR,bS]
 by_cases k2:c.kind=2
 ·rw[decide_eq_true k2,cA,if_pos k2,quiet_of (zB (by omega) σ),bS,quiet_of (wU (by omega) (by omega) (by omega) σ),bS,nv,bS,nN,bS,pQ,bS,nN,bS,pQ,bS,nv,bS,nv,bS]
  exact⟨br _ _,pp,UO,by omega⟩
 rw[decide_eq_false k2,cz,if_neg k2,gR,bS]
 by_cases k3:c.kind=3
 ·have hm:p*(2*q-p)≤q*q:=by
   obtain⟨t,rfl⟩:∃t,q=p+t:=⟨q-p,by omega⟩
   rw[show 2*(p+t) -p=p+2*t by omega,Nat.mul_add,Nat.add_mul,Nat.mul_add,Nat.mul_add]
   have e1:p*(2*t)=p*t+p*t:=by rw[←Nat.mul_add];congr 1;omega
   have e2:t*p=p*t:=Nat.mul_comm _ _
   rw[e1,e2];omega
  rw[decide_eq_true k3,cA,if_pos k3,quiet_of (zB (by omega) σ),bS,FZ (by omega),bS,QV (by omega) (by omega),bS,quiet_of (wU (by omega) (by omega) (by omega) σ),bS,nv,bS,nN,bS,pQ,bS,nN,bS,pQ,bS,nv,bS,nv,bS]
  exact⟨br _ _,hm,UO,by omega⟩
 rw[decide_eq_false k3,cz,if_neg k3,gR,bS]
 by_cases k4:c.kind=4
 ·have hm:p*p*(3*q-2*p)≤q*q*q:=by
   obtain⟨t,rfl⟩:∃t,q=p+t:=⟨q-p,by omega⟩
   rw[show 3*(p+t) -2*p=p+3*t by omega]
   have e1:(p+t)*(p+t)*(p+t)=p*p*(p+3*t)+(3*p*(t*t)+t*t*t):=by
    simp only[Nat.add_mul,Nat.mul_add]
    have a1:p*p*(3*t)=p*p*t+p*p*t+p*p*t:=by rw[show 3*t=t+t+t by omega,Nat.mul_add,Nat.mul_add]
    have a2:p*t*p=p*p*t:=by rw[Nat.mul_right_comm]
    have a3:t*p*p=p*p*t:=by rw[Nat.mul_comm t p,Nat.mul_right_comm]
    have a4:t*p*t=p*(t*t):=by rw[Nat.mul_comm t p,Nat.mul_assoc]
    have a5:p*t*t=p*(t*t):=Nat.mul_assoc _ _ _
    have a6:t*t*p=p*(t*t):=Nat.mul_comm _ _
    have a7:3*p*(t*t)=p*(t*t)+p*(t*t)+p*(t*t):=by rw[show 3*p=p+p+p by omega,Nat.add_mul,Nat.add_mul]
    rw[a1,a2,a3,a4,a5,a6,a7];omega
   rw[e1];omega
  rw[decide_eq_true k4,cA,if_pos k4,quiet_of (zB (by omega) σ),bS,quiet_of (wU (by omega) (by omega) (by omega) σ),bS,show A.mul (.int .i64 3) (.int .i64 (q:Int))=some (.int .i64 ((3*q:Nat):Int))from aib (a:=3) (by omega),bS,FZ (by omega),bS,QV (by omega) (by omega),bS,quiet_of (wU (by omega) (by omega) (by omega) σ),bS,nv,bS,quiet_of (wU (by omega) (by omega) (by omega) σ),bS,nN,bS,pQ,bS,nN,bS,pQ,bS,nv,bS,nv,bS]
  exact⟨br _ _,hm,q3p,by omega⟩
 rw[decide_eq_false k4,cz,if_neg k4,gR,bS]
 by_cases k5:c.kind=5
 ·rw[decide_eq_true k5,cA,if_pos k5,kV,bS,decide_eq_true (by omega),cA,if_pos hpq,show oG [.int .i64 0] σ=some (.agg (wd 0),σ)from zB (n:=0) (by omega) σ,bS]
  simp only
  rw[show oG [.int .i64 1] σ=some (.agg (wd 1),σ)from zB (n:=1) (by omega) σ,bS]
  simp only
  rw[nN,bS,pQ,bS,nN,bS,pQ,bS,nv,bS,nv,bS]
  exact⟨br _ _,by omega,by omega,by omega⟩
 rw[decide_eq_false k5,cz,if_neg k5,gR,bS]
 by_cases k6:c.kind=6
 ·rw[decide_eq_true k6,cA,if_pos k6,show A.aj 1 (lJ c)=some (sl 2 iu c.points)from rfl,bS]
  have hl:=al8 hc k6
  have JH:=hl.len
  obtain⟨s1,s2,s3⟩:=Y9 (l:=c.points) (p:=(p:Int)) (q:=(q:Int)) c.points.length 0 (by omega) (by have:=hl.two;omega) (by rw[hl.fst];omega)
  generalize hI:mM c.points (p:Int) (q:Int) c.points.length 0=i at s1 s2 s3
  obtain⟨a1,a2,a3,a4⟩:=hl.bd i (by omega)
  obtain⟨b1,b2,b3,b4⟩:=hl.bd (i+1) s1
  obtain⟨o1,o2⟩:=hl.ord i s1
  have exA:=B6 (l:=c.points) (i:=i) (by omega)
  have exB:=B6 (l:=c.points) (i:=i+1) s1
  have eN:TJ c.points (p:Int) (q:Int)=(c.points.getD i dQ).way*((c.points.getD (i+1) dQ).time-(c.points.getD i dQ).time)*(q:Int)+((c.points.getD (i+1) dQ).way-(c.points.getD i dQ).way)*(1000*(p:Int) -(c.points.getD i dQ).time*(q:Int)):=by unfold TJ;rw[hI]
  have eL:TI c.points (p:Int) (q:Int)=(c.points.getD (i+1) dQ).time-(c.points.getD i dQ).time:=by unfold TI;rw[hI]
  have hbt:1000*(p:Int)≤(c.points.getD (i+1) dQ).time*(q:Int):=by
   rcases s3 with s3|s3
   ·omega
   ·have:=hl.lst
    rw[show c.points.length-1=i+1 by omega]at this
    rw[this];omega
  rw[eN,eL]
  generalize hA:c.points.getD i dQ=pa at exA a1 a2 a3 a4 o1 o2 s2
  generalize hB:c.points.getD (i+1) dQ=pb at exB b1 b2 b3 b4 o1 o2 hbt
  obtain⟨T,hT⟩:∃T,T=pb.time-pa.time:=⟨_,rfl⟩
  obtain⟨D,hD⟩:∃D,D=pb.way-pa.way:=⟨_,rfl⟩
  have m1:=Ch a1 a2 (show(0:Int)≤(q:Int) by omega) (show(q:Int)≤36000000 by omega)
  obtain⟨U,hU⟩:∃U,U=1000*(p:Int) -pa.time*(q:Int):=⟨_,rfl⟩
  have m2:=Ch a3 a4 (show 0≤T by omega) (show T≤1000 by omega)
  have m3:=Ch m2.1 m2.2 (show(0:Int)≤(q:Int) by omega) (show(q:Int)≤36000000 by omega)
  have m4:=Ch (show 0≤D by omega) (show D≤1000 by omega) (show 0≤U by omega) (show U≤36000000000 by omega)
  have m5:=Ch (show 0≤T by omega) (show T≤1000 by omega) (show(0:Int)≤(q:Int) by omega) (show(q:Int)≤36000000 by omega)
  have hUT:U≤T*(q:Int):=by rw[hT,Int.sub_mul];omega
  have m6:D*U≤D*(T*(q:Int)):=Int.mul_le_mul_of_nonneg_left hUT (by omega)
  have m7:pb.way*(T*(q:Int))≤1000*(T*(q:Int)):=Int.mul_le_mul_of_nonneg_right b4 m5.1
  have m8:pa.way*T*(q:Int)+D*(T*(q:Int))=pb.way*(T*(q:Int)):=by rw[hD,Int.sub_mul,Int.mul_assoc];omega
  rw[←hT,←hD,←hU]
  have t1:0<T:=by omega
  have t2:0<T*(q:Int):=Int.mul_pos t1 (by omega)
  have qv:(((1000*T).toNat*q:Nat):Int)=1000*(T*(q:Int)):=by rw[Int.natCast_mul,Int.toNat_of_nonneg (by omega),Int.mul_assoc]
  refine⟨Bs (Gp (ajL hl (p:=(p:Int)) (q:=(q:Int)) (by omega) (by omega) (by omega) (by omega) σ) ?_),by show(_:Nat)≤_;omega,by show 0<(_:Nat);omega,by show(_:Nat)<_;omega⟩
  rintro r rfl
  simp only[nG,List.getD_cons_zero,List.getD_cons_succ]
  rw[hI,jk exA,bS,oq,bS,Dx,bS,show A.add (.int .i64 (i:Int)) (.int .i64 1)=some (.int .i64 ((i+1:Nat):Int))from BV (b:=1) (by omega),bS,jk exB,bS,oq,bS,Dx,bS,Dt,bS,Dy _ _ rfl,bS,Dt,bS,Dy _ _ rfl,bS]
  rw[show A.aj 0 (iu pb)=some (.int .i64 pb.time)from rfl,bS,show A.aj 0 (iu pa)=some (.int .i64 pa.time)from rfl,bS,oZ,wrap64 (by unfold aM;omega),←hT,bS,show A.aj 1 (iu pa)=some (.int .i64 pa.way)from rfl,bS,xh,wrap64 (by unfold aM;omega),bS,xh,wrap64 (by unfold aM;omega),bS,show A.aj 1 (iu pb)=some (.int .i64 pb.way)from rfl,bS,bS,oZ,wrap64 (by unfold aM;omega),←hD,bS,xh,wrap64 (by unfold aM;omega),bS,bS,xh,wrap64 (by unfold aM;omega),bS,oZ,wrap64 (by unfold aM;omega),←hU,bS,xh,wrap64 (by unfold aM;omega),bS,kU,wrap64 (by unfold aM;omega),bS]
  have of1:∀w,oG [.int .i64 (pa.way*T*(q:Int)+D*U)] w=some (.agg (wd (pa.way*T*(q:Int)+D*U).toNat),w):=fun w=>by
   have:=zB (n:=(pa.way*T*(q:Int)+D*U).toNat) (by omega) w
   rwa[Int.toNat_of_nonneg (by omega)]at this
  have of2:∀w,oG [.int .i64 (1000*T)] w=some (.agg (wd (1000*T).toNat),w):=fun w=>by
   have:=zB (n:=(1000*T).toNat) (by omega) w
   rwa[Int.toNat_of_nonneg (by omega)]at this
  rw[of1,bS,xh,wrap64 (by unfold aM;omega),bS]
  simp only
  rw[of2,bS]
  simp only
  rw[wU (by omega) (by omega) (by omega),bS]
  simp only
  rw[show A.lb (.lbx [(AV.int .u64 0),(AV.int .u64 0)])=some [(AV.int .u64 0),(AV.int .u64 0)]from rfl,bS,nN,bS,pQ,bS,bS,nN,bS,pQ,bS,nv,bS,nv,bS]
  exact⟨_,br _ _,rfl⟩
 ·rw[decide_eq_false k6,cz,if_neg k6,zB (by omega),bS,zB (by omega),bS,nN,bS,pQ,bS,nN,bS,pQ,bS,nv,bS,nv,bS]
  exact⟨br _ _,by omega,by omega,by omega⟩
end
section
set_option maxRecDepth 100000
open HP
structure oM (f : gm) : Prop where
 a:0≤f.dD∧f.dD≤65535
 b:0≤f.to∧f.to≤65535
 s:0≤f.start∧f.start≤36000000
 d:0≤f.delay∧f.delay≤36000000
 t:0≤f.time∧f.time≤36000000
 e:f.start+f.delay+f.time≤36000000
 c:pP f.dS=0
noncomputable def zK (f:gm) (t:Int):Int:=
 if f.start+f.delay+f.time≤t then f.to
 else if t≤f.start+f.delay then f.dD
 else Ej f.dD f.to (nD f.dS (t-(f.start+f.delay)).toNat f.time.toNat).1 (nD f.dS (t-(f.start+f.delay)).toNat f.time.toNat).2
theorem yR {s:List Sh} {ro:Sh} {r:AV→AV→Heap→Option (AV×Heap)} {x y z v v':AV} {σ:Heap} (h:[x,y].any A.own=false) (e1:A.bT s [x,y]=[x,y]) (e2:A.nn ro v=v') (e:r x y σ=some (v,σ)):A.wrap true s ro (A.bQ r) [x,y] σ=some (v',σ):=by
 refine wrap_eq h ?_ e2
 rw[e1]
 exact e
theorem anj {f:gm} (h:oM f) (t:Int) (σ:Heap):Qn [.agg (ew f),.int .i64 t] σ=some (.int .i64 (zK f t),σ):=by
 obtain⟨a1,a2⟩:=h.a
 obtain⟨b1,b2⟩:=h.b
 obtain⟨s1,s2⟩:=h.s
 obtain⟨d1,d2⟩:=h.d
 obtain⟨t1,t2⟩:=h.t
 have he:=h.e
 refine yR (z:=.int .i64 0) rfl (ff (mA rfl) rfl) (gQ _) ?_
 unfold WZ zK
 rw[Ac,bS,LP,bS,LQ,bS,kU,wrap64 (by unfold aM;omega),bS,Qq,bS,kU,wrap64 (by unfold aM;omega),bS,su,bS]
 by_cases h1:f.start+f.delay+f.time≤t
 ·rw[decide_eq_true h1,cA,if_pos h1,WX,bS]
  exact br _ _
 rw[decide_eq_false h1,cz,if_neg h1,NC,bS]
 by_cases h2:t≤f.start+f.delay
 ·rw[decide_eq_true h2,cA,if_pos h2,WW,bS]
  exact br _ _
 rw[decide_eq_false h2,cz,if_neg h2,aeo,bS,oZ,wrap64 (by unfold aM;omega),bS,bS]
 obtain⟨w,l1,l2,l3⟩:=abm h.c (p:=(t-(f.start+f.delay)).toNat) (q:=f.time.toNat) (by omega) (by omega) (by omega) σ
 rw[Int.toNat_of_nonneg (by omega),Int.toNat_of_nonneg (by omega)]at w
 rw[w,bS]
 simp only
 generalize nD f.dS (t-(f.start+f.delay)).toNat f.time.toNat=nd at l1 l2 l3 ⊢
 rw[iQ,bS,ext1,bS,nN,bS,pQ,bS,nN,bS,pQ,bS,WW,bS,WX,bS,nv,bS,nv,bS,ajN a1 a2 b1 b2 l2 l1 l3,bS]
 exact br _ _
end
section
set_option maxRecDepth 100000
open HP
theorem Ga {s:List Sh} {ro:Sh} {r:AV→Heap→Option (AV×Heap)} {x v v':AV} {σ:Heap} (h:[x].any A.own=false) (e1:A.bT s [x]=[x]) (e2:A.nn ro v=v') (e:r x σ=some (v,σ)):A.wrap true s ro (A.dH r) [x] σ=some (v',σ):=by
 refine wrap_eq h ?_ e2
 rw[e1]
 exact e
theorem Da {n lo hi:Int} (h1:lo≤n) (h2:n≤hi):aQ n lo hi=true:=by unfold aQ;exact decide_eq_true ⟨h1,h2⟩
theorem pe (cs:List AV):A.aN (.rp cs)=some (.rp cs):=rfl
theorem kX (k:Nat) (cs:List AV):A.aA k (.rp cs)=some (.rp (cs.drop k)):=rfl
theorem XM {a b:Int} (h1:0≤a∧a≤65535) (h2:0≤b∧b≤65535):Dk [a,b]=some 0:=by
 unfold Dk
 rw[BW (f:=fun _ n=>if(!(aQ n 0 65535))=true then 1 else 0) (by show 2≤aU;decide) (fun i x _=>by show(if _ then _ else _)=_;by_cases h:(!(aQ x 0 65535))=true<;>simp only[h,if_true,if_false]<;>rfl)]
 simp only[iH,Da h1.1 h1.2,Da h2.1 h2.2]
 rfl
theorem aac {f:gm} (h:oM f):HI f=some 0:=by
 obtain⟨s1,s2⟩:=h.s
 obtain⟨d1,d2⟩:=h.d
 obtain⟨t1,t2⟩:=h.t
 have he:=h.e
 unfold HI
 rw[XM h.a h.b,Option.bind_some,if_neg (fun q=>q rfl),Da s1 s2,Da d1 d2,Da t1 t2,show IntKind.i64.wrap (f.start+f.delay)=f.start+f.delay from wrap64 (by unfold aM;omega),wrap64 (by unfold aM;omega),Da (by omega) he,h.c]
 rfl
theorem aaP {f:gm} (h:oM f) {t:Int} (ht:0≤t) (ht2:t≤36000000) (σ:Heap):Ih [.agg (ew f),.int .i64 t] σ=some (.aF [.int .i64 (zK f t),.int .i64 0],σ):=by
 refine yR (z:=.int .i64 0) rfl (ff (mA rfl) rfl) (gQ _) ?_
 unfold Qx
 rw[Ac,bS,BZ,bS,Vq (aac h),bS]
 simp only
 rw[Fv (r:=true) (by unfold HR;rw[Da ht ht2]),bS]
 simp only
 rw[aoT,bS,tg,bS]
 simp only
 rw[show((((A.cell (.int .i64 0)).bind fun v=>some [v]).bind fun c7=>(A.splice 0 c7 [ah,ah]).bind fun c8=>((A.cell (.int .i64 (if false=true then 1 else 0))).bind fun v=>some [v]).bind fun c9=>(A.splice 1 c9 c8).bind fun dJ=>some dJ).bind fun cs=>some (AV.sl 1 (chunks 1 2 cs)))=some (sl 1 qW [0,0])from rfl,bS,Ab _ (by decide),bS]
 simp only
 rw[show((List.find? (fun n=>decide (¬n=0)) ([0,0]:List Int)).getD 0)=0 from rfl,SI,bS,decide_eq_false (fun q=>q rfl),cz,bS,anj h,bS]
 exact br _ _
noncomputable def sS (r:ct) (c:Int):Int:=zK r.jH (if 36000000<c then 36000000 else c)
theorem IA {r:ct} (h:oM r.jH) {c:Int} (hc:0≤c) (σ:Heap):vn [.agg (fc r),.int .i64 c] σ=some (.int .i64 (sS r c),σ):=by
 refine yR (z:=.int .i64 0) rfl (ff (mA rfl) rfl) (gQ _) ?_
 unfold VA
 rw[yN,bS,aeP,bS,show A.min (.int .i64 c) (.int .i64 36000000)=some (.int .i64 (if 36000000<c then 36000000 else c))from rfl,bS,aaP h (by split<;>omega) (by split<;>omega),bS,iQ,bS,ext1,bS]
 exact br _ _
def dc (c:Am) (t:Int):Int:=if c.lC=true then c.shown else IntKind.i64.wrap (IntKind.i64.wrap (c.shown+t) -c.since)
theorem Nl (c:Am) (t:Int) (σ:Heap):wF [.agg (vB c),.int .i64 t] σ=some (.int .i64 (dc c t),σ):=by
 refine IG rfl ?_
 unfold VF dc
 rw[QK,bS,afR,bS]
 cases c.lC
 ·rw[cz,if_neg (by decide),Wt,bS,kU,bS,afQ,bS,oZ,bS];exact br _ _
 ·rw[cA,if_pos rfl,Wt,bS];exact br _ _
def TE (r:ct):Int:=IntKind.i64.wrap (IntKind.i64.wrap (r.jH.start+r.jH.delay)+r.jH.time)
theorem amE (r:ct) (σ:Heap):Pt [.agg (fc r)] σ=some (.int .i64 (TE r),σ):=by
 refine Ga rfl (ff (mA rfl) rfl) (gQ _) ?_
 unfold VL
 rw[yN,bS,agV,bS,agW,bS,kU,bS,agX,bS,kU,bS]
 exact br _ _
def ia (b:bh):Int:=if b.follow<0∨b.clock.lC=true then -1 else IntKind.i64.wrap (IntKind.i64.wrap (b.clock.since+b.follow) -b.clock.shown)
theorem amD (b:bh) (σ:Heap):BP [.rp (aP b)] σ=some (.int .i64 (ia b),σ):=by
 refine Ga rfl rfl (gQ _) ?_
 unfold Vz ia
 rw[pe,bS,kX,bS,Wg,bS,kV,bS]
 by_cases hf:b.follow<0
 ·rw[decide_eq_true hf]
  simp only[vZ,bS,lq]
  rw[cA,if_pos (.inl hf)]
  exact br _ _
 rw[decide_eq_false hf]
 simp only[gF,bS,pe,kX,nh,List.drop_zero,afB]
 cases hs:b.clock.lC
 ·rw[cz,if_neg (fun q=>q.elim hf (fun q=>by cases q))]
  simp only[afA,show ∀(x:bh) {σ:Heap},((A.deref (.rp (aP x)) σ).bind fun c=>A.aj 0 c)=some (.int .i64 x.clock.shown)from fun _ _=>rfl,Wg,bS,kU,oZ]
  exact br _ _
 ·rw[cA,if_pos (.inr rfl)]
  exact br _ _
end
section
set_option maxRecDepth 100000
open HP
theorem gU (X:Option AV) (w:Bool) (d:Option AV):A.guard (.aF []) w X d=d:=by have h:A.guard (.aF []) w X d=d:=rfl;exact h.trans (Eq.refl d)
theorem sy (b:Bool):A.not (.bool b)=some (.bool (!b)):=rfl
section
variable {κ ν : Type} [DecidableEq κ] {ek : A.EK} {eK : κ → AV} {eV : ν → AV} {σ : Heap} {o : Option (List (κ × ν))}
theorem WM (hq:∀a b,A.eB ek (eK a) (eK b)=some (decide (a=b))) (x:κ) (z:AV) (hok:A.jB ek (eK x)=true):A.Cg ek (nH eK eV o) (eK x) z σ=some (.aF [((bM x (o.getD [])).map eV).getD z,.bool (bM x (o.getD [])).isSome]):=by
 cases o with
 |none=>simp only[A.Cg,nH,hok,cond_true,A.entries,Option.bind_some,Option.getD_none,bM];rfl
 |some l=>simp only[A.Cg,nH,uS,hok,cond_true,A.entries,Option.bind_some,Cf hq,Option.map_some,Option.getD_some,Option.isSome_map]
theorem ai5 (hq:∀a b,A.eB ek (eK a) (eK b)=some (decide (a=b))) (x:κ) (z:AV) (hok:A.jB ek (eK x)=true):A.look ek (nH eK eV o) (eK x) z σ=some (((bM x (o.getD [])).map eV).getD z):=by
 cases o with
 |none=>simp only[A.look,nH,hok,cond_true,A.entries,Option.bind_some,Option.getD_none,bM];rfl
 |some l=>simp only[A.look,nH,uS,hok,cond_true,A.entries,Option.bind_some,Cf hq,Option.map_some,Option.getD_some]
end
def abp:ct:=⟨⟨0,0,0,0,0,⟨0,[]⟩⟩,0,false⟩
def dw (b:bh) (k:aB) (c:Int):ct×Bool:=match bM k (b.runs.getD [])with
 |none=>(abp,false)
 |some r=>(r,!(r.ending&&decide (TE r≤c)))
abbrev nB:List AV:=[ah,ah,ah,ah,ah,ah,AV.aq,ah,aI]
theorem aiB {s:List Sh} {ro:Sh} {r:AV→AV→AV→Heap→Option (AV×Heap)} {x y z v v':AV} {σ:Heap} (h:[x,y,z].any A.own=false) (e1:A.bT s [x,y,z]=[x,y,z]) (e2:A.nn ro v=v') (e:r x y z σ=some (v,σ)):A.wrap true s ro (A.ko r) [x,y,z] σ=some (v',σ):=by
 refine wrap_eq h ?_ e2
 rw[e1]
 exact e
theorem Ni {ro:Sh} {r:AV→AV→AV→Heap→Option (AV×Heap)} {x y z v v':AV} {σ σ':Heap} (e2:A.nn ro v=v') (e:r x y z σ=some (v,σ')):A.wrap false [] ro (A.ko r) [x,y,z] σ=some (v',σ'):=by
 have:A.ko r [x,y,z] σ=some (v,σ'):=e
 simp only[A.wrap,Bool.false_and,cond_false,A.bT,this,Option.map_some,e2]
theorem Yp {p q:AV} (b:bh) (k:aB) (c:Int) (σ:Heap) (h1:A.aN p=some p) (h2:A.aA 9 p=some q) (h3:((A.deref q σ).bind fun c=>A.aj 0 c)=some (nH (fun x=>AV.agg (aL x)) (fun x=>AV.agg (fc x)) b.runs)):qA [p,.agg (aL k),.int .i64 c] σ=some (.aF [.agg (fc (dw b k c).1),.bool (dw b k c).2],σ):=by
 suffices ∃v,A.nn (.t [(.a [.k,.k,.k,.k,.k,.k,(.s 2),.k,.k]),.k]) v=.aF [.agg (fc (dw b k c).1),.bool (dw b k c).2]∧OS p (.agg (aL k)) (.int .i64 c) σ=some (v,σ) by
  obtain⟨v,h1,h2⟩:=this
  exact Ni h1 h2
 unfold OS dw
 rw[wS,bS,h1,bS,h2,bS,h3,bS,nP,bS,WM pM k _ rfl,bS,iQ,bS,ext1,bS]
 cases bM k (b.runs.getD [])with
 |none=>
  refine⟨.aF [.agg nB,.bool false],rfl,?_⟩
  simp only[Option.map_none,Option.getD_none,Option.isSome_none]
  rw[show A.cells 9 (.agg nB)=some nB from rfl,bS,show A.splice 0 nB nB=some nB from rfl,bS,show A.ay 0 9 nB=some (.agg nB)from rfl,bS]
  simp only[we,gU,bS,nh,show A.cells 9 (.agg nB)=some nB from rfl,show A.splice 0 nB nB=some nB from rfl,show A.ay 0 9 nB=some (.agg nB)from rfl]
  exact br _ _
 |some r=>
  refine⟨.aF [.agg (fc r),.bool (!(r.ending&&decide (TE r≤c)))],rfl,?_⟩
  simp only[Option.map_some,Option.getD_some,Option.isSome_some]
  rw[yN,bS,B0 _ _ rfl,bS,vw,bS]
  simp only[gT,bS,LR]
  cases he:r.ending
  ·simp only[we,bS,nh,lq,sy,yN,vw,B0 r _ (show nB.length=9 from rfl)]
   exact br _ _
  ·simp only[gT,bS,vw,quiet_of (amE r σ),su]
   simp only[bS,lq,sy,yN,vw,B0 r _ (show nB.length=9 from rfl)]
   exact br _ _
theorem aiX (b:bh) (k:aB) (c:Int) (σ:Heap):qA [.rp (aP b),.agg (aL k),.int .i64 c] σ=some (.aF [.agg (fc (dw b k c).1),.bool (dw b k c).2],σ):=Yp b k c σ rfl rfl (Lu b)
def mn (a b:Int):Int:=if b<a then b else a
theorem Ua (a b:Int):A.min (.int .i64 a) (.int .i64 b)=some (.int .i64 (mn a b)):=rfl
def sx (f:gm):gm:=
 {f with start:=mn f.start 36000000,delay:=mn f.delay (IntKind.i64.wrap (36000000-mn f.start 36000000)),time:=mn f.time (IntKind.i64.wrap (IntKind.i64.wrap (36000000-mn f.start 36000000) -mn f.delay (IntKind.i64.wrap (36000000-mn f.start 36000000))))}
abbrev Ay:List AV:=[ah,ah,ah,ah,ah,ah,AV.aq]
theorem pV (n:Int):((A.cell (.int .i64 n)).bind fun v=>some [v])=some [.int .i64 n]:=rfl
theorem ana (f:gm) (n:Int):A.splice 2 [.int .i64 n] (ew f)=some (ew {f with start:=n}):=rfl
theorem abi (f:gm) (n:Int):A.splice 3 [.int .i64 n] (ew f)=some (ew {f with delay:=n}):=rfl
theorem IZ (f:gm) (n:Int):A.splice 4 [.int .i64 n] (ew f)=some (ew {f with time:=n}):=rfl
theorem Sf (f:gm) (σ:Heap):vr [.agg (ew f)] σ=some (.agg (ew (sx f)),σ):=by
 refine Ga rfl (ff (mA rfl) rfl) (v:=.agg (ew (sx f))) rfl ?_
 unfold W7 sx
 rw[Ac,bS,LP,bS,Ua,bS,pV,bS,ana,bS,LQ,bS,LP,bS,oZ,bS,Ua,bS,pV,bS,abi,bS,Qq,bS,LP,bS,oZ,bS,LQ,bS,oZ,bS,Ua,bS,pV,bS,IZ,bS,BZ,bS,Ac,bS,It _ _ rfl,bS,BZ,bS]
 exact br _ _
end
section
set_option maxRecDepth 100000
open HP
def wD (a b:Int):Int:=(2*(a*b)+65535) / 131070
theorem ajG {a b:Int} (h1:0≤a∧a≤65535) (h2:0≤b∧b≤65535):HU a b=some (wD a b,0):=by
 have m:=Ch h1.1 h1.2 h2.1 h2.2
 unfold HU
 rw[XM h1 h2,Option.bind_some,if_neg (fun q=>q rfl)]
 unfold HX HW wD
 rw[show IntKind.i64.wrap (a*b)=a*b from wrap64 (by unfold aM;omega),show IntKind.i64.wrap (2*(a*b))=2*(a*b)from wrap64 (by unfold aM;omega),show IntKind.i64.wrap (2*(a*b)+65535)=2*(a*b)+65535 from wrap64 (by unfold aM;omega),show IntKind.i64.wrap (2*65535)=131070 from wrap64 (by unfold aM;omega)]
 have q1:Jr (2*(a*b)+65535) 131070=some ((2*(a*b)+65535) / 131070):=by
  unfold Jr
  rw[if_neg (by decide),Int.tdiv_eq_ediv_of_nonneg (by omega),wrap64 (by unfold aM;omega)]
 have q2:Js (2*(a*b)+65535) 131070=some ((2*(a*b)+65535) % 131070):=by
  unfold Js
  rw[if_neg (by decide),Int.tmod_eq_emod_of_nonneg (by omega)]
 rw[q1,Option.bind_some,q2,Option.bind_some,if_neg (by omega)]
 rfl
theorem ZV {a b:Int} (h1:0≤a∧a≤65535) (h2:0≤b∧b≤65535) (σ:Heap):Dl [.int .i64 a,.int .i64 b] σ=some (.aF [.int .i64 (wD a b),.int .i64 0],σ):=aeM (ajG h1 h2)
theorem amf {a b:Int} (h1:0≤a∧a≤65535) (h2:0≤b∧b≤65535):0≤wD a b∧wD a b≤65535:=by
 have m:=Ch h1.1 h1.2 h2.1 h2.2
 unfold wD;omega
theorem alj {a b:Int} (ha:0≤a∧a≤65535) (hb:0≤b∧b≤65535) {n d:Nat} (hnd:n≤d) (hd:0<d):0≤Ej a b n d∧Ej a b n d≤65535:=by
 unfold Ej
 have key:∀m:Nat,(2*m*n+d) / (2*d)≤m:=fun m=>by
  refine Nat.le_of_lt_succ ((Nat.div_lt_iff_lt_mul (by omega)).2 ?_)
  have:m*n≤m*d:=Nat.mul_le_mul_left _ hnd
  have e1:2*m*n=2*(m*n):=Nat.mul_assoc _ _ _
  have e2:(m+1)*(2*d)=2*(m*d)+2*d:=by rw[Nat.add_mul,Nat.mul_left_comm];omega
  rw[e1,e2];omega
 split
 ·have:=key (b-a).toNat
  generalize (2*(b-a).toNat*n+d) / (2*d)=q at this ⊢
  omega
 ·have k:=key (a-b).toNat
  have:(2*(a-b).toNat*n+d-1) / (2*d)≤(2*(a-b).toNat*n+d) / (2*d):=Nat.div_le_div_right (by omega)
  generalize (2*(a-b).toNat*n+d) / (2*d)=q at this k
  generalize (2*(a-b).toNat*n+d-1) / (2*d)=q' at this ⊢
  omega
theorem aaw {f:gm} (h:oM f) (t:Int):0≤zK f t∧zK f t≤65535:=by
 obtain⟨a1,a2⟩:=h.a
 obtain⟨b1,b2⟩:=h.b
 obtain⟨s1,s2⟩:=h.s
 obtain⟨d1,d2⟩:=h.d
 obtain⟨t1,t2⟩:=h.t
 have he:=h.e
 unfold zK
 split
 ·exact⟨b1,b2⟩
 split
 ·exact⟨a1,a2⟩
 obtain⟨_,l1,l2,_⟩:=abm h.c (p:=(t-(f.start+f.delay)).toNat) (q:=f.time.toNat) (by omega) (by omega) (by omega) []
 exact alj ⟨a1,a2⟩ ⟨b1,b2⟩ l1 l2
theorem Gq {r:ct} (h:oM r.jH) (c:Int):0≤sS r c∧sS r c≤65535:=aaw h _
structure rY (b : bh) (t : Int) : Prop where
 runs:∀k r,bM k (b.runs.getD [])=some r→oM r.jH
 iX:0≤b.iX∧b.iX≤65535
 qq:0≤dc b.clock t
def dZ (d:bI) (k:aB):Int×Int×Bool:=match bM k (d.params.getD [])with
 |none=>(0,0,false)
 |some p=>(p.group,p.default,p.snap)
abbrev Cv:List AV:=[bg,ah,ah,ah,ah,aI,AV.aq]
def jv (d:bI) (k:aB):List AV:=match bM k (d.params.getD [])with
 |none=>Cv
 |some p=>bU p
theorem YL (d:bI) (k:aB) (σ:Heap):A.look (.s [0,2]) (nH (fun x=>AV.agg (aL x)) (fun x=>AV.agg (bU x)) d.params) (.agg (aL k)) (.agg Cv) σ=some (.agg (jv d k)):=by
 rw[ai5 pM k _ rfl]
 unfold jv
 cases bM k (d.params.getD [])<;>rfl
theorem DE (d:bI) (k:aB):A.cells 7 (.agg (jv d k))=some (jv d k):=by unfold jv;cases bM k (d.params.getD [])<;>rfl
theorem Sc (d:bI) (k:aB):A.splice 0 (jv d k) Cv=some (jv d k):=by
 unfold jv
 cases bM k (d.params.getD [])
 ·rfl
 ·exact Aa _ _ rfl
theorem Au (d:bI) (k:aB):A.aj 1 (jv d k)=some (.int .i64 (dZ d k).1):=by unfold jv dZ;cases bM k (d.params.getD [])<;>rfl
theorem al5 (d:bI) (k:aB):A.aj 4 (jv d k)=some (.int .i64 (dZ d k).2.1):=by unfold jv dZ;cases bM k (d.params.getD [])<;>rfl
theorem al6 (d:bI) (k:aB):A.aj 5 (jv d k)=some (.bool (dZ d k).2.2):=by unfold jv dZ;cases bM k (d.params.getD [])<;>rfl
structure Em where
 out:Int
 owner:Int
 pri:Int
 mw:Int
noncomputable def CS (g:Int) (b:bh) (r:ct) (c:Int):Int:=if g=1 then wD (sS r c) b.iX else sS r c
noncomputable def oP (g:Int) (k:aB) (t:Int) (s:Em) (b:bh):Em:=
 if(dw b k (dc b.clock t)).2=false∨b.priority<s.pri then s
 else if s.pri<b.priority∨(g=1∧s.out<CS g b (dw b k (dc b.clock t)).1 (dc b.clock t))∨(¬g=1∧s.mw<(dw b k (dc b.clock t)).1.mw)then⟨CS g b (dw b k (dc b.clock t)).1 (dc b.clock t),b.number,b.priority,(dw b k (dc b.clock t)).1.mw⟩
 else s
noncomputable def pH (d:bI) (bs:List bh) (k:aB) (t:Int):Em:=bs.foldl (oP (dZ d k).1 k t) ⟨(dZ d k).2.1,0,-1,0⟩
theorem ij (cs:List AV):A.lb (.lbx cs)=some cs:=rfl
theorem An {b:bh} {t:Int} (h:rY b t) {k:aB} (hd:(dw b k (dc b.clock t)).2=true):oM (dw b k (dc b.clock t)).1.jH:=by
 have h:=h.runs k
 revert hd h
 unfold dw
 generalize bM k (b.runs.getD [])=o
 cases o with
 |none=>intro hd;cases hd
 |some r=>intro _ h;exact h r rfl
theorem aiR (b:bh) (σ:Heap):((A.deref (.rp ((aP b).drop 0)) σ).bind fun c=>A.ay 0 3 c)=some (.agg (vB b.clock)):=rfl
theorem afN {d:bI} {s:bW} {k:aB} {t:Int} (hs:s.az.length≤aU) {i:Nat} {b:bh} (hb:s.az[i]? =some b) (ho:rY b t) (m:Em) (σ:Heap):((fun aZ lz=>
   (A.lss (aZ.getD 6 AV.undef) (AV.int .i64 (s.az.length:Int))).bind fun bX=>
   A.cond bX (
    (A.aN (AV.rp (rU s))).bind fun cR=>
    (A.aA 0 cR).bind fun cr=>
    ((A.deref cr lz).bind fun gB=>A.aj 0 gB).bind fun eC=>
    (A.aW 10 eC (aZ.getD 6 AV.undef)).bind fun x24=>
    (A.aN x24).bind fun x25=>
    (A.aA 0 x25).bind fun fK=>
    ((A.deref fK lz).bind fun jR=>A.ay 0 3 jR).bind fun x28=>
    (wF [x28,(AV.int .i64 t)] lz).bind fun gr=>
    ((A.lb (aZ.getD 0 AV.undef)).bind fun qn=>A.ay 0 2 qn).bind fun x31=>
    (qA [x24,x31,gr.1] gr.2).bind fun r32=>
    (A.ext 0 r32.1).bind fun ep=>
    (A.ext 1 r32.1).bind fun x34=>
    (A.cells 9 ep).bind fun gC=>
    (A.splice 0 gC [ah,ah,ah,ah,ah,ah,AV.aq,ah,aI]).bind fun gD=>
    (A.not x34).bind fun bR=>
    (A.guard bR false (some x24) an).bind fun x38=>
    (A.guard bR false (A.aN x38) an).bind fun fu=>
    (A.guard bR false (A.aA 4 fu) an).bind fun dm=>
    (A.guard bR false ((A.deref dm r32.2).bind fun sI=>A.aj 0 sI) an).bind fun fP=>
    (A.guard bR false (some (aZ.getD 4 AV.undef)) an).bind fun fL=>
    (A.guard bR false (A.lss fP fL) an).bind fun eO=>
    (A.pick bR cK eO).bind fun dU=>
    A.cond dU (
     (A.add (aZ.getD 6 AV.undef) aH).bind fun fM=>
     some (AX.normal,[(aZ.getD 0 AV.undef),(aZ.getD 1 AV.undef),(aZ.getD 2 AV.undef),(aZ.getD 3 AV.undef),(aZ.getD 4 AV.undef),(aZ.getD 5 AV.undef),fM],r32.2)) (
     (A.ay 0 9 gD).bind fun iV=>
     (vn [iV,gr.1] r32.2).bind fun kP=>
     ((A.lb (aZ.getD 1 AV.undef)).bind fun _=>some (1)).bind fun Ke=>
     ((A.lb (aZ.getD 1 AV.undef)).bind fun oa=>A.aj Ke oa).bind fun iN=>
     (A.eql .i iN aH).bind fun eD=>
     (A.cond eD (
      (A.aN x24).bind fun gY=>
      (A.aA 7 gY).bind fun lG=>
      ((A.deref lG kP.2).bind fun mU=>A.aj 0 mU).bind fun kC=>
      (Dl [kP.1,kC] kP.2).bind fun ym=>
      (A.ext 0 ym.1).bind fun eW=>
      (A.ext 1 ym.1).bind fun gz=>
      some ([(aZ.getD 0 AV.undef),(aZ.getD 1 AV.undef),(AV.lbx gD),eW],ym.2)) (
      some ([(aZ.getD 0 AV.undef),(aZ.getD 1 AV.undef),(AV.lbx gD),kP.1],kP.2))).bind fun cq=>
     (A.aN x24).bind fun jA=>
     (A.aA 4 jA).bind fun eY=>
     ((A.deref eY cq.2).bind fun uP=>A.aj 0 uP).bind fun mj=>
     (A.gtr mj (aZ.getD 4 AV.undef)).bind fun jf=>
     ((A.lb (cq.1.getD 1 AV.undef)).bind fun _=>some (1)).bind fun Kf=>
          (A.guard jf false ((A.lb (cq.1.getD 1 AV.undef)).bind fun sL=>A.aj Kf sL) an).bind fun gI=>
     (A.guard jf false (A.eql .i gI aH) an).bind fun fQ=>
     (A.guard jf false (some fQ) an).bind fun eZ=>
     (A.guard eZ true (some (cq.1.getD 3 AV.undef)) an).bind fun mm=>
     (A.guard eZ true (some (aZ.getD 2 AV.undef)) an).bind fun qy=>
     (A.guard eZ true (A.gtr mm qy) an).bind fun hG=>
     (A.guard jf false (A.pick eZ hG aI) an).bind fun iq=>
     (A.pick jf cK iq).bind fun eu=>
     ((A.lb (cq.1.getD 1 AV.undef)).bind fun _=>some (1)).bind fun EX=>
          (A.guard eu false ((A.lb (cq.1.getD 1 AV.undef)).bind fun l7=>A.aj EX l7) an).bind fun jg=>
     (A.guard eu false (A.neq .i jg aH) an).bind fun jF=>
     (A.guard eu false (some jF) an).bind fun fA=>
     ((A.lb (cq.1.getD 2 AV.undef)).bind fun _=>some (7)).bind fun Kg=>
          (A.guard fA true ((A.lb (cq.1.getD 2 AV.undef)).bind fun lE=>A.aj Kg lE) an).bind fun pK=>
     (A.guard fA true (some (aZ.getD 5 AV.undef)) an).bind fun yB=>
     (A.guard fA true (A.gtr pK yB) an).bind fun iE=>
     (A.guard eu false (A.pick fA iE aI) an).bind fun jh=>
     (A.pick eu cK jh).bind fun mo=>
     (A.cond mo (
      (A.aN x24).bind fun BK=>
      (A.aA 3 BK).bind fun x90=>
      ((A.deref x90 cq.2).bind fun Bn=>A.aj 0 Bn).bind fun oF=>
      (A.aN x24).bind fun x93=>
      (A.aA 4 x93).bind fun rK=>
      ((A.deref rK cq.2).bind fun iU=>A.aj 0 iU).bind fun x96=>
      ((A.lb (cq.1.getD 2 AV.undef)).bind fun _=>some (7)).bind fun Kh=>
      ((A.lb (cq.1.getD 2 AV.undef)).bind fun mY=>A.aj Kh mY).bind fun x99=>
      some ([(cq.1.getD 0 AV.undef),(cq.1.getD 1 AV.undef),(cq.1.getD 3 AV.undef),oF,x96,x99],cq.2)) (
      some ([(cq.1.getD 0 AV.undef),(cq.1.getD 1 AV.undef),(aZ.getD 2 AV.undef),(aZ.getD 3 AV.undef),(aZ.getD 4 AV.undef),(aZ.getD 5 AV.undef)],cq.2))).bind fun mh=>
     (A.add (aZ.getD 6 AV.undef) aH).bind fun nX=>
     some (AX.normal,[(mh.1.getD 0 AV.undef),(mh.1.getD 1 AV.undef),(mh.1.getD 2 AV.undef),(mh.1.getD 3 AV.undef),(mh.1.getD 4 AV.undef),(mh.1.getD 5 AV.undef),nX],mh.2))) (
    some (AX.exit 0,[(aZ.getD 0 AV.undef),(aZ.getD 1 AV.undef),(aZ.getD 2 AV.undef),(aZ.getD 3 AV.undef),(aZ.getD 4 AV.undef),(aZ.getD 5 AV.undef),(aZ.getD 6 AV.undef)],lz)))) [.lbx (aL k),.lbx (jv d k),.int .i64 m.out,.int .i64 m.owner,.int .i64 m.pri,.int .i64 m.mw,.int .i64 (i:Int)] σ=some (.normal,[.lbx (aL k),.lbx (jv d k),.int .i64 (oP (dZ d k).1 k t m b).out,.int .i64 (oP (dZ d k).1 k t m b).owner,.int .i64 (oP (dZ d k).1 k t m b).pri,.int .i64 (oP (dZ d k).1 k t m b).mw,.int .i64 ((i+1:Nat):Int)],σ):=by
 simp only[List.getD_cons_zero,List.getD_cons_succ]
 rw[jM hb,bS,cA,pe,bS,kX,bS,Wi,bS,jk hb,bS,pe,bS,kX,bS,aiR,bS,Nl,bS]
 simp only
 rw[ij,bS,nP,bS,aiX,bS]
 simp only
 rw[iQ,bS,ext1,bS,yN,bS,B0 _ _ rfl,bS,sy,bS]
 unfold oP
 cases hd:(dw b k (dc b.clock t)).2
 ·rw[if_pos (.inl rfl)]
  simp only[Bool.not_false,vZ,bS,lq]
  rw[cA,gK hb hs,bS]
 have hok:=An ho hd
 have hbd:=Gq hok (dc b.clock t)
 simp only[Bool.not_true,gF,bS,pe,kX,HY,kV,nh]
 by_cases hp:b.priority<m.pri
 ·rw[decide_eq_true hp,cA,gK hb hs,bS,if_pos (.inr hp)]
 rw[decide_eq_false hp,cz,if_neg (fun q=>q.elim (fun q=>by cases q) hp),vw,bS,IA hok ho.qq,bS]
 simp only
 rw[ij,bS,bS,bS,Au,bS,gR,bS]
 generalize hr:(dw b k (dc b.clock t)).1=r at hok hbd ⊢
 generalize hg:(dZ d k).1=g
 unfold CS
 by_cases h1:g=1
 ·rw[decide_eq_true h1,cA]
  simp only[pe,bS,kX,afC,ZV hbd ho.iX,iQ,ext1,if_pos h1]
  generalize wD (sS r (dc b.clock t)) b.iX=n
  by_cases h2:m.pri<b.priority
  ·simp only[decide_eq_true h2,DT,vZ,gU,bS,lq,ij,List.getD_cons_zero,List.getD_cons_succ,cT,pe,kX,Ls,HY,Ii,if_pos (Or.inl h2),gK hb hs]
  simp only[decide_eq_false h2,DT,gF,gT,bS,nh,lq,ij,Au,hg,gR,decide_eq_true h1,List.getD_cons_zero,List.getD_cons_succ]
  by_cases h3:m.out<n
  ·have hc:m.pri<b.priority∨(g=1∧m.out<n)∨(¬g=1∧m.mw<r.mw):=.inr (.inl ⟨h1,h3⟩)
   simp only[decide_eq_true h3,vZ,gU,bS,lq,cT,pe,kX,Ls,HY,ij,Ii,if_pos hc,gK hb hs,List.getD_cons_zero,List.getD_cons_succ]
  ·have hc:¬(m.pri<b.priority∨(g=1∧m.out<n)∨(¬g=1∧m.mw<r.mw)):=fun q=>q.elim h2 fun q=>q.elim (fun q=>h3 q.2) fun q=>q.1 h1
   simp only[decide_eq_false h3,gF,we,gU,bS,nh,cF,ij,Au,hg,fI,decide_not,decide_eq_true h1,Bool.not_true,if_neg hc,gK hb hs,List.getD_cons_zero,List.getD_cons_succ]
 ·rw[decide_eq_false h1,cz]
  simp only[pe,bS,kX,if_neg h1]
  generalize sS r (dc b.clock t)=n
  by_cases h2:m.pri<b.priority
  ·simp only[decide_eq_true h2,DT,vZ,gU,bS,lq,ij,List.getD_cons_zero,List.getD_cons_succ,cT,pe,kX,Ls,HY,Ii,if_pos (Or.inl h2),gK hb hs]
  simp only[decide_eq_false h2,DT,gF,we,gU,bS,nh,ij,Au,hg,gR,fI,decide_not,decide_eq_false h1,Bool.not_false,gT,List.getD_cons_zero,List.getD_cons_succ,Ii]
  by_cases h4:m.mw<r.mw
  ·have hc:m.pri<b.priority∨(g=1∧m.out<n)∨(¬g=1∧m.mw<r.mw):=.inr (.inr ⟨h1,h4⟩)
   simp only[decide_eq_true h4,lq,bS,cT,pe,kX,Ls,HY,ij,Ii,if_pos hc,gK hb hs,List.getD_cons_zero,List.getD_cons_succ]
  ·have hc:¬(m.pri<b.priority∨(g=1∧m.out<n)∨(¬g=1∧m.mw<r.mw)):=fun q=>q.elim h2 fun q=>q.elim (fun q=>h1 q.1) fun q=>h4 q.2
   simp only[decide_eq_false h4,lq,bS,cF,if_neg hc,gK hb hs,List.getD_cons_zero,List.getD_cons_succ]
theorem afM {d:bI} {s:bW} {k:aB} {t:Int} (hs:s.az.length≤aU) (ho:∀b∈s.az,rY b t) (m:Em) (σ:Heap):∃q,A.loop ((fun aZ lz=>
   (A.lss (aZ.getD 6 AV.undef) (AV.int .i64 (s.az.length:Int))).bind fun bX=>
   A.cond bX (
    (A.aN (AV.rp (rU s))).bind fun cR=>
    (A.aA 0 cR).bind fun cr=>
    ((A.deref cr lz).bind fun gB=>A.aj 0 gB).bind fun eC=>
    (A.aW 10 eC (aZ.getD 6 AV.undef)).bind fun x24=>
    (A.aN x24).bind fun x25=>
    (A.aA 0 x25).bind fun fK=>
    ((A.deref fK lz).bind fun jR=>A.ay 0 3 jR).bind fun x28=>
    (wF [x28,(AV.int .i64 t)] lz).bind fun gr=>
    ((A.lb (aZ.getD 0 AV.undef)).bind fun qn=>A.ay 0 2 qn).bind fun x31=>
    (qA [x24,x31,gr.1] gr.2).bind fun r32=>
    (A.ext 0 r32.1).bind fun ep=>
    (A.ext 1 r32.1).bind fun x34=>
    (A.cells 9 ep).bind fun gC=>
    (A.splice 0 gC [ah,ah,ah,ah,ah,ah,AV.aq,ah,aI]).bind fun gD=>
    (A.not x34).bind fun bR=>
    (A.guard bR false (some x24) an).bind fun x38=>
    (A.guard bR false (A.aN x38) an).bind fun fu=>
    (A.guard bR false (A.aA 4 fu) an).bind fun dm=>
    (A.guard bR false ((A.deref dm r32.2).bind fun sI=>A.aj 0 sI) an).bind fun fP=>
    (A.guard bR false (some (aZ.getD 4 AV.undef)) an).bind fun fL=>
    (A.guard bR false (A.lss fP fL) an).bind fun eO=>
    (A.pick bR cK eO).bind fun dU=>
    A.cond dU (
     (A.add (aZ.getD 6 AV.undef) aH).bind fun fM=>
     some (AX.normal,[(aZ.getD 0 AV.undef),(aZ.getD 1 AV.undef),(aZ.getD 2 AV.undef),(aZ.getD 3 AV.undef),(aZ.getD 4 AV.undef),(aZ.getD 5 AV.undef),fM],r32.2)) (
     (A.ay 0 9 gD).bind fun iV=>
     (vn [iV,gr.1] r32.2).bind fun kP=>
     ((A.lb (aZ.getD 1 AV.undef)).bind fun _=>some (1)).bind fun Ke=>
     ((A.lb (aZ.getD 1 AV.undef)).bind fun oa=>A.aj Ke oa).bind fun iN=>
     (A.eql .i iN aH).bind fun eD=>
     (A.cond eD (
      (A.aN x24).bind fun gY=>
      (A.aA 7 gY).bind fun lG=>
      ((A.deref lG kP.2).bind fun mU=>A.aj 0 mU).bind fun kC=>
      (Dl [kP.1,kC] kP.2).bind fun ym=>
      (A.ext 0 ym.1).bind fun eW=>
      (A.ext 1 ym.1).bind fun gz=>
      some ([(aZ.getD 0 AV.undef),(aZ.getD 1 AV.undef),(AV.lbx gD),eW],ym.2)) (
      some ([(aZ.getD 0 AV.undef),(aZ.getD 1 AV.undef),(AV.lbx gD),kP.1],kP.2))).bind fun cq=>
     (A.aN x24).bind fun jA=>
     (A.aA 4 jA).bind fun eY=>
     ((A.deref eY cq.2).bind fun uP=>A.aj 0 uP).bind fun mj=>
     (A.gtr mj (aZ.getD 4 AV.undef)).bind fun jf=>
     ((A.lb (cq.1.getD 1 AV.undef)).bind fun _=>some (1)).bind fun Kf=>
          (A.guard jf false ((A.lb (cq.1.getD 1 AV.undef)).bind fun sL=>A.aj Kf sL) an).bind fun gI=>
     (A.guard jf false (A.eql .i gI aH) an).bind fun fQ=>
     (A.guard jf false (some fQ) an).bind fun eZ=>
     (A.guard eZ true (some (cq.1.getD 3 AV.undef)) an).bind fun mm=>
     (A.guard eZ true (some (aZ.getD 2 AV.undef)) an).bind fun qy=>
     (A.guard eZ true (A.gtr mm qy) an).bind fun hG=>
     (A.guard jf false (A.pick eZ hG aI) an).bind fun iq=>
     (A.pick jf cK iq).bind fun eu=>
     ((A.lb (cq.1.getD 1 AV.undef)).bind fun _=>some (1)).bind fun EX=>
          (A.guard eu false ((A.lb (cq.1.getD 1 AV.undef)).bind fun l7=>A.aj EX l7) an).bind fun jg=>
     (A.guard eu false (A.neq .i jg aH) an).bind fun jF=>
     (A.guard eu false (some jF) an).bind fun fA=>
     ((A.lb (cq.1.getD 2 AV.undef)).bind fun _=>some (7)).bind fun Kg=>
          (A.guard fA true ((A.lb (cq.1.getD 2 AV.undef)).bind fun lE=>A.aj Kg lE) an).bind fun pK=>
     (A.guard fA true (some (aZ.getD 5 AV.undef)) an).bind fun yB=>
     (A.guard fA true (A.gtr pK yB) an).bind fun iE=>
     (A.guard eu false (A.pick fA iE aI) an).bind fun jh=>
     (A.pick eu cK jh).bind fun mo=>
     (A.cond mo (
      (A.aN x24).bind fun BK=>
      (A.aA 3 BK).bind fun x90=>
      ((A.deref x90 cq.2).bind fun Bn=>A.aj 0 Bn).bind fun oF=>
      (A.aN x24).bind fun x93=>
      (A.aA 4 x93).bind fun rK=>
      ((A.deref rK cq.2).bind fun iU=>A.aj 0 iU).bind fun x96=>
      ((A.lb (cq.1.getD 2 AV.undef)).bind fun _=>some (7)).bind fun Kh=>
      ((A.lb (cq.1.getD 2 AV.undef)).bind fun mY=>A.aj Kh mY).bind fun x99=>
      some ([(cq.1.getD 0 AV.undef),(cq.1.getD 1 AV.undef),(cq.1.getD 3 AV.undef),oF,x96,x99],cq.2)) (
      some ([(cq.1.getD 0 AV.undef),(cq.1.getD 1 AV.undef),(aZ.getD 2 AV.undef),(aZ.getD 3 AV.undef),(aZ.getD 4 AV.undef),(aZ.getD 5 AV.undef)],cq.2))).bind fun mh=>
     (A.add (aZ.getD 6 AV.undef) aH).bind fun nX=>
     some (AX.normal,[(mh.1.getD 0 AV.undef),(mh.1.getD 1 AV.undef),(mh.1.getD 2 AV.undef),(mh.1.getD 3 AV.undef),(mh.1.getD 4 AV.undef),(mh.1.getD 5 AV.undef),nX],mh.2))) (
    some (AX.exit 0,[(aZ.getD 0 AV.undef),(aZ.getD 1 AV.undef),(aZ.getD 2 AV.undef),(aZ.getD 3 AV.undef),(aZ.getD 4 AV.undef),(aZ.getD 5 AV.undef),(aZ.getD 6 AV.undef)],lz)))) [.lbx (aL k),.lbx (jv d k),.int .i64 m.out,.int .i64 m.owner,.int .i64 m.pri,.int .i64 m.mw,.int .i64 0] σ=some q∧∃u,q=(.exit 0,[.lbx (aL k),.lbx (jv d k),.int .i64 (s.az.foldl (oP (dZ d k).1 k t) m).out,.int .i64 (s.az.foldl (oP (dZ d k).1 k t) m).owner,.int .i64 (s.az.foldl (oP (dZ d k).1 k t) m).pri,.int .i64 (s.az.foldl (oP (dZ d k).1 k t) m).mw,u],σ):=by
 refine nO (fun z v w=>∃(i:Nat) (x:Em),v=[.lbx (aL k),.lbx (jv d k),.int .i64 x.out,.int .i64 x.owner,.int .i64 x.pri,.int .i64 x.mw,.int .i64 (i:Int)]∧w=σ∧z=s.az.length-i∧i≤s.az.length∧(s.az.drop i).foldl (oP (dZ d k).1 k t) x=s.az.foldl (oP (dZ d k).1 k t) m) ?_ (n:=s.az.length) ⟨0,m,rfl,rfl,rfl,Nat.zero_le _,rfl⟩
 rintro z v w ⟨i,x,rfl,rfl,hz,hi,hT⟩
 by_cases h:i<s.az.length
 ·have hb:s.az[i]? =some s.az[i]:=List.getElem?_eq_getElem h
  refine .inl ⟨s.az.length-(i+1),_,_,by omega,afN hs hb (ho _ (List.getElem_mem h)) x w,i+1,oP (dZ d k).1 k t x s.az[i],rfl,rfl,rfl,by omega,?_⟩
  rw[List.drop_eq_getElem_cons h]at hT
  exact hT
 ·have:i=s.az.length:=by omega
  subst this
  rw[List.drop_length]at hT
  simp only[List.foldl_nil]at hT
  subst hT
  simp only[List.getD_cons_zero,List.getD_cons_succ]
  rw[j0,bS,cz]
  exact .inr ⟨_,rfl,by simp,_,rfl⟩
theorem Ze {s:List Sh} {ro:Sh} {r:AV→AV→AV→AV→Heap→Option (AV×Heap)} {x y z u v v':AV} {σ:Heap} (h:[x,y,z,u].any A.own=false) (e1:A.bT s [x,y,z,u]=[x,y,z,u]) (e2:A.nn ro v=v') (e:r x y z u σ=some (v,σ)):A.wrap true s ro (A.vV r) [x,y,z,u] σ=some (v',σ):=by
 refine wrap_eq h ?_ e2
 rw[e1]
 exact e
theorem YP {d:bI} {s:bW} {k:aB} {t:Int} (hs:s.az.length≤aU) (ho:∀b∈s.az,rY b t) (σ:Heap):BN [.rp (pU d),.rp (rU s),.agg (aL k),.int .i64 t] σ=some (.aF [.int .i64 (pH d s.az k t).out,.int .i64 (pH d s.az k t).owner],σ):=by
 refine Ze rfl rfl (gQ _) ?_
 unfold Vl
 rw[wS,bS,pe,bS,kX,bS,P5,bS,nP,bS,YL,bS,DE,bS,Sc,bS,al5,bS,pe,bS,kX,bS,Wi,bS,gf,bS]
 refine Bs (Gp (afM (d:=d) hs ho ⟨(dZ d k).2.1,0,-1,0⟩ σ) ?_)
 rintro q ⟨u,rfl⟩
 simp only[nG,List.getD_cons_zero,List.getD_cons_succ]
 exact⟨_,br _ _,rfl⟩
end
section
set_option maxRecDepth 100000
open HP
def qT (l:List fC):Int:=match l.getLast? with
 |none=>0
 |some a=>a.time
theorem Z5 (d:bI) (hl:d.actions.length≤aU) (σ:Heap):Fp [.rp (pU d)] σ=some (.int .i64 (qT d.actions),σ):=by
 refine Ga rfl rfl (gQ _) ?_
 unfold Vx qT
 rw[pe,bS,kX,bS,Wh,bS,gf,bS,gR,bS]
 by_cases h:d.actions.length=0
 ·rw[decide_eq_true (by omega),cA,List.eq_nil_of_length_eq_zero h]
  exact br _ _
 ·have hx:d.actions[d.actions.length-1]? =some (d.actions[d.actions.length-1]'(by omega)):=List.getElem?_eq_getElem _
  rw[decide_eq_false (by omega),cz]
  simp only[pe,kX,bS,Wh,gf]
  rw[oZ,wrap64 (by unfold aM;unfold aU at hl;omega),bS,show((d.actions.length:Int) -1)=((d.actions.length-1:Nat):Int) by omega,jk hx,bS,kX,bS,List.getLast?_eq_getElem?,hx]
  exact(congrArg (Option.bind · fun x=>A.fin σ x σ) (show((A.deref (.rp ((bG (d.actions[d.actions.length-1]'(by omega))).drop 0)) σ).bind fun c=>A.aj 0 c)=some (.int .i64 (d.actions[d.actions.length-1]'(by omega)).time)from rfl)).trans (br _ _)
def zl (l:List fC) (t:Int):Int:=if aQ t 0 36000000=true then(if decide (t<qT l)=true then 7 else 0)else 1
theorem YG (t:Int) (σ:Heap):HS [.int .i64 t] σ=some (.bool (aQ t 0 36000000),σ):=by
 refine Ga rfl rfl (gQ _) ?_
 unfold VS
 rw[jY,bS]
 exact br _ _
theorem aoQ (a b:Int):(((((A.cell (.int .i64 a)).bind fun v=>some [v]).bind fun c7=>(A.splice 0 c7 [ah,ah]).bind fun c8=>((A.cell (.int .i64 b)).bind fun v=>some [v]).bind fun c9=>(A.splice 1 c9 c8).bind fun dJ=>some dJ).bind fun cs=>some (AV.sl 1 (chunks 1 2 cs))))=some (sl 1 qW [a,b]):=rfl
theorem amj (d:bI) (hl:d.actions.length≤aU) (t:Int) (σ:Heap):Pa [.rp (pU d),.int .i64 t] σ=some (.int .i64 (zl d.actions t),σ):=by
 refine yR (z:=.aq) rfl rfl (gQ _) ?_
 unfold Vy zl
 rw[YG,bS]
 simp only
 rw[sy,bS,tg,bS]
 simp only
 rw[Z5 d hl,bS]
 simp only
 rw[kV,bS,tg,bS]
 simp only
 generalize aQ t 0 36000000=w
 generalize decide (t<qT d.actions)=e
 rw[aoQ,bS,Ab _ (by show 2≤aU;decide),bS]
 cases w<;>cases e<;>exact br _ _
theorem aks {d:bI} {s:bW} {k:aB} {t:Int} (hs:s.az.length≤aU) (ho:∀b∈s.az,rY b t) (hg:0≤s.mz∧s.mz≤65535) (hm:(dZ d k).1=1→0≤(pH d s.az k t).out∧(pH d s.az k t).out≤65535) (σ:Heap):HG [.rp (pU d),.rp (rU s),.agg (aL k),.int .i64 t] σ=some (.int .i64 (if ¬(dZ d k).1=1 then(pH d s.az k t).out else if s.black=true then 0 else wD (pH d s.az k t).out s.mz),σ):=by
 refine Ze rfl rfl (gQ _) ?_
 unfold Vs
 rw[wS,bS,nP,bS,YP hs ho,bS]
 simp only
 rw[iQ,bS,ext1,bS,pe,bS,kX,bS,P5,bS,bS,YL,bS,DE,bS,Au,bS,fI,bS]
 by_cases h1:(dZ d k).1=1
 ·rw[decide_eq_false (fun q=>q h1),cz,pe,bS,kX,bS,afE,bS,if_neg (fun q=>q h1)]
  cases s.black
  ·rw[cz,bS,kX,bS,afD,bS,ZV (hm h1) hg,bS]
   simp only
   rw[iQ,bS,ext1,bS]
   exact br _ _
  ·rw[cA]
   exact br _ _
 ·rw[decide_eq_true h1,cA,if_pos h1]
  exact br _ _
end
section
set_option maxRecDepth 100000
open HP
def Ao (g:Int) (x:aY) (dD to c:Int):gm:=⟨dD,to,c,x.delay,if g=1 then(if to<dD then x.down else x.up)else x.other,x.dS⟩
def Gm (x:aY) (k:aB) (f:gm):gm:=match x.dr.find? (fun m=>decide (m.key=k))with
 |none=>f
 |some m=>if m.zm=true then{f with delay:=m.delay,time:=m.time}else f
def Ce (snap:Bool) (f:gm):gm:=if snap=true then{f with time:=0}else f
def wW (d:bI) (x:aY) (k:aB) (dD to c:Int):gm:=sx (Ce (dZ d k).2.2 (Gm x k (Ao (dZ d k).1 x dD to c)))
theorem ai2 (m:fF) (k:aB) (σ:Heap):Fl [.agg (fG m),.rp (aL k)] σ=some (.bool (decide (m.key=k)),σ):=by
 refine IG rfl ?_
 unfold Ve
 rw[show A.cells 8 (.agg (fG m))=some (fG m)from rfl,bS,show A.ay 0 2 (fG m)=some (.agg (aL m.key))from rfl,bS,oq,bS,nP,bS,aaf,bS]
 exact br _ _
theorem amo {ro:Sh} {r:AV→AV→AV→AV→AV→AV→Heap→Option (AV×Heap)} {x y z u p q v v':AV} {σ σ':Heap} (e2:A.nn ro v=v') (e:r x y z u p q σ=some (v,σ')):A.wrap false [] ro (A.En r) [x,y,z,u,p,q] σ=some (v',σ'):=by
 have:A.En r [x,y,z,u,p,q] σ=some (v,σ'):=e
 simp only[A.wrap,Bool.false_and,cond_false,A.bT,this,Option.map_some,e2]
theorem ajg (dD to c:Int) (x:aY):((((A.cell (.int .i64 dD)).bind fun v=>some [v]).bind fun c6=>(A.splice 0 c6 [ah,ah,ah,ah,ah,ah,AV.aq]).bind fun c7=>((A.cell (.int .i64 to)).bind fun v=>some [v]).bind fun c8=>(A.splice 1 c8 c7).bind fun c9=>((A.cell (.int .i64 c)).bind fun v=>some [v]).bind fun dJ=>(A.splice 2 dJ c9).bind fun fN=>((A.cell (.int .i64 x.delay)).bind fun v=>some [v]).bind fun dX=>(A.splice 3 dX fN).bind fun fV=>((A.cell (.int .i64 x.other)).bind fun v=>some [v]).bind fun i6=>(A.splice 4 i6 fV).bind fun gV=>(A.cells 2 (.agg (lJ x.dS))).bind fun jO=>(A.splice 5 jO gV).bind fun jP=>some jP).bind fun cs=>some (AV.agg cs))=some (.agg (ew ⟨dD,to,c,x.delay,x.other,x.dS⟩)):=rfl
theorem aag (g:gm) (σ:Heap):(((A.lb (.lbx (ew g))).bind fun jc=>A.ay 0 7 jc).bind fun iE=>(vr [iE] σ).bind fun yu=>(A.lb (.lbx Ay)).bind fun l8=>(A.cells 7 yu.1).bind fun sM=>(A.splice 0 sM l8).bind fun Bm=>(A.ay 0 7 Bm).bind fun x90=>A.fin σ x90 yu.2)=some (.agg (ew (sx g)),σ):=by
 rw[ij,bS,BZ,bS,Sf,bS]
 simp only
 rw[ij,bS,Ac,bS,It _ _ rfl,bS,BZ,bS]
 exact br _ _
theorem Xy (d:bI) (k:aB) (f1:gm) (σ:Heap):((A.aj 5 (jv d k)).bind fun jg=>(A.cond jg (some ([(AV.lbx Ay),(AV.lbx (ew {f1 with time:=0}))],σ)) (some ([(AV.lbx Ay),(AV.lbx (ew f1))],σ))).bind fun ku=>((A.lb (ku.1.getD 1 AV.undef)).bind fun jc=>A.ay 0 7 jc).bind fun iE=>(vr [iE] ku.2).bind fun yu=>(A.lb (ku.1.getD 0 AV.undef)).bind fun l8=>(A.cells 7 yu.1).bind fun sM=>(A.splice 0 sM l8).bind fun Bm=>(A.ay 0 7 Bm).bind fun x90=>A.fin σ x90 yu.2)=some (.agg (ew (sx (Ce (dZ d k).2.2 f1))),σ):=by
 rw[al6,bS]
 unfold Ce
 cases(dZ d k).2.2
 ·rw[cz,bS]
  simp only[List.getD_cons_zero,List.getD_cons_succ]
  exact aag f1 σ
 ·rw[cA,bS]
  simp only[List.getD_cons_zero,List.getD_cons_succ]
  exact aag {f1 with time:=0} σ
theorem Yv (d:bI) (k:aB) (f1:gm) (σ:Heap):((A.aj 5 (jv d k)).bind fun jg=>(A.cond jg (((A.cell ah).bind fun v=>some [v]).bind fun mX=>(A.splice 4 mX (ew f1)).bind fun lE=>some ([(AV.lbx Ay),(AV.lbx lE)],σ)) (some ([(AV.lbx Ay),(AV.lbx (ew f1))],σ))).bind fun ku=>((A.lb (ku.1.getD 1 AV.undef)).bind fun jc=>A.ay 0 7 jc).bind fun iE=>(vr [iE] ku.2).bind fun yu=>(A.lb (ku.1.getD 0 AV.undef)).bind fun l8=>(A.cells 7 yu.1).bind fun sM=>(A.splice 0 sM l8).bind fun Bm=>(A.ay 0 7 Bm).bind fun x90=>A.fin σ x90 yu.2)=some (.agg (ew (sx (Ce (dZ d k).2.2 f1))),σ):=by
 rw[pV,bS,IZ,bS]
 exact Xy d k f1 σ
theorem alL {p q pm:AV} (d:bI) (x:aY) (hm:x.dr.length≤aU) (k:aB) (dD to c:Int) (σ:Heap) (h1:A.aN p=some p) (h2:A.aA 10 p=some q) (h3:((A.deref q σ).bind fun c=>A.aj 0 c)=some pm) (h4:A.look (.s [0,2]) pm (.agg (aL k)) (.agg Cv) σ=some (.agg (jv d k))):BO [p,.agg (aX x),.agg (aL k),.int .i64 dD,.int .i64 to,.int .i64 c] σ=some (.agg (ew (wW d x k dD to c)),σ):=by
 refine amo (v:=.agg (ew (wW d x k dD to c))) rfl ?_
 unfold Pc wW
 rw[Ix,bS,wS,bS,bS,Ma,bS,QZ,bS,Lm,bS,ajg,bS,Ac,bS,It _ _ rfl,bS,h1,bS,h2,bS,h3,bS,oq,bS,nP,bS,h4,bS,DE,bS,Sc,bS,Au,bS,gR,bS]
 have Un:∀w,Hu (A.tab (fun _ _=>none) [(349,Fl)]) [sl 8 fG x.dr,.fn 349 [.rp (aL k)]] w=some (.int .i64 (jI (fun m:fF=>decide (m.key=k)) x.dr),w):=fun w=>acw _ x.dr hm _ _ _ w fun m _=>ai2 m k w
 have A1:∀(f0:gm),(A.cond (.bool (decide ((dZ d k).1=1))) ((A.aj 3 (aX x)).bind fun ep=>((A.cell ep).bind fun v=>some [v]).bind fun sH=>(A.splice 4 sH (ew f0)).bind fun gC=>(A.lss (.int .i64 to) (.int .i64 dD)).bind fun gX=>(A.cond gX ((A.aj 4 (aX x)).bind fun x38=>((A.cell x38).bind fun v=>some [v]).bind fun lp=>(A.splice 4 lp gC).bind fun tM=>some ([(AV.lbx (aX x)),(AV.lbx Ay),(AV.lbx tM),(AV.lbx (jv d k))],σ)) (some ([(AV.lbx (aX x)),(AV.lbx Ay),(AV.lbx gC),(AV.lbx (jv d k))],σ))).bind fun mJ=>some ([(mJ.1.getD 0 AV.undef),(mJ.1.getD 1 AV.undef),(mJ.1.getD 2 AV.undef),(mJ.1.getD 3 AV.undef)],mJ.2)) (some ([(AV.lbx (aX x)),(AV.lbx Ay),(AV.lbx (ew f0)),(AV.lbx (jv d k))],σ)))=some ([(AV.lbx (aX x)),(AV.lbx Ay),(AV.lbx (ew {f0 with time:=if(dZ d k).1=1 then(if to<dD then x.down else x.up)else f0.time})),(AV.lbx (jv d k))],σ):=by
  intro f0
  by_cases h1:(dZ d k).1=1
  ·simp only[decide_eq_true h1,cT,XS,bS,pV,IZ,kV,if_pos h1]
   by_cases h2:to<dD
   ·simp only[decide_eq_true h2,cT,QY,bS,pV,IZ,if_pos h2,List.getD_cons_zero,List.getD_cons_succ]
   ·simp only[decide_eq_false h2,cF,bS,if_neg h2,List.getD_cons_zero,List.getD_cons_succ]
  ·simp only[decide_eq_false h1,cF,if_neg h1]
 rw[A1,bS]
 simp only[List.getD_cons_zero,List.getD_cons_succ,ij,bS,WV,Un,su]
 unfold Gm
 change _=some (AV.agg (ew (sx (Ce (dZ d k).2.2 (match x.dr.find? (fun m=>decide (m.key=k))with|none=>_|some m=>_)))),σ)
 rcases zY (fun m:fF=>decide (m.key=k)) x.dr with⟨e1,_,e2⟩|⟨j,m,e1,e2,e3,e4,_⟩
 ·rw[e1,e2]
  simp only[show decide ((0:Int)≤-1)=false from decide_eq_false (by decide),we,gU,bS,nh,cF,List.getD_cons_zero,List.getD_cons_succ,ij]
  exact Yv d k _ σ
 ·rw[e3,e4]
  simp only[decide_eq_true (show(0:Int)≤(j:Int) by omega),gT,bS,jk e1,kX,lq,show((A.deref (.rp ((fG m).drop 5)) σ).bind fun c=>A.aj 0 c)=some (.bool m.zm)from rfl]
  cases m.zm
  ·simp only[cF,bS,List.getD_cons_zero,List.getD_cons_succ,ij]
   exact Yv d k _ σ
  ·simp only[cT,bS,show((A.deref (.rp ((fG m).drop 6)) σ).bind fun c=>A.aj 0 c)=some (.int .i64 m.delay)from rfl,show((A.deref (.rp ((fG m).drop 7)) σ).bind fun c=>A.aj 0 c)=some (.int .i64 m.time)from rfl,pV,abi,IZ,List.getD_cons_zero,List.getD_cons_succ,ij]
   exact Xy d k ⟨dD,to,c,m.delay,m.time,x.dS⟩ σ
end
section
set_option maxRecDepth 100000
open HP
def dG (p:aB×ct):AV×AV:=(.agg (aL p.1),.agg (fc p.2))
theorem Wv {α β:Type} (f:α→β):∀(l:List α) {L:List β},L.Perm (l.map f)→∃l':List α,l'.Perm l∧l'.map f=L
 |[],L,h=>⟨[],.refl _,by have:=List.Perm.eq_nil h;rw[this];rfl⟩
 |x::l,L,h=>by
  have hx:f x∈L:=h.mem_iff.2 (by simp)
  obtain⟨s,t,rfl⟩:=List.append_of_mem hx
  have h2:(s++t).Perm (l.map f):=(List.perm_cons (f x)).1 (List.perm_middle.symm.trans h)
  obtain⟨l',k1,k2⟩:=Wv f l h2
  obtain⟨a,b,rfl,e1,e2⟩:=List.map_eq_append_iff.1 k2
  exact⟨a++x::b,List.perm_middle.trans (k1.cons x),by simp [e1,e2]⟩
theorem Rs (l:List (aB×ct)):∃l':List (aB×ct),l'.Perm l∧l'.map dG=A.zq (l.map dG):=Wv dG l (QJ (l.map dG))
noncomputable def AZ (l:List (aB×ct)):List (aB×ct):=Classical.choose (Rs l)
theorem LZ (l:List (aB×ct)):(AZ l).Perm l:=(Classical.choose_spec (Rs l)).1
theorem Yj (l:List (aB×ct)):(AZ l).map dG=A.zq (l.map dG):=(Classical.choose_spec (Rs l)).2
theorem aiN (l:List (aB×ct)):A.zq ((AZ l).map dG)=(AZ l).map dG:=by
 rw[Yj];exact Xr (QJ _)
theorem aiK {a b:aB} (h:AV.agg (aL a)=AV.agg (aL b)):a=b:=by
 injection h with h
 simp only[aL,List.cons.injEq,AV.int.injEq,AV.str.injEq,and_true,true_and]at h
 obtain⟨u,p⟩:=a;obtain⟨u',p'⟩:=b
 simp only at h
 rw[h.1,h.2]
theorem amB {l:List (aB×ct)} (h:(l.map (·.1)).Nodup):Gv (l.map dG):=by
 refine⟨fun p hp=>?_,?_⟩
 ·obtain⟨q,_,rfl⟩:=List.mem_map.1 hp
  exact⟨q.1.unit,q.1.param,rfl⟩
 ·rw[List.map_map]
  have e:((·.1)∘dG)=(fun k:aB=>AV.agg (aL k))∘(fun p:aB×ct=>p.1):=rfl
  rw[e,←List.map_map]
  exact List.pairwise_map.2 (List.Pairwise.imp (fun q e=>q (aiK e)) h)
def DR (o:Option (List (aB×ct))):Prop:=∀l,o=some l→(l.map (·.1)).Nodup∧A.zq (l.map dG)=l.map dG
theorem aab {l:List (aB×ct)} (h:(l.map (·.1)).Nodup):A.can (.fm (l.map dG))=.fm (A.zq (l.map dG)):=by
 unfold A.can
 exact if_pos (amB h)
theorem aj0 {o:Option (List (aB×ct))} (h:DR o):A.can (nH (fun x=>AV.agg (aL x)) (fun x=>AV.agg (fc x)) o)=nH (fun x=>AV.agg (aL x)) (fun x=>AV.agg (fc x)) o:=by
 cases o with
 |none=>rfl
 |some l=>
  obtain⟨h1,h2⟩:=h l rfl
  show A.can (.fm (l.map dG))=.fm (l.map dG)
  rw[aab h1,h2]
theorem ahE {b:bh} (h:DR b.runs):(aP b).map A.can=aP b:=by
 unfold aP
 simp only[List.map_cons,List.map_nil,aj0 h]
 rfl
def zA (d:bI) (e:bk):Int:=(vA d.setup.bJ e.key e.value).1
noncomputable def A3 (d:bI) (s:bW) (b:bh) (k:aB) (t c:Int):Int:=if(dw b k c).2=true then sS (dw b k c).1 c else if ¬(dZ d k).1=1 then(pH d s.az k t).out else 0
noncomputable def vJ (d:bI) (s:bW) (b:bh) (x:aY) (t c:Int) (e:bk):ct:=
 if(dw b e.key c).2=true∧(dw b e.key c).1.ending=false∧(dw b e.key c).1.jH.to=zA d e then(dw b e.key c).1
 else⟨wW d x e.key (A3 d s b e.key t c) (zA d e) c,s.number,false⟩
noncomputable def th (d:bI) (s:bW) (b:bh) (x:aY) (c:Int) (seen:List bk) (k:aB):Option ct:=
 if(dw b k c).2=false∨(lN seen k).isSome=true∨¬(dZ d k).1=1 then none
 else some (if(dw b k c).1.ending=true then(dw b k c).1 else⟨sx ⟨sS (dw b k c).1 c,0,c,x.delay,x.down,x.dS⟩,s.number,true⟩)
def vM (b:bh) (x:aY):List bk:=(yQ b.bD x.number).1
noncomputable def za (d:bI) (s:bW) (b:bh) (x:aY) (t:Int):List (aB×ct):=
 (vM b x).map (fun e=>(e.key,vJ d s b x t (dc b.clock t) e))++(b.runs.getD []).filterMap (fun p=>(th d s b x (dc b.clock t) (vM b x) p.1).map (fun r=>(p.1,r)))
noncomputable def kL (d:bI) (s:bW) (b:bh) (x:aY) (to t:Int):bh:=
 {b with clock:=⟨dc b.clock t,t,false⟩,bZ:=to,runs:=some (AZ (za d s b x t)),follow:=if 0≤x.follow∧to+1<(b.bD.length:Int)then IntKind.i64.wrap (dc b.clock t+x.follow)else -1}
abbrev R9:Sh:=.p CV
abbrev RQ:Sh:=.p [(.s 10),.k,.k,.k]
structure sG (p : AV) (d : bI) (σ : Heap) : Prop where
 nc:A.aN p=some p
 f2:∃q1 q2,A.aA 4 p=some q1∧A.aA 2 q1=some q2∧∀ex,((A.deref q2 (σ++ex)).bind fun c=>A.aj 0 c)=some (sl 3 dP d.setup.bJ)
 f10:∃q pm,A.aA 10 p=some q∧∀ex,((A.deref q (σ++ex)).bind fun c=>A.aj 0 c)=some pm∧∀k,A.look (.s [0,2]) pm (.agg (aL k)) (.agg Cv) (σ++ex)=some (.agg (jv d k))
 lt:∀ex,Lt (σ++ex) R9 p (.rp (pU d))
theorem ahS (l:List bh) (σ:Heap) (n d:Nat):A.jm σ n d (l.map aP)=some (l.map aP):=S8 Du l σ n d
abbrev bA (v:AV) (s:bW):List AV:=[v,.int .i64 s.number,.int .i64 s.mz,.bool s.black]
theorem ajm {W:Heap} {ids aV g:Nat} {s:bW} (h1:W[ids]? =some (.box (bA (.os aV g 10 0 s.az.length) s))) (h2:W[aV]? =some (.arr g 10 (s.az.map aP))):Lt W RQ (.op ids 0) (.rp (rU s)):=by
 refine⟨⟨.rp (rU s),?_,rfl,rfl⟩,rfl,fun h=>by cases h⟩
 have q:=Na (c:=aP) (sz:=10) (l:=s.az) Du h2 (n:=0) (by omega) 6
 simp only[A.bw,Nat.not_lt_zero,if_false,h1,List.drop_zero,bA,A.uj,q,Option.bind_some,Option.map_some]
 rfl
theorem ajn {W:Heap} {pd ps:AV} {d:bI} {s:bW} {k:aB} {t:Int} (hd:Lt W R9 pd (.rp (pU d))) (hs':Lt W RQ ps (.rp (rU s))) (hs:s.az.length≤aU) (ho:∀b∈s.az,rY b t):BN [pd,ps,.agg (aL k),.int .i64 t] W=some (.aF [.int .i64 (pH d s.az k t).out,.int .i64 (pH d s.az k t).owner],W):=
 CR (cO:=[pd,ps,.agg (aL k),.int .i64 t]) (ts:=[.rp (pU d),.rp (rU s),.agg (aL k),.int .i64 t]) ⟨hd,hs',IX (vE (yV k)) rfl,R3 t,trivial⟩ (fun σ=>YP (d:=d) hs ho σ) rfl
def CJ (p:aB×Bool):AV×AV:=(.agg (aL p.1),.bool p.2)
abbrev pE (σ:Heap) (m1:List (aB×ct)) (m2:List (aB×Bool)):Heap:=σ++[.map (m1.map dG),.map (m2.map CJ)]
theorem amK (σ:Heap) (m1:List (aB×ct)) (m2:List (aB×Bool)):(pE σ m1 m2)[σ.length]? =some (.map (m1.map dG)):=by
 rw[List.getElem?_append_right (Nat.le_refl _),Nat.sub_self];rfl
theorem amL (σ:Heap) (m1:List (aB×ct)) (m2:List (aB×Bool)):(pE σ m1 m2)[σ.length+1]? =some (.map (m2.map CJ)):=by
 rw[List.getElem?_append_right (by omega),show σ.length+1-σ.length=1 by omega];rfl
theorem aao (σ:Heap) (m1:List (aB×ct)) (m2:List (aB×Bool)) (k:aB) (r:ct):A.eA (.s [0,2]) (.om σ.length) (.agg (aL k)) (.agg (fc r)) (pE σ m1 m2)=some (pE σ (dz k r m1) m2):=by
 rw[Ai _ rfl (amK σ m1 m2),show A.upd (.s [0,2]) (.agg (aL k)) (.agg (fc r)) (m1.map dG)=some ((dz k r m1).map dG)from DP (eK:=fun k=>AV.agg (aL k)) (eV:=fun r=>AV.agg (fc r)) pM k r m1,Option.map_some,List.set_append_right _ _ (Nat.le_refl _),Nat.sub_self]
 rfl
theorem alQ (σ:Heap) (m1:List (aB×ct)) (m2:List (aB×Bool)) (k:aB) (r:Bool):A.eA (.s [0,2]) (.om (σ.length+1)) (.agg (aL k)) (.bool r) (pE σ m1 m2)=some (pE σ m1 (dz k r m2)):=by
 rw[Ai _ rfl (amL σ m1 m2),show A.upd (.s [0,2]) (.agg (aL k)) (.bool r) (m2.map CJ)=some ((dz k r m2).map CJ)from DP (eK:=fun k=>AV.agg (aL k)) (eV:=fun r=>AV.bool r) pM k r m2,Option.map_some,List.set_append_right _ _ (by omega),show σ.length+1-σ.length=1 by omega]
 rfl
structure G3 (p : AV) (b : bh) (σ : Heap) : Prop where
 nc:A.aN p=some p
 f:∀o,∃q,A.aA o p=some q∧∀ex,A.deref q (σ++ex)=some ((aP b).drop o)
theorem bRd {σ:Heap} {aV g ib:Nat} {l:List bh} {b:bh} (h:σ[aV]? =some (.arr g 10 (l.map aP))) (hb:l[ib]? =some b):G3 (.oe aV g ib 0) b σ:=by
 refine⟨rfl,fun o=>⟨.oe aV g ib o,by simp [A.aA],fun ex=>?_⟩⟩
 have hl:=(List.getElem?_eq_some_iff.1 h).1
 simp only[A.deref,List.getElem?_append_left hl,h,if_true,List.getElem?_map,hb,Option.map_some]
theorem Q9 {σ:Heap} {p:AV} {b:bh} (h:G3 p b σ) (k:aB) (c:Int) (ex:Heap):qA [p,.agg (aL k),.int .i64 c] (σ++ex)=some (.aF [.agg (fc (dw b k c).1),.bool (dw b k c).2],σ++ex):=by
 obtain⟨q,h2,h3⟩:=h.f 9
 refine Yp b k c (σ++ex) h.nc h2 ?_
 rw[h3 ex]
 exact Lu b (σ:=[])
theorem alK {σ:Heap} {p:AV} {d:bI} (h:sG p d σ) (x:aY) (hm:x.dr.length≤aU) (k:aB) (dD to c:Int) (ex:Heap):BO [p,.agg (aX x),.agg (aL k),.int .i64 dD,.int .i64 to,.int .i64 c] (σ++ex)=some (.agg (ew (wW d x k dD to c)),σ++ex):=by
 obtain⟨q,pm,h2,h3⟩:=h.f10
 exact alL d x hm k dD to c (σ++ex) h.nc h2 (h3 ex).1 ((h3 ex).2 k)
theorem RE (f:gm) (n:Int) (b:Bool):(((A.cells 7 (.agg (ew f))).bind fun sN=>(A.splice 0 sN [ah,ah,ah,ah,ah,ah,AV.aq,ah,aI]).bind fun mY=>((A.cell (.int .i64 n)).bind fun v=>some [v]).bind fun xW=>(A.splice 7 xW mY).bind fun ux=>((A.cell (AV.bool b)).bind fun v=>some [v]).bind fun nC=>(A.splice 8 nC ux).bind fun AK=>some AK).bind fun cs=>some (AV.agg cs))=some (.agg (fc ⟨f,n,b⟩)):=rfl
theorem go_step1 {d:bI} {s:bW} {σ:Heap} {pd bp:AV} {ids aV g:Nat} {b:bh} {x:aY} {t:Int} (hd:sG pd d σ) (h1:σ[ids]? =some (.box (bA (.os aV g 10 0 s.az.length) s))) (h2:σ[aV]? =some (.arr g 10 (s.az.map aP))) (hb:b∈s.az) (zI:G3 bp b σ) (hs:s.az.length≤aU) (ho:∀b∈s.az,rY b t) (hp:fE BY d.setup.bJ) (hx:x.dr.length≤aU) {seen:List bk} (BA:seen.length≤aU) {i:Nat} {e:bk} (he:seen[i]? =some e) (m1:List (aB×ct)) (m2:List (aB×Bool)):((fun jx yz=>
   (A.lss (jx.getD 1 AV.undef) (AV.int .i64 (seen.length:Int))).bind fun x32=>
   A.cond x32 (
    (A.aW 5 (sl 5 cL seen) (jx.getD 1 AV.undef)).bind fun ep=>
    ((A.deref ep yz).bind fun sH=>A.ay 0 5 sH).bind fun gy=>
    (A.cells 5 gy).bind fun gD=>
    (A.splice 0 gD [ah,bg,ah,ah,ah]).bind fun fJ=>
    (A.ay 0 2 fJ).bind fun x38=>
    (A.eA (.s [0,2]) (AV.om (σ.length+1)) x38 cK yz).bind fun rC=>
    (A.aN pd).bind fun dm=>
    (A.aA 4 dm).bind fun ef=>
    (A.aA 2 ef).bind fun fP=>
    ((A.deref fP rC).bind fun qo=>A.aj 0 qo).bind fun eO=>
    (A.ay 0 2 fJ).bind fun dU=>
    (A.ay 2 2 fJ).bind fun fM=>
    (A.quiet (Dn [eO,dU,fM] rC) rC).bind fun iV=>
    (A.ext 0 iV).bind fun iC=>
    (A.ext 1 iV).bind fun eP=>
    (A.ay 0 2 fJ).bind fun lF=>
    (qA [bp,lF,(AV.int .i64 (dc b.clock t))] rC).bind fun lu=>
    (A.ext 0 lu.1).bind fun eD=>
    (A.ext 1 lu.1).bind fun gP=>
    (A.cells 9 eD).bind fun rz=>
    (A.splice 0 rz [ah,ah,ah,ah,ah,ah,AV.aq,ah,aI]).bind fun gM=>
    (A.guard gP true (A.aj 8 gM) an).bind fun gG=>
    (A.guard gP true (A.not gG) an).bind fun kC=>
    (A.pick gP kC aI).bind fun gZ=>
    (A.guard gZ true (A.aj 1 gM) an).bind fun eW=>
    (A.guard gZ true (some iC) an).bind fun gz=>
    (A.guard gZ true (A.eql .i eW gz) an).bind fun jA=>
    (A.pick gZ jA aI).bind fun eY=>
    A.cond eY (
     (A.ay 0 2 fJ).bind fun eR=>
     (A.ay 0 9 gM).bind fun mj=>
     (A.eA (.s [0,2]) (AV.om σ.length) eR mj lu.2).bind fun JJ=>
     (A.add (jx.getD 1 AV.undef) aH).bind fun gH=>
     some (AX.normal,[(jx.getD 0 AV.undef),gH],JJ)) (
     (A.cond gP (
      (A.ay 0 9 gM).bind fun gI=>
      (vn [gI,(AV.int .i64 (dc b.clock t))] lu.2).bind fun C6=>
      some ([(jx.getD 0 AV.undef),(AV.lbx fJ),C6.1],C6.2)) (
      (A.aN pd).bind fun eZ=>
      (A.aA 10 eZ).bind fun mm=>
      ((A.deref mm lu.2).bind fun jK=>A.aj 0 jK).bind fun hG=>
      (A.ay 0 2 fJ).bind fun iq=>
      (A.look (.s [0,2]) hG iq (AV.agg [bg,ah,ah,ah,ah,aI,AV.aq]) lu.2).bind fun eu=>
      ((A.cells 7 eu).bind fun EC=>A.aj 1 EC).bind fun vk=>
      (A.neq .i vk aH).bind fun jg=>
      (A.cond jg (
       (A.ay 0 2 fJ).bind fun fA=>
       (BN [pd,(AV.op ids 0),fA,(AV.int .i64 t)] lu.2).bind fun yq=>
       (A.ext 0 yq.1).bind fun oD=>
       (A.ext 1 yq.1).bind fun pK=>
       some ([(jx.getD 0 AV.undef),(AV.lbx fJ),oD],yq.2)) (
       some ([(jx.getD 0 AV.undef),(AV.lbx fJ),ah],lu.2))).bind fun ku=>
      some ([(ku.1.getD 0 AV.undef),(ku.1.getD 1 AV.undef),(ku.1.getD 2 AV.undef)],ku.2))).bind fun eU=>
     ((A.lb (eU.1.getD 1 AV.undef)).bind fun _=>some (0)).bind fun EY=>
     ((A.lb (eU.1.getD 1 AV.undef)).bind fun Bl=>A.ay EY 2 Bl).bind fun jh=>
     ((A.lb (eU.1.getD 0 AV.undef)).bind fun sM=>A.ay 0 11 sM).bind fun iF=>
     ((A.lb (eU.1.getD 1 AV.undef)).bind fun _=>some (0)).bind fun E0=>
     ((A.lb (eU.1.getD 1 AV.undef)).bind fun l9=>A.ay E0 2 l9).bind fun x91=>
     (A.quiet (BO [pd,iF,x91,(eU.1.getD 2 AV.undef),iC,(AV.int .i64 (dc b.clock t))] eU.2) eU.2).bind fun oF=>
     (A.aN (AV.op ids 0)).bind fun x93=>
     (A.aA 1 x93).bind fun rK=>
     ((A.deref rK eU.2).bind fun iU=>A.aj 0 iU).bind fun x96=>
     (((A.cells 7 oF).bind fun sN=>(A.splice 0 sN [ah,ah,ah,ah,ah,ah,AV.aq,ah,aI]).bind fun mY=>((A.cell x96).bind fun v=>some [v]).bind fun xW=>(A.splice 7 xW mY).bind fun ux=>((A.cell aI).bind fun v=>some [v]).bind fun nC=>(A.splice 8 nC ux).bind fun AK=>some AK).bind fun cs=>some (AV.agg cs)).bind fun uH=>
     (A.eA (.s [0,2]) (AV.om σ.length) jh uH eU.2).bind fun D7=>
     (A.add (jx.getD 1 AV.undef) aH).bind fun uI=>
     some (AX.normal,[(eU.1.getD 0 AV.undef),uI],D7))) (
    some (AX.exit 0,[(jx.getD 0 AV.undef),(jx.getD 1 AV.undef)],yz)))) [.lbx (aX x),.int .i64 (i:Int)] (pE σ m1 m2)=some (.normal,[.lbx (aX x),.int .i64 ((i+1:Nat):Int)],pE σ (dz e.key (vJ d s b x t (dc b.clock t) e) m1) (dz e.key true m2)):=by
 obtain⟨c,hc⟩:∃c,c=dc b.clock t:=⟨_,rfl⟩
 have CZ:=ho b hb
 have A5:=CZ.qq
 have EH:(dw b e.key c).2=true→oM (dw b e.key c).1.jH:=fun q=>by rw[hc]at q ⊢;exact An CZ q
 rw[←hc]at A5
 rw[←hc]
 obtain⟨q1,q2,f1,f2,f3⟩:=hd.f2
 obtain⟨Hl,pm,g1,g2⟩:=hd.f10
 have h1':∀ex,(σ++ex)[ids]? =some (.box (bA (.os aV g 10 0 s.az.length) s)):=fun ex=>by rw[List.getElem?_append_left (List.getElem?_eq_some_iff.1 h1).1];exact h1
 have h2':∀ex,(σ++ex)[aV]? =some (.arr g 10 (s.az.map aP)):=fun ex=>by rw[List.getElem?_append_left (List.getElem?_eq_some_iff.1 h2).1];exact h2
 simp only[List.getD_cons_zero,List.getD_cons_succ]
 rw[jM he,bS,cA,jk he,bS,oq]
 simp only[bS,show A.ay 0 5 (cL e)=some (.agg (cL e))from rfl,show A.cells 5 (.agg (cL e))=some (cL e)from rfl,show A.splice 0 (cL e) [ah,bg,ah,ah,ah]=some (cL e)from rfl,show A.ay 0 2 (cL e)=some (.agg (aL e.key))from rfl,show A.ay 2 2 (cL e)=some (.agg (vC e.value))from rfl]
 rw[alQ,bS]
 simp only[hd.nc,bS,f1,f2,f3,quiet_of (V4 (Zh d.setup.bJ hp e.key e.value)),iQ,ext1]
 rw[Q9 zI,bS]
 simp only[iQ,ext1,bS,yN,B0 _ _ (show nB.length=9 from rfl)]
 have tail:∀(W:Heap) (dD:Int) (hW:W=pE σ m1 (dz e.key true m2)),((A.lb (AV.lbx (cL e))).bind fun _=>some 0).bind (fun EY=>((A.lb (AV.lbx (cL e))).bind fun Bl=>A.ay EY 2 Bl).bind fun jh=>((A.lb (.lbx (aX x))).bind fun sM=>A.ay 0 11 sM).bind fun iF=>((A.lb (AV.lbx (cL e))).bind fun _=>some (0)).bind fun E0=>((A.lb (AV.lbx (cL e))).bind fun l9=>A.ay E0 2 l9).bind fun x91=>(A.quiet (BO [pd,iF,x91,.int .i64 dD,.int .i64 (zA d e),.int .i64 c] W) W).bind fun oF=>(A.aN (AV.op ids 0)).bind fun x93=>(A.aA 1 x93).bind fun rK=>((A.deref rK W).bind fun iU=>A.aj 0 iU).bind fun x96=>
   (((A.cells 7 oF).bind fun sN=>(A.splice 0 sN [ah,ah,ah,ah,ah,ah,AV.aq,ah,aI]).bind fun mY=>((A.cell x96).bind fun v=>some [v]).bind fun xW=>(A.splice 7 xW mY).bind fun ux=>((A.cell aI).bind fun v=>some [v]).bind fun nC=>(A.splice 8 nC ux).bind fun AK=>some AK).bind fun cs=>some (AV.agg cs)).bind fun uH=>(A.eA (.s [0,2]) (AV.om σ.length) jh uH W).bind fun D7=>(A.add (AV.int .i64 (i:Int)) aH).bind fun uI=>some (AX.normal,[(.lbx (aX x)),uI],D7))=some (.normal,[.lbx (aX x),.int .i64 ((i+1:Nat):Int)],pE σ (dz e.key ⟨wW d x e.key dD (zA d e) c,s.number,false⟩ m1) (dz e.key true m2)):=by
  intro W dD hW
  subst hW
  simp only[ij,bS,show A.ay 0 2 (cL e)=some (.agg (aL e.key))from rfl,show A.ay 0 11 (aX x)=some (.agg (aX x))from rfl,quiet_of (alK hd x hx e.key dD (zA d e) c _)]
  rw[show A.aN (.op ids 0)=some (.op ids 0)from rfl,bS,show A.aA 1 (.op ids 0)=some (.op ids 1)from rfl,bS,show((A.deref (.op ids 1) (pE σ m1 (dz e.key true m2))).bind fun iU=>A.aj 0 iU)=some (.int .i64 s.number)from by simp only[A.deref,h1'];rfl,bS,RE,bS,aao,bS,gK he BA,bS]
 unfold vJ
 by_cases me:(dw b e.key c).2=true
 ·have hfo:=EH me
  rw[me]
  cases JS:(dw b e.key c).1.ending
  case false=>
   simp only[gT,bS,LR,JS,sy,Bool.not_false,lq,agU,gR]
   by_cases hto:(dw b e.key c).1.jH.to=zA d e
   ·rw[show(vA d.setup.bJ e.key e.value).1=zA d e from rfl,decide_eq_true hto,cA,if_pos ⟨trivial,trivial,hto⟩]
    simp only[vw,bS]
    rw[aao,bS,gK he BA,bS]
   ·rw[show(vA d.setup.bJ e.key e.value).1=zA d e from rfl,decide_eq_false hto,cz,if_neg (fun q=>hto q.2.2),cA]
    simp only[vw,bS,IA hfo A5,List.getD_cons_zero,List.getD_cons_succ]
    have:=tail _ (sS (dw b e.key c).1 c) rfl
    unfold A3
    rw[if_pos me]
    exact this
  case true=>
   simp only[gT,we,bS,LR,JS,sy,Bool.not_true,lq,nh]
   rw[cz,if_neg (fun q=>by cases q.2.1),cA]
   simp only[vw,bS,IA hfo A5,List.getD_cons_zero,List.getD_cons_succ]
   have:=tail _ (sS (dw b e.key c).1 c) rfl
   unfold A3
   rw[if_pos me]
   exact this
 ·have D9:(dw b e.key c).2=false:=by simpa using me
  rw[D9]
  simp only[we,gU,bS,nh]
  rw[cz,if_neg (fun q=>by cases q.1),cz]
  simp only[hd.nc,bS,g1,g2,show A.ay 0 2 (cL e)=some (.agg (aL e.key))from rfl,DE,Au,fI]
  by_cases hg:(dZ d e.key).1=1
  ·rw[decide_eq_false (fun q=>q hg),cz]
   simp only[bS,List.getD_cons_zero,List.getD_cons_succ]
   have:=tail _ 0 rfl
   unfold A3
   rw[if_neg me,if_neg (fun q=>q hg)]
   exact this
  ·rw[decide_eq_true hg,cA]
   simp only[bS,ajn (hd.lt _) (ajm (h1' _) (h2' _)) hs ho,iQ,ext1,List.getD_cons_zero,List.getD_cons_succ]
   have:=tail _ (pH d s.az e.key t).out rfl
   unfold A3
   rw[if_neg me,if_pos hg]
   exact this
end
section
set_option maxRecDepth 100000
open HP
theorem IQ {κ ν:Type} [DecidableEq κ] {k:κ} {v:ν}:∀{l:List (κ×ν)},(∀p∈l,p.1≠k)→dz k v l=l++[(k,v)]
 |[],_=>rfl
 |(k',v')::r,h=>by
  rw[dz,if_neg (fun e=>h (k',v') (by simp) e.symm),IQ fun p hp=>h p (by simp [hp])]
  rfl
theorem GF {κ ν:Type} [DecidableEq κ] {k:κ} {v:ν}:∀{l:List (κ×ν)},bM k l=some v→(k,v)∈l
 |[],h=>by cases h
 |(k',v')::r,h=>by
  rw[bM]at h
  by_cases e:k=k'
  ·rw[if_pos e]at h;injection h with h;subst h;subst e;simp
  ·rw[if_neg e]at h;exact List.mem_cons_of_mem _ (GF h)
theorem aiz {seen:List bk} (h:mP seen) {i:Nat} {e:bk} (he:seen[i]? =some e):∀a∈seen.take i,a.key≠e.key:=by
 have hp:(seen.take (i+1)).Pairwise fun a b=>fq a.key b.key=true:=List.Pairwise.sublist (List.take_sublist _ _) h
 rw[List.take_add_one,he]at hp
 intro a ha q
 have:=(List.pairwise_append.1 hp).2.2 a ha e (by simp)
 rw[q,B8]at this
 cases this
theorem go_loop1 {d:bI} {s:bW} {σ:Heap} {pd bp:AV} {ids aV g:Nat} {b:bh} {x:aY} {t:Int} (hd:sG pd d σ) (h1:σ[ids]? =some (.box (bA (.os aV g 10 0 s.az.length) s))) (h2:σ[aV]? =some (.arr g 10 (s.az.map aP))) (hb:b∈s.az) (zI:G3 bp b σ) (hs:s.az.length≤aU) (ho:∀b∈s.az,rY b t) (hp:fE BY d.setup.bJ) (hx:x.dr.length≤aU) {seen:List bk} (BA:seen.length≤aU) (uZ:mP seen):A.loop ((fun jx yz=>
   (A.lss (jx.getD 1 AV.undef) (AV.int .i64 (seen.length:Int))).bind fun x32=>
   A.cond x32 (
    (A.aW 5 (sl 5 cL seen) (jx.getD 1 AV.undef)).bind fun ep=>
    ((A.deref ep yz).bind fun sH=>A.ay 0 5 sH).bind fun gy=>
    (A.cells 5 gy).bind fun gD=>
    (A.splice 0 gD [ah,bg,ah,ah,ah]).bind fun fJ=>
    (A.ay 0 2 fJ).bind fun x38=>
    (A.eA (.s [0,2]) (AV.om (σ.length+1)) x38 cK yz).bind fun rC=>
    (A.aN pd).bind fun dm=>
    (A.aA 4 dm).bind fun ef=>
    (A.aA 2 ef).bind fun fP=>
    ((A.deref fP rC).bind fun qo=>A.aj 0 qo).bind fun eO=>
    (A.ay 0 2 fJ).bind fun dU=>
    (A.ay 2 2 fJ).bind fun fM=>
    (A.quiet (Dn [eO,dU,fM] rC) rC).bind fun iV=>
    (A.ext 0 iV).bind fun iC=>
    (A.ext 1 iV).bind fun eP=>
    (A.ay 0 2 fJ).bind fun lF=>
    (qA [bp,lF,(AV.int .i64 (dc b.clock t))] rC).bind fun lu=>
    (A.ext 0 lu.1).bind fun eD=>
    (A.ext 1 lu.1).bind fun gP=>
    (A.cells 9 eD).bind fun rz=>
    (A.splice 0 rz [ah,ah,ah,ah,ah,ah,AV.aq,ah,aI]).bind fun gM=>
    (A.guard gP true (A.aj 8 gM) an).bind fun gG=>
    (A.guard gP true (A.not gG) an).bind fun kC=>
    (A.pick gP kC aI).bind fun gZ=>
    (A.guard gZ true (A.aj 1 gM) an).bind fun eW=>
    (A.guard gZ true (some iC) an).bind fun gz=>
    (A.guard gZ true (A.eql .i eW gz) an).bind fun jA=>
    (A.pick gZ jA aI).bind fun eY=>
    A.cond eY (
     (A.ay 0 2 fJ).bind fun eR=>
     (A.ay 0 9 gM).bind fun mj=>
     (A.eA (.s [0,2]) (AV.om σ.length) eR mj lu.2).bind fun JJ=>
     (A.add (jx.getD 1 AV.undef) aH).bind fun gH=>
     some (AX.normal,[(jx.getD 0 AV.undef),gH],JJ)) (
     (A.cond gP (
      (A.ay 0 9 gM).bind fun gI=>
      (vn [gI,(AV.int .i64 (dc b.clock t))] lu.2).bind fun C6=>
      some ([(jx.getD 0 AV.undef),(AV.lbx fJ),C6.1],C6.2)) (
      (A.aN pd).bind fun eZ=>
      (A.aA 10 eZ).bind fun mm=>
      ((A.deref mm lu.2).bind fun jK=>A.aj 0 jK).bind fun hG=>
      (A.ay 0 2 fJ).bind fun iq=>
      (A.look (.s [0,2]) hG iq (AV.agg [bg,ah,ah,ah,ah,aI,AV.aq]) lu.2).bind fun eu=>
      ((A.cells 7 eu).bind fun EC=>A.aj 1 EC).bind fun vk=>
      (A.neq .i vk aH).bind fun jg=>
      (A.cond jg (
       (A.ay 0 2 fJ).bind fun fA=>
       (BN [pd,(AV.op ids 0),fA,(AV.int .i64 t)] lu.2).bind fun yq=>
       (A.ext 0 yq.1).bind fun oD=>
       (A.ext 1 yq.1).bind fun pK=>
       some ([(jx.getD 0 AV.undef),(AV.lbx fJ),oD],yq.2)) (
       some ([(jx.getD 0 AV.undef),(AV.lbx fJ),ah],lu.2))).bind fun ku=>
      some ([(ku.1.getD 0 AV.undef),(ku.1.getD 1 AV.undef),(ku.1.getD 2 AV.undef)],ku.2))).bind fun eU=>
     ((A.lb (eU.1.getD 1 AV.undef)).bind fun _=>some (0)).bind fun EY=>
     ((A.lb (eU.1.getD 1 AV.undef)).bind fun Bl=>A.ay EY 2 Bl).bind fun jh=>
     ((A.lb (eU.1.getD 0 AV.undef)).bind fun sM=>A.ay 0 11 sM).bind fun iF=>
     ((A.lb (eU.1.getD 1 AV.undef)).bind fun _=>some (0)).bind fun E0=>
     ((A.lb (eU.1.getD 1 AV.undef)).bind fun l9=>A.ay E0 2 l9).bind fun x91=>
     (A.quiet (BO [pd,iF,x91,(eU.1.getD 2 AV.undef),iC,(AV.int .i64 (dc b.clock t))] eU.2) eU.2).bind fun oF=>
     (A.aN (AV.op ids 0)).bind fun x93=>
     (A.aA 1 x93).bind fun rK=>
     ((A.deref rK eU.2).bind fun iU=>A.aj 0 iU).bind fun x96=>
     (((A.cells 7 oF).bind fun sN=>(A.splice 0 sN [ah,ah,ah,ah,ah,ah,AV.aq,ah,aI]).bind fun mY=>((A.cell x96).bind fun v=>some [v]).bind fun xW=>(A.splice 7 xW mY).bind fun ux=>((A.cell aI).bind fun v=>some [v]).bind fun nC=>(A.splice 8 nC ux).bind fun AK=>some AK).bind fun cs=>some (AV.agg cs)).bind fun uH=>
     (A.eA (.s [0,2]) (AV.om σ.length) jh uH eU.2).bind fun D7=>
     (A.add (jx.getD 1 AV.undef) aH).bind fun uI=>
     some (AX.normal,[(eU.1.getD 0 AV.undef),uI],D7))) (
    some (AX.exit 0,[(jx.getD 0 AV.undef),(jx.getD 1 AV.undef)],yz)))) [.lbx (aX x),.int .i64 0] (pE σ [] [])=some (.exit 0,[.lbx (aX x),.int .i64 (seen.length:Int)],pE σ (seen.map (fun e=>(e.key,vJ d s b x t (dc b.clock t) e))) (seen.map (fun e=>(e.key,true)))):=by
 refine Bs (nO (Q:=fun q=>q=(.exit 0,[.lbx (aX x),.int .i64 (seen.length:Int)],pE σ (seen.map (fun e=>(e.key,vJ d s b x t (dc b.clock t) e))) (seen.map (fun e=>(e.key,true))))) (fun z v w=>∃i:Nat,i≤seen.length∧v=[.lbx (aX x),.int .i64 (i:Int)]∧w=pE σ ((seen.take i).map (fun e=>(e.key,vJ d s b x t (dc b.clock t) e))) ((seen.take i).map (fun e=>(e.key,true)))∧z=seen.length-i) ?_ (n:=seen.length) ⟨0,Nat.zero_le _,rfl,rfl,rfl⟩)
 rintro z v w ⟨i,hi,rfl,rfl,hz⟩
 by_cases h:i<seen.length
 ·have he:seen[i]? =some seen[i]:=List.getElem?_eq_getElem h
  have hk:=aiz uZ he
  refine .inl ⟨seen.length-(i+1),_,_,by omega,go_step1 hd h1 h2 hb zI hs ho hp hx BA he _ _,i+1,h,rfl,?_,rfl⟩
  rw[IQ (fun p hp=>by obtain⟨a,ha,rfl⟩:=List.mem_map.1 hp;exact hk a ha),IQ (fun p hp=>by obtain⟨a,ha,rfl⟩:=List.mem_map.1 hp;exact hk a ha),List.take_add_one,he]
  simp only[List.map_append,Option.toList_some,List.map_cons,List.map_nil]
 ·have:i=seen.length:=by omega
  subst this
  refine .inr ⟨_,?_,by simp,rfl⟩
  simp only[List.getD_cons_zero,List.getD_cons_succ]
  rw[j0,bS,cz,List.take_length]
abbrev sO (σ:Heap) (m1:List (aB×ct)) (m2:List (aB×Bool)) (c l:List (AV×AV)):Heap:=σ++[.map (m1.map dG),.map (m2.map CJ),.it c l]
theorem aan (σ:Heap) (m1:List (aB×ct)) (m2:List (aB×Bool)) (c l:List (AV×AV)):(sO σ m1 m2 c l)[σ.length+2]? =some (.it c l):=by
 rw[List.getElem?_append_right (by omega),show σ.length+2-σ.length=2 by omega];rfl
theorem akt (σ:Heap) (m1:List (aB×ct)) (m2:List (aB×Bool)) (c l c' l':List (AV×AV)):(sO σ m1 m2 c l).set (σ.length+2) (.it c' l')=sO σ m1 m2 c' l':=by
 rw[List.set_append_right _ _ (by omega),show σ.length+2-σ.length=2 by omega];rfl
theorem alP (σ:Heap) (m1:List (aB×ct)) (m2:List (aB×Bool)) (c l:List (AV×AV)) (k:aB) (r:ct):A.eA (.s [0,2]) (.om σ.length) (.agg (aL k)) (.agg (fc r)) (sO σ m1 m2 c l)=some (sO σ (dz k r m1) m2 c l):=by
 rw[Ai _ rfl (show(sO σ m1 m2 c l)[σ.length]? =some (.map (m1.map dG)) by rw[List.getElem?_append_right (Nat.le_refl _),Nat.sub_self];rfl),show A.upd (.s [0,2]) (.agg (aL k)) (.agg (fc r)) (m1.map dG)=some ((dz k r m1).map dG)from DP (eK:=fun k=>AV.agg (aL k)) (eV:=fun r=>AV.agg (fc r)) pM k r m1,Option.map_some,List.set_append_right _ _ (Nat.le_refl _),Nat.sub_self]
 rfl
theorem alO (σ:Heap) (m1:List (aB×ct)) (m2:List (aB×Bool)) (c l:List (AV×AV)) (k:aB):A.look (.s [0,2]) (.om (σ.length+1)) (.agg (aL k)) (.bool false) (sO σ m1 m2 c l)=some (.bool ((bM k m2).getD false)):=by
 have h:(sO σ m1 m2 c l)[σ.length+1]? =some (.map (m2.map CJ)):=by rw[List.getElem?_append_right (by omega),show σ.length+1-σ.length=1 by omega];rfl
 simp only[A.look,show A.jB (.s [0,2]) (.agg (aL k))=true from rfl,cond_true,A.entries,h,Option.bind_some,show A.find (.s [0,2]) (.agg (aL k)) (m2.map CJ)=some ((bM k m2).map AV.bool)from Cf (eK:=fun k=>AV.agg (aL k)) (eV:=fun r=>AV.bool r) pM k m2,Option.map_some]
 cases bM k m2<;>rfl
theorem ajQ (seen:List bk) (k:aB):(bM k (seen.map (fun e=>(e.key,true)))).getD false=(lN seen k).isSome:=by
 induction seen with
 |nil=>rfl
 |cons e l ih=>
  rw[List.map_cons,bM]
  unfold lN at ih ⊢
  rw[List.find?_cons]
  by_cases h:k=e.key
  ·rw[if_pos h,decide_eq_true h.symm];rfl
  ·rw[if_neg h,decide_eq_false (fun q=>h q.symm)];exact ih
theorem aji (dD c:Int) (x:aY):((((A.cell (.int .i64 dD)).bind fun v=>some [v]).bind fun tE=>(A.splice 0 tE [ah,ah,ah,ah,ah,ah,AV.aq]).bind fun xA=>((A.cell (.int .i64 c)).bind fun v=>some [v]).bind fun xB=>(A.splice 2 xB xA).bind fun I4=>((A.cell (.int .i64 x.delay)).bind fun v=>some [v]).bind fun SS=>(A.splice 3 SS I4).bind fun I5=>((A.cell (.int .i64 x.down)).bind fun v=>some [v]).bind fun SU=>(A.splice 4 SU I5).bind fun I6=>(A.cells 2 (.agg (lJ x.dS))).bind fun D2=>(A.splice 5 D2 I6).bind fun AW=>some AW).bind fun cs=>some (AV.agg cs))=some (.agg (ew ⟨dD,0,c,x.delay,x.down,x.dS⟩)):=rfl
theorem W8 (o:Option (List (aB×ct))):A.Cj (nH (fun x=>AV.agg (aL x)) (fun x=>AV.agg (fc x)) o)=some ((o.getD []).map dG):=by cases o<;>rfl
theorem IF {W:Heap} {aV g ib o:Nat} {rows:List (List AV)} {row row' new:List AV} (h:W[aV]? =some (.arr g 10 rows)) (hr:rows[ib]? =some row) (hs:A.splice o new row=some row'):A.storeAt (.oe aV g ib o) new W=some (W.set aV (.arr g 10 (rows.set ib row'))):=by
 simp only[A.storeAt,h,if_true,hr,Option.bind_some,hs,Option.map_some]
theorem XD {W:Heap} {n:Nat} {B:aK}:∀{τ:Heap} {i:Nat} {ex:Heap} {b:aK},τ[i]? =some b→B≠b→A.vI W n τ (τ.set i B++ex)=(A.CK W n B).map (fun B'=>τ.set i B')
 |[],i,ex,b,h,_=>by cases h
 |a::τ,0,ex,b,h,hn=>by
  injection h with h
  subst h
  rw[List.set_cons_zero,List.cons_append]
  simp only[A.vI,if_neg hn]
  have key:∀τ:Heap,A.vI W n τ (τ++ex)=some τ:=by
   intro τ
   induction τ with
   |nil=>simp [A.vI]
   |cons y τ ih=>simp only[List.cons_append,A.vI,if_true,Option.bind_some,ih,Option.map_some]
  rw[key]
  cases A.CK W n B<;>rfl
 |a::τ,i+1,ex,b,h,hn=>by
  rw[List.set_cons_succ,List.cons_append]
  simp only[A.vI,if_true,Option.bind_some]
  rw[XD (i:=i) (b:=b) h hn]
  cases A.CK W n B<;>rfl
theorem alM {W:Heap} {n:Nat} {l:List (aB×ct)} (h:W[n]? =some (.map (l.map dG))) (d:Nat):A.bw W n (d+1) (.om n)=some (.fm (l.map dG)):=by
 simp only[A.bw,Nat.lt_irrefl,if_false,h]
 rw[MN d (fun p hp=>by obtain⟨q,_,rfl⟩:=List.mem_map.1 hp;exact⟨vE (yV _),vE (YD _)⟩)]
 rfl
theorem XE {W:Heap} {n d:Nat} {row' abh:List AV} (hrow:A.eG W n d row'=some abh):∀{l:List bh} {ib:Nat},A.jm W n d ((l.map aP).set ib row')=some ((l.map aP).set ib abh)
 |[],ib=>by simp [A.jm]
 |b::l,0=>by
  simp only[List.map_cons,List.set_cons_zero,A.jm,hrow,Option.bind_some,ahS l W n d,Option.map_some]
 |b::l,ib+1=>by
  simp only[List.map_cons,List.set_cons_succ,A.jm,Du b W n d,Option.bind_some,XE hrow (l:=l),Option.map_some]
theorem Ql {σ:Heap} {ex:Heap} {aV g ib:Nat} {l:List bh} {b b':bh} {m R:List (aB×ct)} (h2:σ[aV]? =some (.arr g 10 (l.map aP))) (hb:l[ib]? =some b) (hcan:∀b∈l,DR b.runs) (hR:b'.runs=some (AZ R)) (hm:m.Perm R) (hnd:(m.map (·.1)).Nodup) (hex:ex[0]? =some (.map (m.map dG))):
  A.A0 σ (.aF []) ((σ++ex).set aV (.arr g 10 ((l.map aP).set ib [.int .i64 b'.clock.shown,.int .i64 b'.clock.since,.bool b'.clock.lC,.int .i64 b'.number,.int .i64 b'.priority,sl 11 aX b'.bD,.int .i64 b'.bZ,.int .i64 b'.iX,.int .i64 b'.follow,.om σ.length])))=some (.aF [],σ.set aV (.arr g 10 ((l.set ib b').map aP))):=by
 have hl:=(List.getElem?_eq_some_iff.1 h2).1
 have hib:=(List.getElem?_eq_some_iff.1 hb).1
 obtain⟨row,hrow⟩:∃row:List AV,row=[.int .i64 b'.clock.shown,.int .i64 b'.clock.since,.bool b'.clock.lC,.int .i64 b'.number,.int .i64 b'.priority,sl 11 aX b'.bD,.int .i64 b'.bZ,.int .i64 b'.iX,.int .i64 b'.follow,.om σ.length]:=⟨_,rfl⟩
 rw[←hrow]
 rw[List.set_append_left _ _ hl]
 obtain⟨W,hW⟩:∃W,W=σ.set aV (.arr g 10 ((l.map aP).set ib row))++ex:=⟨_,rfl⟩
 have hWn:W[σ.length]? =some (.map (m.map dG)):=by
  rw[hW,List.getElem?_append_right (by simp),List.length_set,Nat.sub_self];exact hex
 have hne:aK.arr g 10 ((l.map aP).set ib row)≠.arr g 10 (l.map aP):=by
  intro q
  injection q with _ _ q
  have q2:((l.map aP).set ib row)[ib]? =(l.map aP)[ib]? :=by rw[q]
  rw[List.getElem?_set_self (by simpa using hib),List.getElem?_map,hb,Option.map_some]at q2
  injection q2 with q2
  rw[hrow]at q2
  unfold aP at q2
  simp only[List.cons.injEq,and_true]at q2
  have:=q2.2.2.2.2.2.2.2.2.2
  revert this
  cases b.runs<;>intro this<;>cases this
 have hfr:A.eG W σ.length 8 row=some [.int .i64 b'.clock.shown,.int .i64 b'.clock.since,.bool b'.clock.lC,.int .i64 b'.number,.int .i64 b'.priority,sl 11 aX b'.bD,.int .i64 b'.bZ,.int .i64 b'.iX,.int .i64 b'.follow,.fm (m.map dG)]:=by
  rw[hrow]
  simp only[A.eG,dM _ _ W σ.length 8,B5 _ W σ.length 8,pW MP _ W σ.length 8,alM hWn 7,Option.bind_some,Option.map_some]
 have hB:A.CK W σ.length (.arr g 10 ((l.map aP).set ib row))=some (.arr g 10 ((l.set ib b').map aP)):=by
  simp only[A.CK,XE hfr,Option.map_some]
  congr 2
  rw[List.map_set,List.map_set,List.map_map]
  have e1:l.map ((fun x=>x.map A.can)∘aP)=l.map aP:=List.map_congr_left fun b hb=>ahE (hcan b hb)
  rw[e1]
  congr 1
  unfold aP
  rw[hR]
  simp only[List.map_cons,List.map_nil,aab hnd,Xr (hm.map dG),←Yj]
  rfl
 unfold A.A0
 rw[←hW]
 conv=>lhs;arg 1;rw[hW]
 rw[XD h2 hne,←hW,hB]
 simp only[Option.map_some,Option.bind_some]
 have:A.bw W σ.length 8 (.aF [])=some (.aF []):=by simp [A.bw,A.eG]
 rw[this]
 rfl
end
section
set_option maxRecDepth 100000
open HP
theorem amn {ro:Sh} {r:AV→AV→AV→AV→AV→Heap→Option (AV×Heap)} {x y z u p v v':AV} {σ σ':Heap} (e2:A.nn ro v=v') (e:r x y z u p σ=some (v,σ')):A.wrap false [] ro (A.Bh r) [x,y,z,u,p] σ=some (v',σ'):=by
 have:A.Bh r [x,y,z,u,p] σ=some (v,σ'):=e
 simp only[A.wrap,Bool.false_and,cond_false,A.bT,this,Option.map_some,e2]
abbrev zC (c t:Int) (b:bh) (bZ follow:Int) (rv:AV):List AV:=[.int .i64 c,.int .i64 t,.bool false,.int .i64 b.number,.int .i64 b.priority,sl 11 aX b.bD,.int .i64 bZ,.int .i64 b.iX,.int .i64 follow,rv]
theorem Mh {d:bI} {s:bW} {b:bh} {x:aY} {c:Int} {seen:List bk}:∀(l:List (aB×ct)),∀p∈l.filterMap (fun p=>(th d s b x c seen p.1).map (fun r=>(p.1,r))),(lN seen p.1).isSome=false∧p.1∈l.map (·.1):=by
 intro l p hp
 obtain⟨q,hq,h⟩:=List.mem_filterMap.1 hp
 obtain⟨r,hr,rfl⟩:=Option.map_eq_some_iff.1 h
 refine⟨?_,List.mem_map.2 ⟨q,hq,rfl⟩⟩
 unfold th at hr
 split at hr
 ·cases hr
 ·rename_i h
  simp only[not_or]at h
  simpa using h.2.1
theorem QD {d:bI} {s:bW} {b:bh} {x:aY} {c:Int} {seen:List bk}:∀{l:List (aB×ct)},(l.map (·.1)).Nodup→((l.filterMap (fun p=>(th d s b x c seen p.1).map (fun r=>(p.1,r)))).map (·.1)).Nodup
 |[],_=>by simp
 |p::l,h=>by
  rw[List.map_cons,List.nodup_cons]at h
  rw[List.filterMap_cons]
  cases hs:th d s b x c seen p.1 with
  |none=>simp only[Option.map_none];exact QD h.2
  |some r=>
   simp only[Option.map_some,List.map_cons,List.nodup_cons]
   refine⟨fun q=>?_,QD h.2⟩
   obtain⟨z,hz,Ka⟩:=List.mem_map.1 q
   have:=(Mh l z hz).2
   rw[Ka]at this
   exact h.1 this
theorem XX {seen:List bk} {k:aB} (h:(lN seen k).isSome=false):∀e∈seen,e.key≠k:=by
 intro e he q
 unfold lN at h
 rw[Option.isSome_eq_false_iff,Option.isNone_iff_eq_none,List.find?_eq_none]at h
 exact h e he (by simpa using q)
theorem ahc {seen:List bk} (h:mP seen):(seen.map (·.key)).Nodup:=by
 unfold mP at h
 rw[List.nodup_iff_pairwise_ne,List.pairwise_map]
 exact h.imp fun{a b} q e=>by rw[e,B8]at q;cases q
theorem go_nodup {d:bI} {s:bW} {b:bh} {x:aY} {t c:Int} {seen:List bk} (uZ:mP seen) {l:List (aB×ct)} (hl:(l.map (·.1)).Nodup):((seen.map (fun e=>(e.key,vJ d s b x t c e))++l.filterMap (fun p=>(th d s b x c seen p.1).map (fun r=>(p.1,r)))).map (·.1)).Nodup:=by
 rw[List.map_append,List.map_map,List.nodup_append]
 refine⟨ahc uZ,QD hl,fun a ha b' hb' q=>?_⟩
 subst q
 obtain⟨e,he,rfl⟩:=List.mem_map.1 ha
 obtain⟨z,hz,Ka⟩:=List.mem_map.1 hb'
 exact XX (Mh l z hz).1 e he (by rw[Ka];rfl)
theorem aam {d:bI} {s:bW} {σ:Heap} {pd:AV} {ids aV g ib to:Nat} {b:bh} {x:aY} {t:Int} (hd:sG pd d σ) (h1:σ[ids]? =some (.box (bA (.os aV g 10 0 s.az.length) s))) (h2:σ[aV]? =some (.arr g 10 (s.az.map aP))) (hb:s.az[ib]? =some b) (UD:b.bD[to]? =some x) (hs:s.az.length≤aU) (ho:∀b∈s.az,rY b t) (hp:fE BY d.setup.bJ) (ow:fE um b.bD) (uZ:mP (vM b x)) (BA:(vM b x).length≤aU) (hcan:∀b∈s.az,DR b.runs):
  tc [pd,.op ids 0,.int .i64 (ib:Int),.int .i64 (to:Int),.int .i64 t] σ=some (.aF [],σ.set aV (.arr g 10 ((s.az.set ib (kL d s b x to t)).map aP))):=by
 refine amn (gQ _) ?_
 have wg:b∈s.az:=List.mem_of_getElem? hb
 have hxm:x∈b.bD:=List.mem_of_getElem? UD
 have hox:=ow.2 x hxm
 have hxi:aM x.number:=hox.1
 have aoM:x.dr.length≤aU:=(Ws hox).1
 have zI:G3 (.oe aV g ib 0) b σ:=bRd h2 hb
 have hlb:=(List.getElem?_eq_some_iff.1 hb).1
 have hlt:=(List.getElem?_eq_some_iff.1 h2).1
 have hls:=(List.getElem?_eq_some_iff.1 h1).1
 have CZ:=ho b wg
 have A5:=CZ.qq
 have fT:b.bD.length≤aU:=ow.1
 have hto:=(List.getElem?_eq_some_iff.1 UD).1
 have EM:((b.runs.getD []).map (·.1)).Nodup:=by
  cases hr:b.runs with
  |none=>simp
  |some l=>exact(hcan b wg l hr).1
 have EH:∀k,(dw b k (dc b.clock t)).2=true→oM (dw b k (dc b.clock t)).1.jH:=fun k q=>An CZ q
 have rd:∀o ex,A.deref (.oe aV g ib o) (σ++ex)=some ((aP b).drop o):=fun o ex=>by
  obtain⟨q,e1,e2⟩:=zI.f o
  have:q=.oe aV g ib o:=by simp [A.aA]at e1;exact e1.symm
  rw[←this];exact e2 ex
 have Om:∀o,A.deref (.oe aV g ib o) σ=some ((aP b).drop o):=fun o=>by have:=rd o [];rwa[List.append_nil]at this
 unfold Pd
 rw[show A.aN (.op ids 0)=some (.op ids 0)from rfl,bS,show A.aA 0 (.op ids 0)=some (.op ids 0)from rfl,bS,show((A.deref (.op ids 0) σ).bind fun c=>A.aj 0 c)=some (.os aV g 10 0 s.az.length)from by simp only[A.deref,h1];rfl,bS,show A.aW 10 (.os aV g 10 0 s.az.length) (.int .i64 (ib:Int))=some (.oe aV g ib 0)from by
  have:((ib:Int)<(s.az.length:Int)):=by omega
  simp [A.aW,A.idx,this],bS]
 simp only[show A.aN (.oe aV g ib 0)=some (.oe aV g ib 0)from rfl,bS,show ∀o,A.aA o (.oe aV g ib 0)=some (.oe aV g ib o)from fun o=>by simp [A.aA],Om]
 rw[show A.aj 0 ((aP b).drop 5)=some (sl 11 aX b.bD)from rfl,bS,jk UD,bS,oq,bS,show A.ay 0 11 (aX x)=some (.agg (aX x))from rfl,bS,Ix,bS,IE _ _ rfl,bS,show A.ay 0 3 ((aP b).drop 0)=some (.agg (vB b.clock))from rfl,bS,Nl,bS]
 simp only[Om,bS]
 rw[show A.aj 0 ((aP b).drop 5)=some (sl 11 aX b.bD)from rfl,bS,QX,bS,quiet_of (ajU ow hxi σ),bS,iQ,bS,ext1,bS,show(yQ b.bD x.number).1=vM b x from rfl,gf,bS]
 rw[show(σ++[aK.map []])++[aK.map []]=pE σ [] []from by rw[List.append_assoc];rfl,show(σ++[aK.map []]).length=σ.length+1 from by simp]
 refine(congrArg (fun z=>Option.bind z _) (go_loop1 hd h1 h2 wg zI hs ho hp aoM BA uZ)).trans ?_
 rw[bS]
 simp only[nG,rd,bS]
 rw[show A.aj 0 ((aP b).drop 9)=some (nH (fun x=>AV.agg (aL x)) (fun x=>AV.agg (fc x)) b.runs)from Lu b (σ:=[]),bS,W8,bS]
 obtain⟨seen,Sp⟩:∃seen,seen=vM b x:=⟨_,rfl⟩
 obtain⟨c,hc⟩:∃c,c=dc b.clock t:=⟨_,rfl⟩
 have C3:za d s b x t=seen.map (fun e=>(e.key,vJ d s b x t c e))++(b.runs.getD []).filterMap (fun p=>(th d s b x c seen p.1).map (fun r=>(p.1,r))):=by rw[Sp,hc];rfl
 rw[←Sp]at uZ BA
 rw[←hc]at A5 EH
 rw[←Sp,←hc]
 obtain⟨es,yf⟩:∃es,es=b.runs.getD []:=⟨_,rfl⟩
 rw[←yf]at EM C3
 rw[←yf]
 obtain⟨m1,hm1⟩:∃m1,m1=seen.map (fun e=>(e.key,vJ d s b x t c e)):=⟨_,rfl⟩
 obtain⟨m2,hm2⟩:∃m2,m2=seen.map (fun e=>(e.key,true)):=⟨_,rfl⟩
 rw[←hm1]at C3
 rw[←hm1,←hm2]
 have hWl:(pE σ m1 m2).length=σ.length+2:=by simp
 rw[hWl,show pE σ m1 m2++[aK.it [] (es.map dG)]=sO σ m1 m2 [] (es.map dG)from by rw[List.append_assoc];rfl]
 obtain⟨st,hst⟩:∃st,st=fun p:aB×ct=>(th d s b x c seen p.1).map (fun r=>(p.1,r)):=⟨_,rfl⟩
 rw[←hst]at C3
 refine QA (α:=aB×ct) (enc:=dG) (it:=σ.length+2) (es:=es) _ _ (fun _ _ _=>rfl) (fun dn lf w W=>w=[.lbx (aX x)]∧∃cu,W=sO σ (m1++dn.filterMap st) m2 cu (lf.map dG)) ?_ ?_ ?_ ?_
 ·rintro dn lf w W ⟨rfl,cu,rfl⟩
  exact⟨cu,aan _ _ _ _ _⟩
 ·rintro dn lf w W j p AD ⟨rfl,cu,rfl⟩ hj
  rw[akt]
  have hpk:∀q∈m1++dn.filterMap st,st p≠none→q.1≠p.1:=by
   intro q hq hsp e
   have hpn:(lN seen p.1).isSome=false:=by
    have:p.1∈[p].map (·.1):=by simp
    obtain⟨r,hr⟩:=Option.ne_none_iff_exists'.1 hsp
    rw[hst]at hr
    have:=(Mh (d:=d) (s:=s) (b:=b) (x:=x) (c:=c) (seen:=seen) [p] r (List.mem_filterMap.2 ⟨p,by simp,hr⟩)).1
    obtain⟨r',_,hr'⟩:=Option.map_eq_some_iff.1 hr
    rw[←hr']at this
    exact this
   rcases List.mem_append.1 hq with hq|hq
   ·rw[hm1]at hq
    obtain⟨e',he',rfl⟩:=List.mem_map.1 hq
    exact XX hpn e' he' e
   ·rw[hst]at hq
    have hk:=(Mh dn q hq).2
    rw[e]at hk
    have hnd:((dn++lf).map (·.1)).Nodup:=(AD.map (·.1)).nodup_iff.2 EM
    rw[List.map_append,List.nodup_append]at hnd
    exact hnd.2.2 p.1 hk p.1 (List.mem_map.2 ⟨p,List.mem_of_getElem? hj,rfl⟩) rfl
  obtain⟨W,hW⟩:∃W,W=sO σ (m1++dn.filterMap st) m2 [dG p] ((lf.eraseIdx j).map dG):=⟨_,rfl⟩
  rw[←hW]
  have Jj:A.vD (.op (σ.length+2) 0) W=some (.aF [.agg (aL p.1),.agg (fc p.2)]):=by
   rw[hW];simp only[A.vD,aan];rfl
  refine⟨[.lbx (aX x)],sO σ (m1++(dn++[p]).filterMap st) m2 [dG p] ((lf.eraseIdx j).map dG),fun K=>?_,rfl,_,rfl⟩
  rw[Jj,bS,iQ,bS,wS,bS,MZ _ _ rfl,bS,nP,bS]
  have Td:∀k,qA [.oe aV g ib 0,.agg (aL k),.int .i64 c] W=some (.aF [.agg (fc (dw b k c).1),.bool (dw b k c).2],W):=fun k=>by rw[hW];exact Q9 zI k c _
  rw[Td,bS]
  simp only[iQ,ext1,bS,yN,B0 _ _ (show nB.length=9 from rfl),sy]
  obtain⟨Hl,pm,g1,g2⟩:=hd.f10
  have g3:((A.deref Hl W).bind fun c=>A.aj 0 c)=some pm:=by rw[hW];exact(g2 _).1
  have g4:A.look (.s [0,2]) pm (.agg (aL p.1)) (.agg Cv) W=some (.agg (jv d p.1)):=by rw[hW];exact(g2 _).2 p.1
  have g5:A.look (.s [0,2]) (.om (σ.length+1)) (.agg (aL p.1)) (.bool false) W=some (.bool (lN seen p.1).isSome):=by rw[hW,alO,hm2,ajQ]
  have skip:st p=none→K (.normal,[.lbx (aX x)],W)=K (.normal,[.lbx (aX x)],sO σ (m1++(dn++[p]).filterMap st) m2 [dG p] ((lf.eraseIdx j).map dG)):=by
   intro h
   rw[hW,List.filterMap_append,List.filterMap_cons,h,List.filterMap_nil,List.append_nil]
  by_cases me:(dw b p.1 c).2=true
  case neg=>
   have D9:(dw b p.1 c).2=false:=by simpa using me
   rw[D9]
   simp only[Bool.not_false,vZ,gU,bS,lq,cT,List.getD_cons_zero]
   exact skip (by rw[hst];simp only[th,D9,true_or,if_true,Option.map_none])
  rw[me]
  simp only[Bool.not_true,gF,bS,nh,g5,nP]
  by_cases UC:(lN seen p.1).isSome=true
  ·rw[UC]
   simp only[vZ,gU,bS,lq,cT,List.getD_cons_zero]
   exact skip (by rw[hst];simp only[th,UC,true_or,or_true,if_true,Option.map_none])
  have abQ:(lN seen p.1).isSome=false:=by simpa using UC
  rw[abQ]
  simp only[gF,bS,nh,hd.nc,g1,g3,g4,nP,DE,Au,fI]
  by_cases wj:(dZ d p.1).1=1
  case neg=>
   rw[decide_eq_true wj]
   simp only[cT,List.getD_cons_zero]
   exact skip (by rw[hst];simp only[th,wj,not_false_eq_true,or_true,if_true,Option.map_none])
  rw[decide_eq_false (fun q=>q wj)]
  simp only[cF,LR,bS,sy]
  have hfo:=EH p.1 me
  have Gy:¬((dw b p.1 c).2=false∨(lN seen p.1).isSome=true∨¬(dZ d p.1).1=1):=by
   rw[me,abQ,wj];simp
  have last:∀r:ct,st p=some (p.1,r)→((A.eA (.s [0,2]) (.om σ.length) (.agg (aL p.1)) (.agg (fc r)) W).bind fun S9=>K (.normal,[.lbx (aX x)],S9))=K (.normal,[.lbx (aX x)],sO σ (m1++(dn++[p]).filterMap st) m2 [dG p] ((lf.eraseIdx j).map dG)):=by
   intro r hr
   rw[hW,alP,bS,IQ (fun q hq=>hpk q hq (by rw[hr];simp)),List.filterMap_append,List.filterMap_cons,hr,List.filterMap_nil,List.append_assoc]
  cases JS:(dw b p.1 c).1.ending
  case true=>
   simp only[Bool.not_true,cF,bS,List.getD_cons_zero,List.getD_cons_succ,ij,nP,vw]
   exact last _ (by rw[hst];simp only[th,if_neg Gy,JS,if_true,Option.map_some])
  case false=>
   simp only[Bool.not_false,cT,bS,vw,quiet_of (IA hfo A5 W),List.getD_cons_zero,List.getD_cons_succ,ij,Ma,QY,Lm]
   rw[aji,bS,Ac,bS,It _ _ rfl,bS,BZ,bS,quiet_of (Sf _ W),bS]
   rw[show A.aA 1 (.op ids 0)=some (.op ids 1)from rfl,bS,show((A.deref (.op ids 1) W).bind fun I7=>A.aj 0 I7)=some (.int .i64 s.number)from by
    rw[hW];simp only[A.deref,List.getElem?_append_left hls,h1];rfl,bS,RE,bS,yN,bS,B0 _ _ rfl,bS,bS]
   simp only[List.getD_cons_zero,List.getD_cons_succ,ij,bS,nP,vw]
   exact last _ (by rw[hst];simp only[th,if_neg Gy,JS,Option.map_some];rfl)
 ·rintro dn w W AD ⟨rfl,cu,rfl⟩
  simp only[nG]
  obtain⟨m,hm⟩:∃m,m=m1++dn.filterMap st:=⟨_,rfl⟩
  rw[←hm]
  obtain⟨ex,hex⟩:∃ex:Heap,ex=[.map (m.map dG),.map (m2.map CJ),.it cu (([]:List (aB×ct)).map dG)]:=⟨_,rfl⟩
  rw[show sO σ m m2 cu (([]:List (aB×ct)).map dG)=σ++ex from by rw[hex]]
  have hmp:m.Perm (za d s b x t):=by
   rw[C3,hm]
   exact(AD.filterMap st).append_left m1
  have hnd:(m.map (·.1)).Nodup:=by
   rw[hm,hm1,hst]
   exact go_nodup uZ ((AD.map (·.1)).nodup_iff.2 EM)
  rw[show((((A.cell (AV.int .i64 c)).bind fun v=>some [v]).bind fun D3=>(A.splice 0 D3 [ah,ah,aI]).bind fun D4=>((A.cell (AV.int .i64 t)).bind fun v=>some [v]).bind fun D5=>(A.splice 1 D5 D4).bind fun I8=>((A.cell aI).bind fun v=>some [v]).bind fun I9=>(A.splice 2 I9 I8).bind fun Ja=>some Ja).bind fun cs=>some (AV.agg cs))=some (.agg [.int .i64 c,.int .i64 t,.bool false])from rfl,bS]
  try simp only[show A.aN (.oe aV g ib 0)=some (.oe aV g ib 0)from rfl,bS,show ∀o,A.aA o (.oe aV g ib 0)=some (.oe aV g ib o)from fun o=>by simp [A.aA]]
  rw[show A.cells 3 (.agg [.int .i64 c,.int .i64 t,.bool false])=some [.int .i64 c,.int .i64 t,.bool false]from rfl,bS]
  have N6:(σ++ex)[aV]? =some (.arr g 10 (s.az.map aP)):=by rw[List.getElem?_append_left hlt];exact h2
  have Ux:(s.az.map aP)[ib]? =some (aP b):=by rw[List.getElem?_map,hb];rfl
  have hlm:ib<(s.az.map aP).length:=by simpa using hlb
  have N8:aV<(σ++ex).length:=by simp;omega
  have chain:∀(o:Nat) (row row' new:List AV),A.splice o new row=some row'→A.storeAt (.oe aV g ib o) new ((σ++ex).set aV (.arr g 10 ((s.az.map aP).set ib row)))=some ((σ++ex).set aV (.arr g 10 ((s.az.map aP).set ib row'))):=by
   intro o row row' new hsp
   rw[IF (W:=(σ++ex).set aV (.arr g 10 ((s.az.map aP).set ib row))) (rows:=(s.az.map aP).set ib row) (List.getElem?_set_self N8) (List.getElem?_set_self hlm) hsp,List.set_set,List.set_set]
  obtain⟨rv,Uy⟩:∃rv,rv=nH (fun x=>AV.agg (aL x)) (fun x=>AV.agg (fc x)) b.runs:=⟨_,rfl⟩
  rw[IF (row':=[.int .i64 c,.int .i64 t,.bool false,.int .i64 b.number,.int .i64 b.priority,sl 11 aX b.bD,.int .i64 b.bZ,.int .i64 b.iX,.int .i64 b.follow,rv]) N6 Ux (by rw[Uy];rfl),bS]
  rw[pV,bS,chain 6 _ (zC c t b to b.follow rv) _ rfl,bS]
  rw[show((A.cell (AV.om σ.length)).bind fun v=>some [v])=some [.om σ.length]from rfl,bS,chain 9 _ (zC c t b to b.follow (.om σ.length)) _ rfl,bS]
  rw[pV,bS,chain 8 _ (zC c t b to (-1) (.om σ.length)) _ rfl,bS]
  simp only[List.getD_cons_zero,ij,bS,XT,su]
  have fin:=fun(fo:Int) (hfo:(kL d s b x to t).follow=fo)=>Ql (σ:=σ) (ex:=ex) (b':=kL d s b x to t) (m:=m) (R:=za d s b x t) h2 hb hcan rfl hmp hnd (by rw[hex];rfl)
  have hrow:[AV.int .i64 (kL d s b x to t).clock.shown,.int .i64 (kL d s b x to t).clock.since,.bool (kL d s b x to t).clock.lC,.int .i64 (kL d s b x to t).number,.int .i64 (kL d s b x to t).priority,sl 11 aX (kL d s b x to t).bD,.int .i64 (kL d s b x to t).bZ,.int .i64 (kL d s b x to t).iX,.int .i64 (kL d s b x to t).follow,.om σ.length]=zC c t b to (kL d s b x to t).follow (.om σ.length):=by rw[hc];rfl
  have fin:=Ql (σ:=σ) (ex:=ex) (b':=kL d s b x to t) (m:=m) (R:=za d s b x t) h2 hb hcan rfl hmp hnd (by rw[hex];rfl)
  rw[hrow]at fin
  have CO:(kL d s b x to t).follow=if 0≤x.follow∧(to:Int)+1<(b.bD.length:Int)then IntKind.i64.wrap (c+x.follow)else -1:=by rw[hc];rfl
  by_cases C2:0≤x.follow
  ·rw[decide_eq_true C2]
   simp only[gT,bS,show A.aN (.oe aV g ib 0)=some (.oe aV g ib 0)from rfl,show ∀o,A.aA o (.oe aV g ib 0)=some (.oe aV g ib o)from fun o=>by simp [A.aA]]
   rw[GC (by unfold aU at fT;omega),bS]
   rw[show((A.deref (.oe aV g ib 5) ((σ++ex).set aV (.arr g 10 ((s.az.map aP).set ib (zC c t b to (-1) (.om σ.length)))))).bind fun S3=>A.aj 0 S3)=some (sl 11 aX b.bD)from by
    simp only[A.deref,List.getElem?_set_self N8,if_true,List.getElem?_set_self hlm,Option.map_some];rfl,bS,gf,bS,kV,bS,lq,bS]
   by_cases uW:(to:Int)+1<(b.bD.length:Int)
   ·rw[decide_eq_true (by omega),cA]
    rw[if_pos ⟨C2,uW⟩]at CO
    rw[CO]at fin
    rw[kU,bS,pV,bS,chain 8 _ (zC c t b to (IntKind.i64.wrap (c+x.follow)) (.om σ.length)) _ rfl,bS,bS]
    exact fin
   ·rw[decide_eq_false (by omega),cz,bS]
    rw[if_neg (fun q=>uW q.2)]at CO
    rw[CO]at fin
    exact fin
  ·rw[decide_eq_false C2]
   simp only[we,gU,bS,nh,cF]
   rw[if_neg (fun q=>C2 q.1)]at CO
   rw[CO]at fin
   exact fin
 ·refine⟨rfl,[],?_⟩
  rw[List.filterMap_nil,List.append_nil]
end
section
set_option maxRecDepth 100000
open HP
noncomputable def zb (d:bI) (s:bW) (b:bh) (c lv:Int) (k:aB):Option ct:=
 if(dw b k c).2=false∨¬(dZ d k).1=1 then none
 else some ⟨sx ⟨sS (dw b k c).1 c,0,c,0,lv,⟨1,[]⟩⟩,s.number,true⟩
noncomputable def ID (d:bI) (s:bW) (b:bh) (a:fC):List (aB×ct):=
 (b.runs.getD []).filterMap (fun p=>(zb d s b (dc b.clock a.time) a.level p.1).map (fun r=>(p.1,r)))
noncomputable def tG (d:bI) (s:bW) (b:bh) (a:fC):bh:=
 {b with clock:=⟨dc b.clock a.time,a.time,false⟩,bZ:=-1,follow:=-1,runs:=some (AZ (ID d s b a))}
abbrev vT (σ:Heap) (m:List (aB×ct)) (c l:List (AV×AV)):Heap:=σ++[.map (m.map dG),.it c l]
theorem ZT (σ:Heap) (m:List (aB×ct)) (c l:List (AV×AV)):(vT σ m c l)[σ.length+1]? =some (.it c l):=by
 rw[List.getElem?_append_right (by omega),show σ.length+1-σ.length=1 by omega];rfl
theorem ajz (σ:Heap) (m:List (aB×ct)) (c l c' l':List (AV×AV)):(vT σ m c l).set (σ.length+1) (.it c' l')=vT σ m c' l':=by
 rw[List.set_append_right _ _ (by omega),show σ.length+1-σ.length=1 by omega];rfl
theorem ama (σ:Heap) (m:List (aB×ct)) (c l:List (AV×AV)) (k:aB) (r:ct):A.eA (.s [0,2]) (.om σ.length) (.agg (aL k)) (.agg (fc r)) (vT σ m c l)=some (vT σ (dz k r m) c l):=by
 rw[Ai _ rfl (show(vT σ m c l)[σ.length]? =some (.map (m.map dG)) by rw[List.getElem?_append_right (Nat.le_refl _),Nat.sub_self];rfl),show A.upd (.s [0,2]) (.agg (aL k)) (.agg (fc r)) (m.map dG)=some ((dz k r m).map dG)from DP (eK:=fun k=>AV.agg (aL k)) (eV:=fun r=>AV.agg (fc r)) pM k r m,Option.map_some,List.set_append_right _ _ (Nat.le_refl _),Nat.sub_self]
 rfl
theorem YY {d:bI} {s:bW} {b:bh} {c lv:Int}:∀(l:List (aB×ct)),∀p∈l.filterMap (fun p=>(zb d s b c lv p.1).map (fun r=>(p.1,r))),p.1∈l.map (·.1):=by
 intro l p hp
 obtain⟨q,hq,h⟩:=List.mem_filterMap.1 hp
 obtain⟨r,hr,rfl⟩:=Option.map_eq_some_iff.1 h
 exact List.mem_map.2 ⟨q,hq,rfl⟩
theorem Mf {d:bI} {s:bW} {b:bh} {c lv:Int}:∀{l:List (aB×ct)},(l.map (·.1)).Nodup→((l.filterMap (fun p=>(zb d s b c lv p.1).map (fun r=>(p.1,r)))).map (·.1)).Nodup
 |[],_=>by simp
 |p::l,h=>by
  rw[List.map_cons,List.nodup_cons]at h
  rw[List.filterMap_cons]
  cases hs:zb d s b c lv p.1 with
  |none=>simp only[Option.map_none];exact Mf h.2
  |some r=>
   simp only[Option.map_some,List.map_cons,List.nodup_cons]
   refine⟨fun q=>?_,Mf h.2⟩
   obtain⟨z,hz,Ka⟩:=List.mem_map.1 q
   have:=YY l z hz
   rw[Ka]at this
   exact h.1 this
theorem ajh (dD c lv:Int):((((A.cell (.int .i64 dD)).bind fun v=>some [v]).bind fun oa=>(A.splice 0 oa [ah,ah,ah,ah,ah,ah,AV.aq]).bind fun sJ=>((A.cell (.int .i64 c)).bind fun v=>some [v]).bind fun Bi=>(A.splice 2 Bi sJ).bind fun oc=>((A.cell (.int .i64 lv)).bind fun v=>some [v]).bind fun rz=>(A.splice 4 rz oc).bind fun gM=>(A.cells 2 (.agg [.int .i64 1,.aq])).bind fun mU=>(A.splice 5 mU gM).bind fun iA=>some iA).bind fun cs=>some (AV.agg cs))=some (.agg [.int .i64 dD,.int .i64 0,.int .i64 c,.int .i64 0,.int .i64 lv,.int .i64 1,.aq]):=rfl
theorem aj9 (dD c lv:Int) (σ:Heap):vr [.agg [.int .i64 dD,.int .i64 0,.int .i64 c,.int .i64 0,.int .i64 lv,.int .i64 1,.aq]] σ=some (.agg (ew (sx ⟨dD,0,c,0,lv,⟨1,[]⟩⟩)),σ):=by
 have h:=Sf ⟨dD,0,c,0,lv,⟨1,[]⟩⟩ σ
 rw[←h]
 exact M3 rfl rfl rfl
theorem aiq {d:bI} {s:bW} {σ:Heap} {pd:AV} {ids aV g ib:Nat} {b:bh} {a:fC} (hd:sG pd d σ) (h1:σ[ids]? =some (.box (bA (.os aV g 10 0 s.az.length) s))) (h2:σ[aV]? =some (.arr g 10 (s.az.map aP))) (hb:s.az[ib]? =some b) (CZ:rY b a.time) (hcan:∀b∈s.az,DR b.runs):
  HB [pd,.op ids 0,.oe aV g ib 0,.agg (bG a)] σ=some (.aF [],σ.set aV (.arr g 10 ((s.az.set ib (tG d s b a)).map aP))):=by
 have amm:∀{r:AV→AV→AV→AV→Heap→Option (AV×Heap)} {x y z u:AV} {σ σ':Heap},r x y z u σ=some (.aF [],σ')→A.wrap false [] .k (A.vV r) [x,y,z,u] σ=some (.aF [],σ'):=by
  intro r x y z u σ σ' e
  have:A.vV r [x,y,z,u] σ=some (.aF [],σ'):=e
  simp only[A.wrap,Bool.false_and,cond_false,A.bT,this,Option.map_some,gQ]
 refine amm ?_
 have wg:b∈s.az:=List.mem_of_getElem? hb
 have zI:G3 (.oe aV g ib 0) b σ:=bRd h2 hb
 have hlb:=(List.getElem?_eq_some_iff.1 hb).1
 have hlt:=(List.getElem?_eq_some_iff.1 h2).1
 have hls:=(List.getElem?_eq_some_iff.1 h1).1
 have A5:=CZ.qq
 have EM:((b.runs.getD []).map (·.1)).Nodup:=by
  cases hr:b.runs with
  |none=>simp
  |some l=>exact(hcan b wg l hr).1
 have EH:∀k,(dw b k (dc b.clock a.time)).2=true→oM (dw b k (dc b.clock a.time)).1.jH:=fun k q=>An CZ q
 have rd:∀o ex,A.deref (.oe aV g ib o) (σ++ex)=some ((aP b).drop o):=fun o ex=>by
  obtain⟨q,e1,e2⟩:=zI.f o
  have:q=.oe aV g ib o:=by simp [A.aA]at e1;exact e1.symm
  rw[←this];exact e2 ex
 have Om:∀o,A.deref (.oe aV g ib o) σ=some ((aP b).drop o):=fun o=>by have:=rd o [];rwa[List.append_nil]at this
 unfold OR
 rw[show A.cells 5 (.agg (bG a))=some (bG a)from rfl,bS]
 simp only[show A.aN (.oe aV g ib 0)=some (.oe aV g ib 0)from rfl,bS,show ∀o,A.aA o (.oe aV g ib 0)=some (.oe aV g ib o)from fun o=>by simp [A.aA],Om,rd]
 rw[show A.ay 0 3 ((aP b).drop 0)=some (.agg (vB b.clock))from rfl,bS,show A.aj 0 (bG a)=some (.int .i64 a.time)from rfl,bS,quiet_of (Nl _ _ σ),bS]
 rw[show A.aj 0 ((aP b).drop 9)=some (nH (fun x=>AV.agg (aL x)) (fun x=>AV.agg (fc x)) b.runs)from Lu b (σ:=[]),bS,W8,bS]
 obtain⟨c,hc⟩:∃c,c=dc b.clock a.time:=⟨_,rfl⟩
 have C3:ID d s b a=(b.runs.getD []).filterMap (fun p=>(zb d s b c a.level p.1).map (fun r=>(p.1,r))):=by rw[hc];rfl
 rw[←hc]at A5 EH
 rw[←hc]
 obtain⟨es,yf⟩:∃es,es=b.runs.getD []:=⟨_,rfl⟩
 rw[←yf]at EM C3
 rw[←yf]
 rw[show(σ++[aK.map []]).length=σ.length+1 from by simp,show(σ++[aK.map []])++[aK.it [] (es.map dG)]=vT σ [] [] (es.map dG)from by rw[List.append_assoc];rfl]
 obtain⟨st,hst⟩:∃st,st=fun p:aB×ct=>(zb d s b c a.level p.1).map (fun r=>(p.1,r)):=⟨_,rfl⟩
 rw[←hst]at C3
 refine QA (α:=aB×ct) (enc:=dG) (it:=σ.length+1) (es:=es) _ _ (fun _ _ _=>rfl) (fun dn lf w W=>w=[.lbx (bG a)]∧∃cu,W=vT σ (dn.filterMap st) cu (lf.map dG)) ?_ ?_ ?_ ?_
 ·rintro dn lf w W ⟨rfl,cu,rfl⟩
  exact⟨cu,ZT _ _ _ _⟩
 ·rintro dn lf w W j p AD ⟨rfl,cu,rfl⟩ hj
  rw[ajz]
  have hpk:∀q∈dn.filterMap st,q.1≠p.1:=by
   intro q hq e
   rw[hst]at hq
   have hk:=YY dn q hq
   rw[e]at hk
   have hnd:((dn++lf).map (·.1)).Nodup:=(AD.map (·.1)).nodup_iff.2 EM
   rw[List.map_append,List.nodup_append]at hnd
   exact hnd.2.2 p.1 hk p.1 (List.mem_map.2 ⟨p,List.mem_of_getElem? hj,rfl⟩) rfl
  obtain⟨W,hW⟩:∃W,W=vT σ (dn.filterMap st) [dG p] ((lf.eraseIdx j).map dG):=⟨_,rfl⟩
  rw[←hW]
  have Jj:A.vD (.op (σ.length+1) 0) W=some (.aF [.agg (aL p.1),.agg (fc p.2)]):=by
   rw[hW];simp only[A.vD,ZT];rfl
  refine⟨[.lbx (bG a)],vT σ ((dn++[p]).filterMap st) [dG p] ((lf.eraseIdx j).map dG),fun K=>?_,rfl,_,rfl⟩
  rw[Jj,bS,iQ,bS,wS,bS,MZ _ _ rfl,bS,nP,bS]
  have Td:∀k,qA [.oe aV g ib 0,.agg (aL k),.int .i64 c] W=some (.aF [.agg (fc (dw b k c).1),.bool (dw b k c).2],W):=fun k=>by rw[hW];exact Q9 zI k c _
  rw[Td,bS]
  simp only[iQ,ext1,bS,yN,B0 _ _ (show nB.length=9 from rfl),sy]
  obtain⟨Hl,pm,g1,g2⟩:=hd.f10
  have g3:((A.deref Hl W).bind fun c=>A.aj 0 c)=some pm:=by rw[hW];exact(g2 _).1
  have g4:A.look (.s [0,2]) pm (.agg (aL p.1)) (.agg Cv) W=some (.agg (jv d p.1)):=by rw[hW];exact(g2 _).2 p.1
  have skip:st p=none→K (.normal,[.lbx (bG a)],W)=K (.normal,[.lbx (bG a)],vT σ ((dn++[p]).filterMap st) [dG p] ((lf.eraseIdx j).map dG)):=by
   intro h
   rw[hW,List.filterMap_append,List.filterMap_cons,h,List.filterMap_nil,List.append_nil]
  by_cases me:(dw b p.1 c).2=true
  case neg=>
   have D9:(dw b p.1 c).2=false:=by simpa using me
   rw[D9]
   simp only[Bool.not_false,vZ,gU,bS,lq,cT,List.getD_cons_zero]
   exact skip (by rw[hst];simp only[zb,D9,true_or,if_true,Option.map_none])
  rw[me]
  simp only[Bool.not_true,gF,bS,nh,hd.nc,g1,g3,g4,nP,DE,Au,fI]
  by_cases wj:(dZ d p.1).1=1
  case neg=>
   rw[decide_eq_true wj]
   simp only[cT,List.getD_cons_zero]
   exact skip (by rw[hst];simp only[zb,wj,not_false_eq_true,or_true,if_true,Option.map_none])
  rw[decide_eq_false (fun q=>q wj)]
  simp only[cF,bS,vw,quiet_of (IA (EH p.1 me) A5 W),List.getD_cons_zero,ij,show A.aj 4 (bG a)=some (.int .i64 a.level)from rfl]
  have Gy:¬((dw b p.1 c).2=false∨¬(dZ d p.1).1=1):=by
   rw[me,wj];simp
  rw[show((((A.cell aH).bind fun v=>some [v]).bind fun iz=>(A.splice 0 iz [ah,AV.aq]).bind fun mT=>some mT).bind fun cs=>some (AV.agg cs))=some (.agg [.int .i64 1,.aq])from rfl,bS,ajh,bS,quiet_of (aj9 _ _ _ W),bS]
  rw[show A.aN (.op ids 0)=some (.op ids 0)from rfl,bS,show A.aA 1 (.op ids 0)=some (.op ids 1)from rfl,bS,show((A.deref (.op ids 1) W).bind fun I7=>A.aj 0 I7)=some (.int .i64 s.number)from by
    rw[hW];simp only[A.deref,List.getElem?_append_left hls,h1];rfl,bS,RE,bS]
  have hr:st p=some (p.1,⟨sx ⟨sS (dw b p.1 c).1 c,0,c,0,a.level,⟨1,[]⟩⟩,s.number,true⟩):=by rw[hst];simp only[zb,if_neg Gy,Option.map_some]
  rw[hW,ama,bS,IQ hpk,List.filterMap_append,List.filterMap_cons,hr,List.filterMap_nil]
 ·rintro dn w W AD ⟨rfl,cu,rfl⟩
  simp only[nG]
  obtain⟨m,hm⟩:∃m,m=dn.filterMap st:=⟨_,rfl⟩
  rw[←hm]
  obtain⟨ex,hex⟩:∃ex:Heap,ex=[.map (m.map dG),.it cu (([]:List (aB×ct)).map dG)]:=⟨_,rfl⟩
  rw[show vT σ m cu (([]:List (aB×ct)).map dG)=σ++ex from by rw[hex]]
  have hmp:m.Perm (ID d s b a):=by
   rw[C3,hm]
   exact AD.filterMap st
  have hnd:(m.map (·.1)).Nodup:=by
   rw[hm,hst]
   exact Mf ((AD.map (·.1)).nodup_iff.2 EM)
  simp only[List.getD_cons_zero,ij,bS,show A.aj 0 (bG a)=some (.int .i64 a.time)from rfl]
  rw[show((((A.cell (AV.int .i64 c)).bind fun v=>some [v]).bind fun D3=>(A.splice 0 D3 [ah,ah,aI]).bind fun D4=>((A.cell (AV.int .i64 a.time)).bind fun v=>some [v]).bind fun D5=>(A.splice 1 D5 D4).bind fun I8=>((A.cell aI).bind fun v=>some [v]).bind fun I9=>(A.splice 2 I9 I8).bind fun Ja=>some Ja).bind fun cs=>some (AV.agg cs))=some (.agg [.int .i64 c,.int .i64 a.time,.bool false])from rfl,bS]
  rw[show A.cells 3 (.agg [.int .i64 c,.int .i64 a.time,.bool false])=some [.int .i64 c,.int .i64 a.time,.bool false]from rfl,bS]
  have N6:(σ++ex)[aV]? =some (.arr g 10 (s.az.map aP)):=by rw[List.getElem?_append_left hlt];exact h2
  have Ux:(s.az.map aP)[ib]? =some (aP b):=by rw[List.getElem?_map,hb];rfl
  have hlm:ib<(s.az.map aP).length:=by simpa using hlb
  have N8:aV<(σ++ex).length:=by simp;omega
  have chain:∀(o:Nat) (row row' new:List AV),A.splice o new row=some row'→A.storeAt (.oe aV g ib o) new ((σ++ex).set aV (.arr g 10 ((s.az.map aP).set ib row)))=some ((σ++ex).set aV (.arr g 10 ((s.az.map aP).set ib row'))):=by
   intro o row row' new hsp
   rw[IF (W:=(σ++ex).set aV (.arr g 10 ((s.az.map aP).set ib row))) (rows:=(s.az.map aP).set ib row) (List.getElem?_set_self N8) (List.getElem?_set_self hlm) hsp,List.set_set,List.set_set]
  obtain⟨rv,Uy⟩:∃rv,rv=nH (fun x=>AV.agg (aL x)) (fun x=>AV.agg (fc x)) b.runs:=⟨_,rfl⟩
  rw[IF (row':=[.int .i64 c,.int .i64 a.time,.bool false,.int .i64 b.number,.int .i64 b.priority,sl 11 aX b.bD,.int .i64 b.bZ,.int .i64 b.iX,.int .i64 b.follow,rv]) N6 Ux (by rw[Uy];rfl),bS]
  rw[pV,bS,chain 6 _ (zC c a.time b (-1) b.follow rv) _ rfl,bS]
  rw[bS,chain 8 _ (zC c a.time b (-1) (-1) rv) _ rfl,bS]
  rw[show((A.cell (AV.om σ.length)).bind fun v=>some [v])=some [.om σ.length]from rfl,bS,chain 9 _ (zC c a.time b (-1) (-1) (.om σ.length)) _ rfl,bS]
  have hrow:[AV.int .i64 (tG d s b a).clock.shown,.int .i64 (tG d s b a).clock.since,.bool (tG d s b a).clock.lC,.int .i64 (tG d s b a).number,.int .i64 (tG d s b a).priority,sl 11 aX (tG d s b a).bD,.int .i64 (tG d s b a).bZ,.int .i64 (tG d s b a).iX,.int .i64 (tG d s b a).follow,.om σ.length]=zC c a.time b (-1) (-1) (.om σ.length):=by rw[hc];rfl
  have fin:=Ql (σ:=σ) (ex:=ex) (b':=tG d s b a) (m:=m) (R:=ID d s b a) h2 hb hcan rfl hmp hnd (by rw[hex];rfl)
  rw[hrow]at fin
  exact fin
 ·refine⟨rfl,[],?_⟩
  rw[List.filterMap_nil]
end
section
set_option maxRecDepth 100000
open HP
structure aaQ (x : aY) : Prop where
 d:0≤x.delay∧x.delay≤36000000
 u:0≤x.up∧x.up≤36000000
 n:0≤x.down∧x.down≤36000000
 o:0≤x.other∧x.other≤36000000
 f:-1≤x.follow∧x.follow≤36000000
 c:pP x.dS=0
 m:∀m∈x.dr,(0≤m.delay∧m.delay≤36000000)∧(0≤m.time∧m.time≤36000000)
theorem oU {n lo hi:Int} (h:aQ n lo hi=true):lo≤n∧n≤hi:=by
 unfold aQ at h;simpa using h
theorem Rb {l:List aY} (h:oS l=0) {x:aY} (hx:x∈l):aaQ x:=by
 unfold oS at h
 split at h
 ·cases h
 by_cases h2:iH (uz l) l 0=0
 case neg=>rw[if_pos h2]at h;exact absurd h h2
 obtain⟨i,hi,e⟩:=List.getElem_of_mem hx
 have hc:=(wM l 0).1 h2 i x (by rw[←e];exact List.getElem?_eq_getElem hi)
 unfold uz at hc
 split at hc
 ·cases hc
 split at hc
 ·cases hc
 split at hc
 ·cases hc
 split at hc
 ·cases hc
 rename_i h4
 split at hc
 ·rename_i h5;exact absurd hc h5
 rename_i h5
 split at hc
 ·cases hc
 simp only[Bool.or_eq_true,Bool.not_eq_true',not_or,Bool.not_eq_false]at h4
 obtain⟨⟨⟨⟨a1,a2⟩,a3⟩,a4⟩,a5⟩:=h4
 refine⟨oU a1,oU a2,oU a3,oU a4,oU a5,Decidable.not_not.1 h5,fun m hm=>?_⟩
 obtain⟨j,hj,e⟩:=List.getElem_of_mem hm
 unfold DI at hc
 have nI:=(wM x.dr 0).1 hc j m (by rw[←e];exact List.getElem?_eq_getElem hj)
 unfold GA at nI
 split at nI
 ·cases nI
 split at nI
 ·cases nI
 split at nI
 ·cases nI
 split at nI
 ·cases nI
 split at nI
 ·cases nI
 split at nI
 ·cases nI
 rename_i h6
 simp only[Bool.or_eq_true,Bool.not_eq_true',not_or,Bool.not_eq_false]at h6
 exact⟨oU h6.1,oU h6.2⟩
theorem Rj (b:bh) (x:aY):mP (vM b x)∧(vM b x).length≤600000000:=by
 unfold vM yQ
 split
 ·exact⟨List.Pairwise.nil,by simp⟩
 rename_i hz
 split
 ·exact⟨List.Pairwise.nil,by simp⟩
 have hg:=RA (Decidable.not_not.1 hz)
 have hlen:=hg.len
 exact aeJ (l:=b.bD.take (kZ b.bD x.number+1)) (by simp;omega) (fun c hc=>(hg.mv c (List.mem_of_mem_take hc)).1)
structure uu (N : Int) (b : bh) : Prop where
 rI:fE um b.bD
 dD:oS b.bD=0
 can:DR b.runs
 runs:∀k r,(k,r)∈b.runs.getD []→oM r.jH
 iX:0≤b.iX∧b.iX≤65535
 qq:0≤b.clock.shown∧b.clock.shown≤b.clock.since∧b.clock.since≤N
 bZ:-1≤b.bZ∧b.bZ<(b.bD.length:Int)
 CX:b.follow<0∨(b.bZ+1<(b.bD.length:Int)∧dc b.clock N≤b.follow∧b.follow≤72000000)
structure jq (N : Int) (s : bW) : Prop where
 n:0≤N∧N≤36000000
 len:s.az.length≤40
 bs:∀b∈s.az,uu N b
 mz:0≤s.mz∧s.mz≤65535
structure uv (d : bI) : Prop where
 pre:fE BY d.setup.bJ
 lev:∀k v,0≤(vA d.setup.bJ k v).1∧(vA d.setup.bJ k v).1≤65535
 par:∀k,0≤(dZ d k).2.1∧(dZ d k).2.1≤65535
theorem DF {N t:Int} {b:bh} (h:0≤b.clock.shown∧b.clock.shown≤b.clock.since∧b.clock.since≤N) (h1:N≤t) (h2:t≤36000000):dc b.clock t=(if b.clock.lC=true then b.clock.shown else b.clock.shown+t-b.clock.since)∧0≤dc b.clock t∧dc b.clock t≤t:=by
 obtain⟨a1,a2,a3⟩:=h
 unfold dc
 split
 ·exact⟨rfl,a1,by omega⟩
 ·rw[show IntKind.i64.wrap (b.clock.shown+t)=b.clock.shown+t from wrap64 (by unfold aM;omega),wrap64 (by unfold aM;omega)]
  exact⟨rfl,by omega,by omega⟩
theorem uu.ok {N t:Int} {b:bh} (h:uu N b) (h1:N≤t) (h2:t≤36000000):rY b t:=
 ⟨fun k r hr=>h.runs k r (GF hr),h.iX,(DF h.qq h1 h2).2.1⟩
theorem RX {N:Int} {b:bh} (h:uu N b) (hN:N≤36000000):ia b=if b.follow<0∨b.clock.lC=true then -1 else b.clock.since+b.follow-b.clock.shown:=by
 obtain⟨a1,a2,a3⟩:=h.qq
 unfold ia
 split
 ·rfl
 ·rename_i q
  rcases h.CX with h3|⟨h3,h4,h5⟩
  ·exact absurd (.inl h3) q
  ·have:=(DF h.qq (Int.le_refl N) hN).2
   rw[show IntKind.i64.wrap (b.clock.since+b.follow)=b.clock.since+b.follow from wrap64 (by unfold aM;omega),wrap64 (by unfold aM;omega)]
theorem uu.mono {N N':Int} {b:bh} (h:uu N b) (h1:N≤N') (h2:N'≤36000000) (hd:ia b<0∨N'≤ia b):uu N' b:=by
 obtain⟨a1,a2,a3⟩:=h.qq
 refine⟨h.rI,h.dD,h.can,h.runs,h.iX,⟨a1,a2,by omega⟩,h.bZ,?_⟩
 rcases h.CX with h3|⟨h3,h4,h5⟩
 ·exact .inl h3
 ·by_cases hf:b.follow<0
  ·exact .inl hf
  refine .inr ⟨h3,?_,h5⟩
  have e1:=(DF h.qq (Int.le_refl N) (by omega)).1
  have e2:=(DF (t:=N') h.qq h1 h2).1
  have e3:=RX h (by omega)
  rw[e2]
  rw[e1]at h4
  by_cases hs:b.clock.lC=true
  ·rw[if_pos hs]at h4 ⊢;exact h4
  ·rw[if_neg hs]at h4 ⊢
   rw[if_neg (fun q=>q.elim hf hs)]at e3
   omega
theorem MK {f:gm} (ha:0≤f.dD∧f.dD≤65535) (hb:0≤f.to∧f.to≤65535) (hs:0≤f.start∧f.start≤36000000) (hd:0≤f.delay∧f.delay≤36000000) (ht:0≤f.time∧f.time≤36000000) (hc:pP f.dS=0):oM (sx f):=by
 have e1:mn f.start 36000000=f.start:=by unfold mn;rw[if_neg (by omega)]
 have e2:IntKind.i64.wrap (36000000-f.start)=36000000-f.start:=wrap64 (by unfold aM;omega)
 have e3:0≤mn f.delay (36000000-f.start)∧mn f.delay (36000000-f.start)≤36000000-f.start:=by unfold mn;split<;>omega
 have e4:IntKind.i64.wrap (36000000-f.start-mn f.delay (36000000-f.start))=36000000-f.start-mn f.delay (36000000-f.start):=wrap64 (by unfold aM;omega)
 have e5:0≤mn f.time (36000000-f.start-mn f.delay (36000000-f.start))∧mn f.time (36000000-f.start-mn f.delay (36000000-f.start))≤36000000-f.start-mn f.delay (36000000-f.start):=by unfold mn;split<;>omega
 unfold sx
 rw[e1,e2,e4]
 exact⟨ha,hb,hs,⟨e3.1,by show mn f.delay _≤_;omega⟩,⟨e5.1,by show mn f.time _≤_;omega⟩,by show f.start+mn f.delay _+mn f.time _≤_;omega,hc⟩
theorem ai1 {d:bI} {x:aY} (hx:aaQ x) (k:aB) {dD to c:Int} (ha:0≤dD∧dD≤65535) (hb:0≤to∧to≤65535) (hc:0≤c∧c≤36000000):oM (wW d x k dD to c):=by
 unfold wW
 have h0:0≤(Ao (dZ d k).1 x dD to c).time∧(Ao (dZ d k).1 x dD to c).time≤36000000:=by
  unfold Ao
  simp only
  split
  ·split
   ·exact hx.n
   ·exact hx.u
  ·exact hx.o
 have h1:∃dl tm,Gm x k (Ao (dZ d k).1 x dD to c)=⟨dD,to,c,dl,tm,x.dS⟩∧(0≤dl∧dl≤36000000)∧0≤tm∧tm≤36000000:=by
  unfold Gm
  split
  ·exact⟨_,_,rfl,hx.d,h0⟩
  ·rename_i m hm
   split
   ·have:=hx.m m (List.mem_of_find?_eq_some hm)
    exact⟨_,_,rfl,this.1,this.2⟩
   ·exact⟨_,_,rfl,hx.d,h0⟩
 obtain⟨dl,tm,e,hd,ht⟩:=h1
 rw[e]
 unfold Ce
 split
 ·exact MK ha hb hc hd (by simp) hx.c
 ·exact MK ha hb hc hd ht hx.c
theorem akJ {g:Int} {b:bh} {r:ct} (hr:oM r.jH) (hf:0≤b.iX∧b.iX≤65535) (c:Int):0≤CS g b r c∧CS g b r c≤65535:=by
 unfold CS
 split
 ·exact amf (Gq hr c) hf
 ·exact Gq hr c
theorem aax {d:bI} (hd:uv d) {k:aB} {t:Int}:∀{bs:List bh},(∀b∈bs,rY b t)→0≤(pH d bs k t).out∧(pH d bs k t).out≤65535:=by
 intro bs hb
 unfold pH
 have key:∀(l:List bh) (m:Em),(∀b∈l,rY b t)→(0≤m.out∧m.out≤65535)→0≤(l.foldl (oP (dZ d k).1 k t) m).out∧(l.foldl (oP (dZ d k).1 k t) m).out≤65535:=by
  intro l
  induction l with
  |nil=>intro m _ h;exact h
  |cons b l ih=>
   intro m hl h
   rw[List.foldl_cons]
   refine ih _ (fun b hb=>hl b (by simp [hb])) ?_
   have Hf:=hl b (by simp)
   unfold oP
   split
   ·exact h
   ·rename_i hq
    split
    ·have me:(dw b k (dc b.clock t)).2=true:=by
      cases h:(dw b k (dc b.clock t)).2
      ·exact absurd (.inl h) hq
      ·rfl
     exact akJ (An Hf me) Hf.iX _
    ·exact h
 exact key bs _ hb (hd.par k)
theorem Yk {l:List (aB×ct)} (h:(l.map (·.1)).Nodup):DR (some (AZ l)):=by
 intro l' e
 injection e with e
 subst e
 exact⟨((LZ l).map (·.1)).nodup_iff.2 h,aiN l⟩
theorem WD {N:Int} {b:bh} (h:uu N b):((b.runs.getD []).map (·.1)).Nodup:=by
 cases hr:b.runs with
 |none=>simp
 |some l=>exact(h.can l hr).1
theorem Rz {d:bI} (hd:uv d) {s:bW} {N t:Int} (hs:jq N s) (h1:N≤t) (h2:t≤36000000) {b:bh} (hb:b∈s.az) {to:Nat} {x:aY} (hx:b.bD[to]? =some x):uu t (kL d s b x (to:Int) t):=by
 have hB:=hs.bs b hb
 have hN:=hs.n
 have hto:=(List.getElem?_eq_some_iff.1 hx).1
 have u9:=Rb hB.dD (List.mem_of_getElem? hx)
 obtain⟨c0,c1,c2⟩:=DF hB.qq h1 h2
 have JY:∀b∈s.az,rY b t:=fun b hb=>(hs.bs b hb).ok h1 h2
 have Hf:=JY b hb
 refine⟨hB.rI,hB.dD,Yk (go_nodup (Rj b x).1 (WD hB)),fun k r hkr=>?_,hB.iX,⟨c1,c2,Int.le_refl _⟩,⟨by show -1≤(to:Int);omega,by show(to:Int)<_;exact_mod_cast hto⟩,?_⟩
 ·have hm:(k,r)∈za d s b x t:=(LZ _).mem_iff.1 hkr
  unfold za at hm
  rcases List.mem_append.1 hm with hm|hm
  ·obtain⟨e,he,q⟩:=List.mem_map.1 hm
   injection q with q1 q2
   subst q2
   unfold vJ
   split
   ·rename_i hq;exact An Hf hq.1
   ·refine ai1 u9 _ ?_ (hd.lev _ _) ⟨c1,by omega⟩
    unfold A3
    split
    ·rename_i hq;exact Gq (An Hf hq) _
    ·split
     ·exact aax hd JY
     ·simp
  ·obtain⟨p,hp,q⟩:=List.mem_filterMap.1 hm
   obtain⟨r',hr',q⟩:=Option.map_eq_some_iff.1 q
   injection q with q1 q2
   subst q2
   unfold th at hr'
   split at hr'
   ·cases hr'
   ·rename_i hq
    injection hr' with hr'
    subst hr'
    have me:(dw b p.1 (dc b.clock t)).2=true:=by
     cases h:(dw b p.1 (dc b.clock t)).2
     ·exact absurd (.inl h) hq
     ·rfl
    have hfo:=An Hf me
    split
    ·exact hfo
    ·exact MK (Gq hfo _) (by simp) ⟨c1,by show dc b.clock t≤_;omega⟩ u9.d u9.n u9.c
 ·show(kL d s b x (to:Int) t).follow<0∨_
  by_cases hf:0≤x.follow∧(to:Int)+1<(b.bD.length:Int)
  ·have hxf:=u9.f
   have e:(kL d s b x (to:Int) t).follow=dc b.clock t+x.follow:=by
    show(if 0≤x.follow∧(to:Int)+1<(b.bD.length:Int)then IntKind.i64.wrap (dc b.clock t+x.follow)else -1)=_
    rw[if_pos hf,wrap64 (by unfold aM;omega)]
   refine .inr ⟨hf.2,?_,by rw[e];omega⟩
   rw[e]
   have:dc (kL d s b x (to:Int) t).clock t=dc b.clock t:=by
    show dc ⟨dc b.clock t,t,false⟩ t=_
    generalize dc b.clock t=c at c1 c2
    show IntKind.i64.wrap (IntKind.i64.wrap (c+t) -t)=_
    rw[show IntKind.i64.wrap (c+t)=c+t from wrap64 (by unfold aM;omega),wrap64 (by unfold aM;omega)];omega
   rw[this];omega
  ·refine .inl ?_
   show(if 0≤x.follow∧(to:Int)+1<(b.bD.length:Int)then IntKind.i64.wrap (dc b.clock t+x.follow)else -1)<0
   rw[if_neg hf];decide
def Ah (t:Int) (i:Nat) (b:bh) (st:Int×Int):Int×Int:=if 0≤ia b∧ia b≤t∧(st.1<0∨ia b<st.2)then((i:Int),ia b)else st
def qX (t:Int):List bh→Nat→Int×Int→Int×Int
 |[],_,st=>st
 |b::r,i,st=>qX t r (i+1) (Ah t i b st)
def IS (t:Int) (pre:List bh) (st:Int×Int):Prop:=(st.1<0∧∀b∈pre,¬(0≤ia b∧ia b≤t))∨∃(j:Nat) (b:bh),pre[j]? =some b∧st=((j:Int),ia b)∧0≤ia b∧ia b≤t∧∀b'∈pre,0≤ia b'→ia b'≤t→ia b≤ia b'
theorem agu {t:Int} {pre:List bh} {b:bh} {st:Int×Int} (h:IS t pre st):IS t (pre++[b]) (Ah t pre.length b st):=by
 unfold Ah
 by_cases hc:0≤ia b∧ia b≤t∧(st.1<0∨ia b<st.2)
 ·rw[if_pos hc]
  refine .inr ⟨pre.length,b,by simp,rfl,hc.1,hc.2.1,fun b' hb' q1 q2=>?_⟩
  rcases List.mem_append.1 hb' with hb'|hb'
  ·rcases h with⟨_,k⟩|⟨j,b0,k1,k2,k3,k4,k5⟩
   ·exact absurd ⟨q1,q2⟩ (k b' hb')
   ·rcases hc.2.2 with q|q
    ·rw[k2]at q;simp only at q;omega
    ·rw[k2]at q;simp only at q;have:=k5 b' hb' q1 q2;omega
  ·simp only[List.mem_singleton]at hb';subst hb';exact Int.le_refl _
 ·rw[if_neg hc]
  rcases h with⟨k0,k⟩|⟨j,b0,k1,k2,k3,k4,k5⟩
  ·refine .inl ⟨k0,fun b' hb' q=>?_⟩
   rcases List.mem_append.1 hb' with hb'|hb'
   ·exact k b' hb' q
   ·simp only[List.mem_singleton]at hb';subst hb';exact hc ⟨q.1,q.2,.inl k0⟩
  ·refine .inr ⟨j,b0,?_,k2,k3,k4,fun b' hb' q1 q2=>?_⟩
   ·rw[List.getElem?_append_left (List.getElem?_eq_some_iff.1 k1).1];exact k1
   ·rcases List.mem_append.1 hb' with hb'|hb'
    ·exact k5 b' hb' q1 q2
    ·simp only[List.mem_singleton]at hb';subst hb'
     by_cases q:ia b'<ia b0
     ·exact absurd ⟨q1,q2,.inr (by rw[k2];exact q)⟩ hc
     ·omega
theorem Zo {t:Int}:∀{l pre:List bh} {st:Int×Int},IS t pre st→IS t (pre++l) (qX t l pre.length st)
 |[],pre,st,h=>by rw[List.append_nil];exact h
 |b::l,pre,st,h=>by
  have:=Zo (l:=l) (agu (b:=b) h)
  rw[List.append_assoc,List.length_append]at this
  exact this
noncomputable def zj (d:bI) (t:Int) (s:bW):Option bW:=
 if(qX t s.az 0 (-1,0)).1<0 then none
 else(s.az[(qX t s.az 0 (-1,0)).1.toNat]?).bind fun b=>(b.bD[(b.bZ+1).toNat]?).map fun x=>
  {s with number:=IntKind.i64.wrap (s.number+1),az:=s.az.set (qX t s.az 0 (-1,0)).1.toNat (kL d {s with number:=IntKind.i64.wrap (s.number+1)} b x (b.bZ+1) (qX t s.az 0 (-1,0)).2)}
noncomputable def yY (d:bI) (t:Int):Nat→bW→bW
 |0,s=>s
 |n+1,s=>match zj d t s with
  |none=>s
  |some s'=>yY d t n s'
def Nr (b:bh):Nat:=((b.bD.length:Int) -b.bZ).toNat
def w8 (l:List bh):Nat:=(l.map Nr).sum
noncomputable def kS (d:bI) (s:bW) (t:Int):bW:=yY d t (w8 s.az) s
theorem ah2 {l:List bh} {i:Nat} {b b':bh} (h:l[i]? =some b) (hl:Nr b'<Nr b):w8 (l.set i b')<w8 l:=by
 unfold w8
 induction l generalizing i with
 |nil=>cases h
 |cons y l ih=>
  cases i with
  |zero=>
   injection h with h
   subst h
   simp only[List.set_cons_zero,List.map_cons,List.sum_cons]
   omega
  |succ i=>
   have:=ih (i:=i) h
   simp only[List.set_cons_succ,List.map_cons,List.sum_cons]
   omega
theorem Mz {N:Int} {s:bW} (h:jq N s) (n:Int):jq N {s with number:=n}:=⟨h.n,h.len,h.bs,h.mz⟩
theorem X7 {N N':Int} {s:bW} (h:jq N s) (h1:N≤N') (h2:N'≤36000000) (hd:∀b∈s.az,ia b<0∨N'≤ia b):jq N' s:=
 ⟨⟨by have:=h.n;omega,h2⟩,h.len,fun b hb=>(h.bs b hb).mono h1 h2 (hd b hb),h.mz⟩
theorem MA {N:Int} {s:bW} (h:jq N s) (i:Nat) {b:bh} (hb:uu N b) (n:Int):jq N {s with number:=n,az:=s.az.set i b}:=
 ⟨h.n,by show(s.az.set i b).length≤40;rw[List.length_set];exact h.len,fun b' hb'=>by
  rcases List.mem_or_eq_of_mem_set hb' with q|q
  ·exact h.bs b' q
  ·rw[q];exact hb,h.mz⟩
theorem RH {d:bI} (hd:uv d) {s:bW} {N t:Int} (hs:jq N s) (h1:N≤t) (h2:t≤36000000):
  ((qX t s.az 0 (-1,0)).1<0∧zj d t s=none∧jq t s)∨
  ∃(f:Nat) (b:bh) (x:aY) (to:Nat) (tm:Int),qX t s.az 0 (-1,0)=((f:Int),tm)∧s.az[f]? =some b∧b.bZ+1=(to:Int)∧b.bD[to]? =some x∧N≤tm∧tm≤t∧(∀b∈s.az,uu tm b)∧jq tm {s with number:=IntKind.i64.wrap (s.number+1)}∧
   zj d t s=some {s with number:=IntKind.i64.wrap (s.number+1),az:=s.az.set f (kL d {s with number:=IntKind.i64.wrap (s.number+1)} b x (to:Int) tm)}∧
   jq tm {s with number:=IntKind.i64.wrap (s.number+1),az:=s.az.set f (kL d {s with number:=IntKind.i64.wrap (s.number+1)} b x (to:Int) tm)}∧
   w8 (s.az.set f (kL d {s with number:=IntKind.i64.wrap (s.number+1)} b x (to:Int) tm))<w8 s.az:=by
 have hD:IS t s.az (qX t s.az 0 (-1,0)):=by
  have:=Zo (t:=t) (l:=s.az) (pre:=[]) (st:=(-1,0)) (.inl ⟨by decide,by simp⟩)
  simpa using this
 have hmin:∀b∈s.az,ia b<0∨N≤ia b:=by
  intro b hb
  have hB:=hs.bs b hb
  rw[RX hB hs.n.2]
  split
  ·exact .inl (by decide)
  ·rename_i q
   right
   rcases hB.CX with h3|⟨h3,h4,h5⟩
   ·exact absurd (.inl h3) q
   ·rw[(DF hB.qq (Int.le_refl N) hs.n.2).1,if_neg (fun z=>q (.inr z))]at h4
    omega
 rcases hD with⟨k0,k⟩|⟨f,b,k1,k2,k3,k4,k5⟩
 ·refine .inl ⟨k0,?_,X7 hs h1 h2 fun b hb=>?_⟩
  ·unfold zj;rw[if_pos k0]
  ·have:=k b hb;omega
 ·have wg:=List.mem_of_getElem? k1
  have hB:=hs.bs b wg
  have hN:=hs.n
  have mH:N≤ia b:=by rcases hmin b wg with q|q<;>omega
  have CO:¬(b.follow<0∨b.clock.lC=true):=by
   intro q
   have e:=RX hB hN.2
   rw[if_pos q]at e
   omega
  have ow:b.bZ+1<(b.bD.length:Int):=by
   rcases hB.CX with h3|⟨h3,_⟩
   ·exact absurd (.inl h3) CO
   ·exact h3
  have hc1:=hB.bZ
  have hto:(b.bZ+1).toNat<b.bD.length:=by omega
  have hx:b.bD[(b.bZ+1).toNat]? =some b.bD[(b.bZ+1).toNat]:=List.getElem?_eq_getElem hto
  have hmono:jq (ia b) {s with number:=IntKind.i64.wrap (s.number+1)}:=Mz (X7 hs mH (by omega) fun b' hb'=>by
   rcases hmin b' hb' with q|q
   ·exact .inl q
   ·by_cases q2:ia b'≤t
    ·exact .inr (k5 b' hb' (by omega) q2)
    ·exact .inr (by omega)) _
  have hci:((b.bZ+1).toNat:Int)=b.bZ+1:=by omega
  refine .inr ⟨f,b,b.bD[(b.bZ+1).toNat],(b.bZ+1).toNat,ia b,k2,k1,hci.symm,hx,mH,k4,hmono.bs,hmono,?_,?_,ah2 k1 ?_⟩
  ·unfold zj
   rw[k2]
   simp only
   rw[if_neg (by omega),Int.toNat_natCast,k1,Option.bind_some,hx,Option.map_some,hci]
  ·exact MA (s:={s with number:=IntKind.i64.wrap (s.number+1)}) hmono f (Rz hd hmono (Int.le_refl _) (by omega) wg hx) _
  ·unfold Nr
   show((b.bD.length:Int) -(((b.bZ+1).toNat:Nat):Int)).toNat<_
   omega
theorem Wz {d:bI} (hd:uv d) {t:Int} (h2:t≤36000000):∀(n:Nat) {s:bW} {N:Int},jq N s→N≤t→w8 s.az≤n→jq t (yY d t n s)
 |0,s,N,hs,h1,hn=>by
  rcases RH hd hs h1 h2 with⟨_,_,h⟩|⟨f,b,x,to,tm,_,_,_,_,_,_,_,_,_,_,hl⟩
  ·exact h
  ·omega
 |n+1,s,N,hs,h1,hn=>by
  unfold yY
  rcases RH hd hs h1 h2 with⟨_,e,h⟩|⟨f,b,x,to,tm,_,_,_,_,_,k,_,_,e,h,hl⟩
  ·rw[e];exact h
  ·rw[e]
   exact Wz hd h2 n h k (by show w8 (s.az.set f _)≤n;omega)
theorem QF {d:bI} (hd:uv d) {s:bW} {N t:Int} (hs:jq N s) (h1:N≤t) (h2:t≤36000000):jq t (kS d s t):=Wz hd h2 _ hs h1 (Nat.le_refl _)
end
section
set_option maxRecDepth 100000
open HP
theorem ajl {W:Heap} {aV g i:Nat} {l:List bh} {b:bh} (h:W[aV]? =some (.arr g 10 (l.map aP))) (hb:l[i]? =some b) (sh:Sh):Lt W sh (.oe aV g i 0) (.rp (aP b)):=by
 refine⟨⟨.rp (aP b),?_,rfl,rfl⟩,rfl,fun h=>by cases h⟩
 have e:(l.map aP)[i]? =some (aP b):=by rw[List.getElem?_map,hb];rfl
 have q:=Du b W 0 7
 simp only[A.bw,Nat.not_lt_zero,if_false,h,if_true,e,List.drop_zero,MM,q,Option.map_some]
theorem amC {W:Heap} {aV g i:Nat} {l:List bh} {b:bh} (h:W[aV]? =some (.arr g 10 (l.map aP))) (hb:l[i]? =some b):BP [.oe aV g i 0] W=some (.int .i64 (ia b),W):=
 CR (cO:=[.oe aV g i 0]) (ts:=[.rp (aP b)]) ⟨ajl h hb _,trivial⟩ (fun σ=>amD b σ) rfl
theorem Ss {aV g n i:Nat} (h:i<n):A.aW 10 (.os aV g 10 0 n) (.int .i64 (i:Int))=some (.oe aV g i 0):=by
 have:((i:Int)<(n:Int)):=by omega
 simp [A.aW,A.idx,this]
theorem aiZ {W:Heap} {L aV g:Nat} {s:bW} {t:Int} (h1:W[L]? =some (.box (bA (.os aV g 10 0 s.az.length) s))) (h2:W[aV]? =some (.arr g 10 (s.az.map aP))) {i:Nat} {b:bh} (hb:s.az[i]? =some b) (hs:s.az.length≤aU) (u:AV) (st:Int×Int):((fun v21 sV=>
     (A.lss (v21.getD 3 AV.undef) (AV.int .i64 (s.az.length:Int))).bind fun x24=>
     A.cond x24 (
      (A.aA 0 (AV.op L 0)).bind fun x25=>
      ((A.deref x25 sV).bind fun fW=>A.aj 0 fW).bind fun dL=>
      (A.aW 10 dL (v21.getD 3 AV.undef)).bind fun x28=>
      (BP [x28] sV).bind fun gr=>
      (A.geq gr.1 ah).bind fun cW=>
      (A.guard cW true (some gr.1) an).bind fun x31=>
      (A.guard cW true (some (AV.int .i64 t)) an).bind fun x32=>
      (A.guard cW true (A.leq x31 x32) an).bind fun ep=>
      (A.pick cW ep aI).bind fun x34=>
      (A.guard x34 true (some (v21.getD 1 AV.undef)) an).bind fun gy=>
      (A.guard x34 true (A.lss gy ah) an).bind fun gX=>
      (A.guard x34 true (some gX) an).bind fun bR=>
      (A.guard bR false (some gr.1) an).bind fun x38=>
      (A.guard bR false (some (v21.getD 2 AV.undef)) an).bind fun fu=>
      (A.guard bR false (A.lss x38 fu) an).bind fun dm=>
      (A.guard x34 true (A.pick bR cK dm) an).bind fun ef=>
      (A.pick x34 ef aI).bind fun fP=>
      (A.cond fP (
       some ([(v21.getD 0 AV.undef),(v21.getD 3 AV.undef),gr.1],gr.2)) (
       some ([(v21.getD 0 AV.undef),(v21.getD 1 AV.undef),(v21.getD 2 AV.undef)],gr.2))).bind fun iY=>
      (A.add (v21.getD 3 AV.undef) aH).bind fun eO=>
      some (AX.normal,[(iY.1.getD 0 AV.undef),(iY.1.getD 1 AV.undef),(iY.1.getD 2 AV.undef),eO],iY.2)) (
      some (AX.exit 2,[(v21.getD 0 AV.undef),(v21.getD 1 AV.undef),(v21.getD 2 AV.undef),(v21.getD 3 AV.undef)],sV)))) [u,.int .i64 st.1,.int .i64 st.2,.int .i64 (i:Int)] W=some (.normal,[u,.int .i64 (Ah t i b st).1,.int .i64 (Ah t i b st).2,.int .i64 ((i+1:Nat):Int)],W):=by
 have hi:=(List.getElem?_eq_some_iff.1 hb).1
 simp only[List.getD_cons_zero,List.getD_cons_succ]
 rw[jM hb,bS,cA,show A.aA 0 (.op L 0)=some (.op L 0)from rfl,bS,show((A.deref (.op L 0) W).bind fun c=>A.aj 0 c)=some (.os aV g 10 0 s.az.length)from by simp only[A.deref,h1];rfl,bS,Ss hi,bS,amC h2 hb,bS,su,bS]
 unfold Ah
 by_cases c1:0≤ia b
 case neg=>
  rw[decide_eq_false c1,if_neg (fun q=>c1 q.1)]
  simp only[we,gU,bS,nh,cF,List.getD_cons_zero,List.getD_cons_succ]
  rw[gK hb hs,bS]
 rw[decide_eq_true c1]
 simp only[gT,bS,NC,lq]
 by_cases c2:ia b≤t
 case neg=>
  rw[decide_eq_false c2,if_neg (fun q=>c2 q.2.1)]
  simp only[we,gU,bS,nh,cF,List.getD_cons_zero,List.getD_cons_succ]
  rw[gK hb hs,bS]
 rw[decide_eq_true c2]
 simp only[gT,bS,kV,lq]
 by_cases c3:st.1<0
 ·rw[decide_eq_true c3,if_pos ⟨c1,c2,.inl c3⟩]
  simp only[vZ,gU,bS,lq,cT,List.getD_cons_zero,List.getD_cons_succ]
  rw[gK hb hs,bS]
 rw[decide_eq_false c3]
 simp only[gF,bS,kV,nh]
 by_cases c4:ia b<st.2
 ·rw[decide_eq_true c4,if_pos ⟨c1,c2,.inr c4⟩]
  simp only[cT,bS,List.getD_cons_zero,List.getD_cons_succ]
  rw[gK hb hs,bS]
 ·rw[decide_eq_false c4,if_neg (fun q=>q.2.2.elim c3 c4)]
  simp only[cF,bS,List.getD_cons_zero,List.getD_cons_succ]
  rw[gK hb hs,bS]
theorem aiY {W:Heap} {L aV g:Nat} {s:bW} {t:Int} (h1:W[L]? =some (.box (bA (.os aV g 10 0 s.az.length) s))) (h2:W[aV]? =some (.arr g 10 (s.az.map aP))) (hs:s.az.length≤aU) (u:AV):A.loop ((fun v21 sV=>
     (A.lss (v21.getD 3 AV.undef) (AV.int .i64 (s.az.length:Int))).bind fun x24=>
     A.cond x24 (
      (A.aA 0 (AV.op L 0)).bind fun x25=>
      ((A.deref x25 sV).bind fun fW=>A.aj 0 fW).bind fun dL=>
      (A.aW 10 dL (v21.getD 3 AV.undef)).bind fun x28=>
      (BP [x28] sV).bind fun gr=>
      (A.geq gr.1 ah).bind fun cW=>
      (A.guard cW true (some gr.1) an).bind fun x31=>
      (A.guard cW true (some (AV.int .i64 t)) an).bind fun x32=>
      (A.guard cW true (A.leq x31 x32) an).bind fun ep=>
      (A.pick cW ep aI).bind fun x34=>
      (A.guard x34 true (some (v21.getD 1 AV.undef)) an).bind fun gy=>
      (A.guard x34 true (A.lss gy ah) an).bind fun gX=>
      (A.guard x34 true (some gX) an).bind fun bR=>
      (A.guard bR false (some gr.1) an).bind fun x38=>
      (A.guard bR false (some (v21.getD 2 AV.undef)) an).bind fun fu=>
      (A.guard bR false (A.lss x38 fu) an).bind fun dm=>
      (A.guard x34 true (A.pick bR cK dm) an).bind fun ef=>
      (A.pick x34 ef aI).bind fun fP=>
      (A.cond fP (
       some ([(v21.getD 0 AV.undef),(v21.getD 3 AV.undef),gr.1],gr.2)) (
       some ([(v21.getD 0 AV.undef),(v21.getD 1 AV.undef),(v21.getD 2 AV.undef)],gr.2))).bind fun iY=>
      (A.add (v21.getD 3 AV.undef) aH).bind fun eO=>
      some (AX.normal,[(iY.1.getD 0 AV.undef),(iY.1.getD 1 AV.undef),(iY.1.getD 2 AV.undef),eO],iY.2)) (
      some (AX.exit 2,[(v21.getD 0 AV.undef),(v21.getD 1 AV.undef),(v21.getD 2 AV.undef),(v21.getD 3 AV.undef)],sV)))) [u,.int .i64 (-1),.int .i64 0,.int .i64 0] W=some (.exit 2,[u,.int .i64 (qX t s.az 0 (-1,0)).1,.int .i64 (qX t s.az 0 (-1,0)).2,.int .i64 (s.az.length:Int)],W):=by
 refine Bs (nO (Q:=fun q=>q=(.exit 2,[u,.int .i64 (qX t s.az 0 (-1,0)).1,.int .i64 (qX t s.az 0 (-1,0)).2,.int .i64 (s.az.length:Int)],W)) (fun z v w=>∃(i:Nat) (st:Int×Int),i≤s.az.length∧v=[u,.int .i64 st.1,.int .i64 st.2,.int .i64 (i:Int)]∧w=W∧z=s.az.length-i∧qX t (s.az.drop i) i st=qX t s.az 0 (-1,0)) ?_ (n:=s.az.length) ⟨0,(-1,0),Nat.zero_le _,rfl,rfl,rfl,rfl⟩)
 rintro z v w ⟨i,st,hi,rfl,rfl,hz,hT⟩
 by_cases h:i<s.az.length
 ·have hb:s.az[i]? =some s.az[i]:=List.getElem?_eq_getElem h
  refine .inl ⟨s.az.length-(i+1),_,_,by omega,aiZ h1 h2 hb hs u st,i+1,Ah t i s.az[i] st,h,rfl,rfl,rfl,?_⟩
  rw[List.drop_eq_getElem_cons h]at hT
  exact hT
 ·have:i=s.az.length:=by omega
  subst this
  rw[List.drop_length]at hT
  rw[←hT]
  refine .inr ⟨_,?_,by simp,rfl⟩
  simp only[List.getD_cons_zero,List.getD_cons_succ]
  rw[j0,bS,cz]
  rfl
abbrev ql (σ:Heap) (g:Nat) (s:bW):Heap:=σ++[.box (bA (.os (σ.length+1) g 10 0 s.az.length) s),.arr g 10 (s.az.map aP)]
theorem aa5 (σ:Heap) (g:Nat) (s:bW):(ql σ g s)[σ.length]? =some (.box (bA (.os (σ.length+1) g 10 0 s.az.length) s)):=by
 rw[List.getElem?_append_right (Nat.le_refl _),Nat.sub_self];rfl
theorem Nj (σ:Heap) (g:Nat) (s:bW):(ql σ g s)[σ.length+1]? =some (.arr g 10 (s.az.map aP)):=by
 rw[List.getElem?_append_right (by omega),show σ.length+1-σ.length=1 by omega];rfl
theorem Z7 (σ:Heap) (b0 b1 b:aK):(σ++[b0,b1]).set σ.length b=σ++[b,b1]:=by
 rw[List.set_append_right _ _ (Nat.le_refl _),Nat.sub_self];rfl
theorem alz (σ:Heap) (b0 b1 b:aK):(σ++[b0,b1]).set (σ.length+1) b=σ++[b0,b]:=by
 rw[List.set_append_right _ _ (by omega),show σ.length+1-σ.length=1 by omega];rfl
theorem sG.ext {p:AV} {d:bI} {σ:Heap} (h:sG p d σ) (ex:Heap):sG p d (σ++ex):=by
 obtain⟨q1,q2,f1,f2,f3⟩:=h.f2
 obtain⟨Hl,pm,g1,g2⟩:=h.f10
 exact⟨h.nc,⟨q1,q2,f1,f2,fun ex'=>by rw[List.append_assoc];exact f3 _⟩,⟨Hl,pm,g1,fun ex'=>by rw[List.append_assoc];exact g2 _⟩,fun ex'=>by rw[List.append_assoc];exact h.lt _⟩
def SG (W:Heap) (v:AV) (l:List bh):Prop:=(l=[]∧(v=.aq∨v=.ez))∨∃id g,v=.os id g 10 0 l.length∧W[id]? =some (.arr g 10 (l.map aP))
abbrev tJ:List AV:=[AV.aq,ah,ah,aI]
theorem agi {d:bI} (hI:uv d) {σ:Heap} {pd:AV} (hd:sG pd d σ) {t:Int} (h2:t≤36000000) {s:bW} {N:Int} (hs:jq N s) (h1:N≤t) (g:Nat):A.loop ((fun UW BH=>
   (A.aA 0 (AV.op σ.length 0)).bind fun cQ=>
   ((A.deref cQ BH).bind fun iT=>A.aj 0 iT).bind fun bX=>
   (A.bK bX).bind fun cR=>
   (A.loop (fun v21 sV=>
     (A.lss (v21.getD 3 AV.undef) cR).bind fun x24=>
     A.cond x24 (
      (A.aA 0 (AV.op σ.length 0)).bind fun x25=>
      ((A.deref x25 sV).bind fun fW=>A.aj 0 fW).bind fun dL=>
      (A.aW 10 dL (v21.getD 3 AV.undef)).bind fun x28=>
      (BP [x28] sV).bind fun gr=>
      (A.geq gr.1 ah).bind fun cW=>
      (A.guard cW true (some gr.1) an).bind fun x31=>
      (A.guard cW true (some (AV.int .i64 t)) an).bind fun x32=>
      (A.guard cW true (A.leq x31 x32) an).bind fun ep=>
      (A.pick cW ep aI).bind fun x34=>
      (A.guard x34 true (some (v21.getD 1 AV.undef)) an).bind fun gy=>
      (A.guard x34 true (A.lss gy ah) an).bind fun gX=>
      (A.guard x34 true (some gX) an).bind fun bR=>
      (A.guard bR false (some gr.1) an).bind fun x38=>
      (A.guard bR false (some (v21.getD 2 AV.undef)) an).bind fun fu=>
      (A.guard bR false (A.lss x38 fu) an).bind fun dm=>
      (A.guard x34 true (A.pick bR cK dm) an).bind fun ef=>
      (A.pick x34 ef aI).bind fun fP=>
      (A.cond fP (
       some ([(v21.getD 0 AV.undef),(v21.getD 3 AV.undef),gr.1],gr.2)) (
       some ([(v21.getD 0 AV.undef),(v21.getD 1 AV.undef),(v21.getD 2 AV.undef)],gr.2))).bind fun iY=>
      (A.add (v21.getD 3 AV.undef) aH).bind fun eO=>
      some (AX.normal,[(iY.1.getD 0 AV.undef),(iY.1.getD 1 AV.undef),(iY.1.getD 2 AV.undef),eO],iY.2)) (
      some (AX.exit 2,[(v21.getD 0 AV.undef),(v21.getD 1 AV.undef),(v21.getD 2 AV.undef),(v21.getD 3 AV.undef)],sV))) [(UW.getD 0 AV.undef),(AV.int .i64 (-1)),ah,ah] BH).bind fun mg=>
   bif mg.1==AX.exit 2 then(
    (A.lss (mg.2.1.getD 1 AV.undef) ah).bind fun fM=>
    A.cond fM (
     ((A.deref (AV.op σ.length 0) mg.2.2).bind fun iz=>A.ay 0 4 iz).bind fun iC=>
     (A.lb (mg.2.1.getD 0 AV.undef)).bind fun sJ=>
     (A.cells 4 iC).bind fun uO=>
     (A.splice 0 uO sJ).bind fun oa=>
     some (AX.ret,[(AV.lbx oa)],mg.2.2)) (
     (A.aA 1 (AV.op σ.length 0)).bind fun eD=>
     ((A.deref eD mg.2.2).bind fun oc=>A.aj 0 oc).bind fun gY=>
     (A.add gY aH).bind fun lG=>
     (A.aA 1 (AV.op σ.length 0)).bind fun gG=>
     ((A.cell lG).bind fun v=>some [v]).bind fun iA=>
     (A.storeAt gG iA mg.2.2).bind fun ig=>
     (A.aA 0 (AV.op σ.length 0)).bind fun eW=>
     ((A.deref eW ig).bind fun Bj=>A.aj 0 Bj).bind fun jA=>
     (A.aW 10 jA (mg.2.1.getD 1 AV.undef)).bind fun eY=>
     (A.aA 6 eY).bind fun eR=>
     ((A.deref eR ig).bind fun mV=>A.aj 0 mV).bind fun jf=>
     (A.add jf aH).bind fun gH=>
     (tc [pd,(AV.op σ.length 0),(mg.2.1.getD 1 AV.undef),gH,(mg.2.1.getD 2 AV.undef)] ig).bind fun eU=>
     some (AX.normal,[(mg.2.1.getD 0 AV.undef)],eU.2)))else
   none)) [.lbx tJ] (ql σ g s)=some (.ret,[.lbx (bA (.os (σ.length+1) g 10 0 (kS d s t).az.length) (kS d s t))],ql σ g (kS d s t)):=by
 obtain⟨fs,hfs⟩:∃fs,fs=kS d s t:=⟨_,rfl⟩
 rw[←hfs]
 refine Bs (nO (Q:=fun q=>q=(.ret,[.lbx (bA (.os (σ.length+1) g 10 0 fs.az.length) fs)],ql σ g fs)) (fun z v w=>∃(s:bW) (N:Int),jq N s∧N≤t∧v=[.lbx tJ]∧w=ql σ g s∧w8 s.az≤z∧yY d t z s=fs) ?_ (n:=w8 s.az) ⟨s,N,hs,h1,rfl,rfl,Nat.le_refl _,hfs.symm⟩)
 rintro z v w ⟨s,N,hs,h1,rfl,rfl,hz,hF⟩
 have rE:s.az.length≤aU:=by have:=hs.len;unfold aU;omega
 have A1:=aa5 σ g s
 have A2:=Nj σ g s
 have rdS:((A.deref (.op σ.length 0) (ql σ g s)).bind fun c=>A.aj 0 c)=some (.os (σ.length+1) g 10 0 s.az.length):=by simp only[A.deref,A1];rfl
 have Km:((A.deref (.op σ.length 0) (ql σ g s)).bind fun c=>A.ay 0 4 c)=some (.agg (bA (.os (σ.length+1) g 10 0 s.az.length) s)):=by simp only[A.deref,A1];rfl
 have zQ:((A.deref (.op σ.length 1) (ql σ g s)).bind fun c=>A.aj 0 c)=some (.int .i64 s.number):=by simp only[A.deref,A1];rfl
 have L1:=aiY (t:=t) A1 A2 rE (.lbx tJ)
 rcases RH hI hs h1 h2 with⟨k0,k1,k2⟩|⟨f,b,x,to,tm,e1,e2,e3,e4,e5,e6,e7,e8,e9,kJ,e11⟩
 ·have A6:s=fs:=by
   cases z with
   |zero=>exact hF
   |succ z=>unfold yY at hF;rw[k1]at hF;exact hF
  refine .inr ⟨_,?_,by simp,rfl⟩
  rw[←A6]
  rw[show A.aA 0 (.op σ.length 0)=some (.op σ.length 0)from rfl,bS,rdS,bS,show A.bK (.os (σ.length+1) g 10 0 s.az.length)=some (.int .i64 (s.az.length:Int))from rfl,bS]
  refine(congrArg (fun z=>Option.bind z _) L1).trans ?_
  rw[bS]
  simp only[nG,List.getD_cons_zero,List.getD_cons_succ]
  rw[kV,bS,decide_eq_true k0,cA,Km,bS,ij,bS]
  rfl
 ·have eT:0<z:=by omega
  obtain⟨z',rfl⟩:∃z',z=z'+1:=⟨z-1,by omega⟩
  unfold yY at hF
  rw[e9]at hF
  refine .inl ⟨z',_,_,by omega,?_,_,tm,kJ,e6,rfl,rfl,?_,hF⟩
  ·rw[show A.aA 0 (.op σ.length 0)=some (.op σ.length 0)from rfl,bS,rdS,bS,show A.bK (.os (σ.length+1) g 10 0 s.az.length)=some (.int .i64 (s.az.length:Int))from rfl,bS]
   refine(congrArg (fun z=>Option.bind z _) L1).trans ?_
   rw[bS,e1]
   simp only[nG,List.getD_cons_zero,List.getD_cons_succ]
   rw[kV,bS,decide_eq_false (by omega),cz,show A.aA 1 (.op σ.length 0)=some (.op σ.length 1)from rfl,bS,zQ,bS,kU,bS]
   simp only[bS,pV]
   have hst:A.storeAt (.op σ.length 1) [.int .i64 (IntKind.i64.wrap (s.number+1))] (ql σ g s)=some (ql σ g {s with number:=IntKind.i64.wrap (s.number+1)}):=by
    simp only[A.storeAt,A1]
    rw[show A.splice 1 [.int .i64 (IntKind.i64.wrap (s.number+1))] (bA (.os (σ.length+1) g 10 0 s.az.length) s)=some (bA (.os (σ.length+1) g 10 0 s.az.length) {s with number:=IntKind.i64.wrap (s.number+1)})from rfl,Option.map_some,Z7]
   rw[hst,bS]
   obtain⟨s1,hs1⟩:∃s1:bW,s1={s with number:=IntKind.i64.wrap (s.number+1)}:=⟨_,rfl⟩
   have GN:s1.az=s.az:=by rw[hs1]
   rw[←hs1]at e8 kJ ⊢
   have B1:=aa5 σ g s1
   have B2:=Nj σ g s1
   have hfl:=(List.getElem?_eq_some_iff.1 e2).1
   rw[show((A.deref (.op σ.length 0) (ql σ g s1)).bind fun c=>A.aj 0 c)=some (.os (σ.length+1) g 10 0 s1.az.length)from by simp only[A.deref,B1];rfl,bS,Ss (by rw[GN];exact hfl),bS,show A.aA 6 (.oe (σ.length+1) g f 0)=some (.oe (σ.length+1) g f 6)from by simp [A.aA],bS]
   rw[show((A.deref (.oe (σ.length+1) g f 6) (ql σ g s1)).bind fun c=>A.aj 0 c)=some (.int .i64 b.bZ)from by
    simp only[A.deref,B2,if_true,List.getElem?_map,GN,e2,Option.map_some];rfl,bS,kU,bS]
   have hB:=e7 b (List.mem_of_getElem? e2)
   have fT:=(List.getElem?_eq_some_iff.1 e4).1
   have JR:b.bD.length≤aU:=hB.rI.1
   rw[show IntKind.i64.wrap (b.bZ+1)=(to:Int)from by rw[e3];exact wrap64 (by unfold aM;unfold aU at JR;omega)]
   have uZ:=Rj b x
   have hgo:=aam (d:=d) (s:=s1) (σ:=ql σ g s1) (pd:=pd) (ids:=σ.length) (aV:=σ.length+1) (g:=g) (ib:=f) (to:=to) (b:=b) (x:=x) (t:=tm) (hd.ext _) B1 B2 (by rw[GN];exact e2) e4 (by rw[GN];exact rE) (by rw[GN];exact fun b hb=>(e7 b hb).ok (Int.le_refl _) (by omega)) hI.pre hB.rI uZ.1 (by have:=uZ.2;unfold aU;omega) (by rw[GN];exact fun b hb=>(e7 b hb).can)
   rw[hgo,bS,alz]
   simp only[hs1,ql,bA,List.length_set]
  ·exact Nat.le_of_lt_succ (Nat.lt_of_lt_of_le e11 hz)
def Gu (σ:Heap) (s:bW) (v:AV) (H:Heap):Prop:=(s.az=[]∧v=.ez∧H=σ++[.box (bA v s)])∨∃g,v=.os (σ.length+1) g 10 0 s.az.length∧H=ql σ g s
theorem Gu.ex {σ H:Heap} {s:bW} {v:AV} (h:Gu σ s v H):(∃ex,H=σ++ex)∧SG H v s.az:=by
 rcases h with⟨h1,h2,h3⟩|⟨g,h1,h2⟩
 ·exact⟨⟨_,h3⟩,.inl ⟨h1,.inr h2⟩⟩
 ·exact⟨⟨_,h2⟩,.inr ⟨_,g,h1,by rw[h2];exact Nj σ g s⟩⟩
theorem Zj {d:bI} (hI:uv d) {σ:Heap} {pd v0:AV} (hd:sG pd d σ) {t:Int} (h2:t≤36000000) {N:Int} (hs:jq N d.state) (h1:N≤t) (h0:∃q,A.aA 0 pd=some q∧((A.deref q σ).bind fun c=>A.ay 0 4 c)=some (.agg (bA v0 d.state))) (hv:SG σ v0 d.state.az):
  ∃v H,Fo [pd,.int .i64 t] σ=some (.agg (bA v (kS d d.state t)),H)∧Gu σ (kS d d.state t) v H:=by
 have aml:∀{r:AV→AV→Heap→Option (AV×Heap)} {x y v:AV} {σ σ':Heap},r x y σ=some (v,σ')→A.wrap false [] .k (A.bQ r) [x,y] σ=some (v,σ'):=by
  intro r x y v σ σ' e
  have:A.bQ r [x,y] σ=some (v,σ'):=e
  simp only[A.wrap,Bool.false_and,cond_false,A.bT,this,Option.map_some,gQ]
 suffices h:∃v H,Ld pd (.int .i64 t) σ=some (.agg (bA v (kS d d.state t)),H)∧Gu σ (kS d d.state t) v H by
  obtain⟨v,H,e,h⟩:=h
  exact⟨v,H,aml e,h⟩
 obtain⟨s,hst⟩:∃s,s=d.state:=⟨_,rfl⟩
 rw[←hst]at hs h0 hv ⊢
 obtain⟨q,f1,f2⟩:=h0
 unfold Ld
 rw[hd.nc,bS,f1,bS,f2,bS,show A.cells 4 (.agg (bA v0 s))=some (bA v0 s)from rfl,bS]
 have G0:(σ++[aK.box tJ])[σ.length]? =some (.box tJ):=by rw[List.getElem?_append_right (Nat.le_refl _),Nat.sub_self];rfl
 have S0:A.storeAt (.op σ.length 0) (bA v0 s) (σ++[aK.box tJ])=some (σ++[aK.box (bA v0 s)]):=by
  simp only[A.storeAt,G0]
  rw[show A.splice 0 (bA v0 s) tJ=some (bA v0 s)from rfl,Option.map_some,List.set_append_right _ _ (Nat.le_refl _),Nat.sub_self]
  rfl
 rw[S0,bS,show A.aA 0 (.op σ.length 0)=some (.op σ.length 0)from rfl,bS]
 have hcell:A.cell v0=some v0:=by rcases hv with⟨_,h|h⟩|⟨id,g,h,_⟩<;>rw[h]<;>rfl
 have G1:(σ++[aK.box (bA v0 s)])[σ.length]? =some (.box (bA v0 s)):=by rw[List.getElem?_append_right (Nat.le_refl _),Nat.sub_self];rfl
 rw[show((A.deref (.op σ.length 0) (σ++[aK.box (bA v0 s)])).bind fun c=>A.aj 0 c)=some v0 from by simp only[A.deref,G1,List.drop_zero,Option.bind_some,A.aj,bA,List.getElem?_cons_zero,hcell],bS]
 by_cases hb:s.az=[]
 ·have hz:Fh [v0] (σ++[aK.box (bA v0 s)])=some (.ez,σ++[aK.box (bA v0 s)]):=by
   rcases hv with⟨_,h|h⟩|⟨id,g,h,_⟩
   ·rw[h];rfl
   ·rw[h];rfl
   ·rw[h,hb];rfl
  rw[hz,bS]
  simp only[bS]
  have S1:A.storeAt (.op σ.length 0) [.ez] (σ++[aK.box (bA v0 s)])=some (σ++[aK.box (bA .ez s)]):=by
   simp only[A.storeAt,G1]
   rw[show A.splice 0 [.ez] (bA v0 s)=some (bA .ez s)from rfl,Option.map_some,List.set_append_right _ _ (Nat.le_refl _),Nat.sub_self]
   rfl
  rw[show((A.cell AV.ez).bind fun v=>some [v])=some [.ez]from rfl,bS,S1,bS]
  have hF:kS d s t=s:=by
   unfold kS
   rw[hb]
   rfl
  have G2:(σ++[aK.box (bA .ez s)])[σ.length]? =some (.box (bA .ez s)):=by rw[List.getElem?_append_right (Nat.le_refl _),Nat.sub_self];rfl
  refine⟨.ez,σ++[aK.box (bA .ez s)],?_,.inl ⟨by rw[hF];exact hb,rfl,by rw[hF]⟩⟩
  rw[hF]
  refine Bs (Gp (nO (Q:=fun q=>q=(.ret,[.lbx (bA .ez s)],σ++[aK.box (bA .ez s)])) (fun z v w=>v=[.lbx tJ]∧w=σ++[aK.box (bA .ez s)]) ?_ (n:=0) ⟨rfl,rfl⟩) ?_)
  ·rintro z v w ⟨rfl,rfl⟩
   refine .inr ⟨_,?_,by simp,rfl⟩
   rw[show((A.deref (.op σ.length 0) (σ++[aK.box (bA .ez s)])).bind fun c=>A.aj 0 c)=some .ez from by simp only[A.deref,G2];rfl,bS,show A.bK .ez=some (.int .i64 0)from rfl,bS]
   refine Bs (Gp (nO (Q:=fun q=>q=(.exit 2,[.lbx tJ,.int .i64 (-1),.int .i64 0,.int .i64 0],σ++[aK.box (bA .ez s)])) (fun z v w=>v=[.lbx tJ,.int .i64 (-1),.int .i64 0,.int .i64 0]∧w=σ++[aK.box (bA .ez s)]) ?_ (n:=0) ⟨rfl,rfl⟩) ?_)
   ·rintro z v w ⟨rfl,rfl⟩
    exact .inr ⟨_,rfl,by simp,rfl⟩
   ·rintro q rfl
    simp only[nG,List.getD_cons_zero,List.getD_cons_succ]
    rw[kV,bS,decide_eq_true (by decide),cA,show((A.deref (.op σ.length 0) (σ++[aK.box (bA .ez s)])).bind fun c=>A.ay 0 4 c)=some (.agg (bA .ez s))from by simp only[A.deref,G2];rfl,bS,ij,bS]
    exact⟨_,rfl,rfl⟩
  ·rintro q rfl
   exact⟨_,rfl,rfl⟩
 ·rcases hv with⟨h,_⟩|⟨id,g,hv,hg⟩
  ·exact absurd h hb
  obtain⟨n,hn⟩:∃n,s.az.length=n+1:=by
   cases h:s.az with
   |nil=>exact absurd h hb
   |cons b l=>exact⟨l.length,rfl⟩
  have abD:=(List.getElem?_eq_some_iff.1 hg).1
  have hlen:=hs.len
  have G2:(σ++[aK.box (bA v0 s)])[id]? =some (.arr g 10 (s.az.map aP)):=by rw[List.getElem?_append_left abD];exact hg
  have hz:Fh [v0] (σ++[aK.box (bA v0 s)])=some (.os (σ.length+1) s.az.length 10 0 s.az.length,(σ++[aK.box (bA v0 s)])++[.arr s.az.length 10 (s.az.map aP)]):=by
   have e0:Fh [v0] (σ++[aK.box (bA v0 s)])=A.wrap false [] .k (A.dH Fi) [v0] (σ++[aK.box (bA v0 s)]):=by
    rw[hv,hn];rfl
   rw[e0]
   have e1:A.dH Fi [v0] (σ++[aK.box (bA v0 s)])=some (.os (σ.length+1) s.az.length 10 0 s.az.length,(σ++[aK.box (bA v0 s)])++[.arr s.az.length 10 (s.az.map aP)]):=by
    show Fi v0 (σ++[aK.box (bA v0 s)])=_
    unfold Fi
    rw[show A.tN v0 .aq=some (.bool false)from by rw[hv];rfl,bS,cz]
    have hel:A.elems 10 v0 (σ++[aK.box (bA v0 s)])=some (s.az.map aP):=by
     rw[hv]at G2 ⊢
     simp only[A.elems]
     rw[G2]
     simp [List.take_of_length_le]
    have hne:s.az.map aP≠[]:=by simpa using hb
    have hap:A.append 10 (140737488355328 / 96) .ez v0 (σ++[aK.box (bA v0 s)])=some (.os (σ.length+1) s.az.length 10 0 s.az.length,(σ++[aK.box (bA v0 s)])++[.arr s.az.length 10 (s.az.map aP)]):=by
     unfold A.append
     rw[hel,bS]
     simp only[A.ud,if_neg hne,List.length_map,List.length_append,List.length_cons,List.length_nil]
     rw[if_pos (by omega)]
    rw[hap,bS]
   simp only[A.wrap,Bool.false_and,cond_false,A.bT,e1,Option.map_some,gQ]
  rw[hz,bS]
  simp only[bS]
  rw[show((A.cell (AV.os (σ.length+1) s.az.length 10 0 s.az.length)).bind fun v=>some [v])=some [.os (σ.length+1) s.az.length 10 0 s.az.length]from rfl,bS]
  have S1:A.storeAt (.op σ.length 0) [.os (σ.length+1) s.az.length 10 0 s.az.length] ((σ++[aK.box (bA v0 s)])++[.arr s.az.length 10 (s.az.map aP)])=some (ql σ s.az.length s):=by
   rw[List.append_assoc]
   simp only[A.storeAt]
   rw[List.getElem?_append_right (Nat.le_refl _),Nat.sub_self]
   show(Option.map (fun cs=>(σ++[aK.box (bA v0 s),aK.arr s.az.length 10 (s.az.map aP)]).set σ.length (.box cs)) (A.splice 0 [.os (σ.length+1) s.az.length 10 0 s.az.length] (bA v0 s)))=_
   rw[show A.splice 0 [.os (σ.length+1) s.az.length 10 0 s.az.length] (bA v0 s)=some (bA (.os (σ.length+1) s.az.length 10 0 s.az.length) s)from rfl,Option.map_some,Z7]
  rw[S1,bS]
  refine⟨_,_,?_,.inr ⟨s.az.length,rfl,rfl⟩⟩
  refine(congrArg (fun z=>Option.bind z _) (agi hI hd h2 hs h1 s.az.length)).trans ?_
  rw[bS]
  rfl
end
section
set_option maxRecDepth 100000
open HP
theorem acp (dyn:Nat→List AV→Heap→Option (AV×Heap)) (l:List bh) (hl:l.length≤aU) (n:Nat) (caps:List AV) (p:bh→Bool) (σ:Heap) (hd:∀x∈l,dyn n ((.agg (aP x):AV)::caps) σ=some (.bool (p x),σ)):Ht dyn [sl 10 aP l,.fn n caps] σ=some (.int .i64 (jI p l),σ):=by
 refine wrap_eq rfl ?_ rfl
 show KK dyn (sl 10 aP l) (.fn n caps) σ=_
 unfold KK
 simp only[aO,reduceCtorEq]
 refine(oI (S:=Unit) (R:=Int) l (fun pre x _=>if p x=true then .out (pre.length:Int)else .go ())
  (fun pre _=>[.int .i64 0,.int .i64 (pre.length:Int)]) (fun _ _=>σ) (fun _=>(.exit 0,[.int .i64 0,.int .i64 (l.length:Int)],σ)) (fun pre _ r=>(.ret,[.int .i64 (pre.length:Int),.int .i64 (pre.length:Int)],σ))
  (fun _ _=>True) () (fun _=>some (AV.int .i64 (-1),σ)) (fun r=>some (AV.int .i64 r,σ)) ?_ ?_ trivial (fun _ _ _ _ _ _ _ _=>trivial) ?_ ?_).trans ?_
 ·intro pre x rest u hl' _
  have hx:=oL hl'
  have hlt:=qO hl'
  have hi1:IntKind.i64.wrap ((pre.length:Int)+1)=(pre.length:Int)+1:=wrap64 (by unfold aM;unfold aU at hl;omega)
  have hlt':(pre.length:Int)<(l.length:Int):=by omega
  have gO:=jZ 10 aP l hx
  have jT:=hd x (by rw[hl'];simp)
  simp only[aO,reduceCtorEq,aik,hlt',gO,A.fR,List.cons_append,List.nil_append,jT,hi1]
  cases p x<;>simp [aO,reduceCtorEq]
 ·intro u _;simp only[aO,reduceCtorEq,Int.lt_irrefl]
 ·intro u _;simp only[aO,reduceCtorEq]
 ·intro pre x rest s q hl' _ hb
  have:q=(pre.length:Int):=by
   cases hpx:p x
   ·rw[hpx]at hb;cases hb
   ·rw[hpx]at hb;simp at hb;exact hb.symm
  simp only[aO,reduceCtorEq,this]
 ·rw[BX p _ _ l [] (by simp)]
  simp only[List.nil_append]
  split
  ·rename_i h;rw[h]
  ·rfl
noncomputable def uT (d:bI) (s:bW) (i:Nat) (b:bh) (to t:Int):bW×Int:=match b.bD[to.toNat]? with
 |none=>(s,0)
 |some x=>({s with number:=IntKind.i64.wrap (s.number+1),az:=s.az.set i (kL d {s with number:=IntKind.i64.wrap (s.number+1)} b x to t)},0)
def GR (s:bW) (i:Nat) (b:bh):bW:={s with number:=IntKind.i64.wrap (s.number+1),az:=s.az.set i b}
noncomputable def apc (d:bI) (s:bW) (i:Nat) (b:bh) (a:fC):bW:={s with number:=IntKind.i64.wrap (s.number+1),az:=s.az.set i (tG d {s with number:=IntKind.i64.wrap (s.number+1)} b a)}
noncomputable def GG (d:bI) (s:bW) (a:fC) (i:Nat) (b:bh):bW×Int:=
 if a.kind=1 then(if b.bZ+1=(b.bD.length:Int)then(s,8)else uT d s i b (b.bZ+1) a.time)
 else if a.kind=2 then(if b.bZ-1<0 then(s,8)else uT d s i b (b.bZ-1) a.time)
 else if a.kind=3 then(if jI (fun c:aY=>decide (c.number=a.bZ)) b.bD<0 then(s,8)else uT d s i b (jI (fun c:aY=>decide (c.number=a.bZ)) b.bD) a.time)
 else if a.kind=4 then(if b.clock.lC=true∨b.bZ<0 then(s,10)else(GR s i {b with clock:=⟨dc b.clock a.time,a.time,true⟩},0))
 else if a.kind=5 then(if b.clock.lC=false then(s,10)else(GR s i {b with clock:=⟨b.clock.shown,a.time,false⟩},0))
 else if a.kind=6 then(if b.bZ<0 then(s,10)else(apc d s i b a,0))
 else(GR s i {b with iX:=a.level},0)
noncomputable def kg (d:bI) (s:bW) (a:fC):bW×Int:=
 if a.kind=8 then({s with number:=IntKind.i64.wrap (s.number+1),mz:=a.level},0)
 else if a.kind=9 then({s with number:=IntKind.i64.wrap (s.number+1),black:=decide (a.level=1)},0)
 else match s.az[(jI (fun b:bh=>decide (b.number=a.jL)) s.az).toNat]? with
  |none=>(s,0)
  |some b=>GG d s a (jI (fun b:bh=>decide (b.number=a.jL)) s.az).toNat b
structure SA (σ W : Heap) (ids aV g : Nat) (s : bW) : Prop where
 b1:W[ids]? =some (.box (bA (.os aV g 10 0 s.az.length) s))
 b2:W[aV]? =some (.arr g 10 (s.az.map aP))
 ex:∃ex,W=σ++ex
 i1:σ.length≤ids
 i2:σ.length≤aV
section
variable {σ W : Heap} {ids aV g : Nat} {s : bW}
theorem SA.ne (h:SA σ W ids aV g s):ids≠aV:=by
 intro e
 have h1:=h.b1
 have h2:=h.b2
 rw[e,h2]at h1
 cases h1
theorem RY {σ W:Heap} (h:∃ex,W=σ++ex) {i:Nat} (hi:σ.length≤i) (b:aK):∃ex,W.set i b=σ++ex:=by
 obtain⟨ex,rfl⟩:=h
 exact⟨_,List.set_append_right _ _ hi⟩
theorem SA.dW (h:SA σ W ids aV g s) (i:Nat) (b':bh):SA σ (W.set aV (.arr g 10 ((s.az.set i b').map aP))) ids aV g {s with az:=s.az.set i b'}:=by
 refine⟨?_,?_,RY h.ex h.i2 _,h.i1,h.i2⟩
 ·rw[List.getElem?_set_ne (fun e=>h.ne e.symm)]
  show _=some (aK.box (bA (.os aV g 10 0 (s.az.set i b').length) _))
  rw[List.length_set]
  exact h.b1
 ·exact List.getElem?_set_self (List.getElem?_eq_some_iff.1 h.b2).1
theorem SA.aph (h:SA σ W ids aV g s) (s':bW) (hs:s'.az=s.az):SA σ (W.set ids (.box (bA (.os aV g 10 0 s'.az.length) s'))) ids aV g s':=by
 refine⟨List.getElem?_set_self (List.getElem?_eq_some_iff.1 h.b1).1,?_,RY h.ex h.i1 _,h.i1,h.i2⟩
 rw[List.getElem?_set_ne h.ne,hs]
 exact h.b2
theorem SA.num (h:SA σ W ids aV g s) (n:Int):∃W',A.storeAt (.op ids 1) [.int .i64 n] W=some W'∧SA σ W' ids aV g {s with number:=n}:=by
 refine⟨_,?_,h.aph {s with number:=n} rfl⟩
 simp only[A.storeAt,h.b1]
 rfl
theorem SA.put (h:SA σ W ids aV g s) {i o:Nat} {b b':bh} {new:List AV} (hb:s.az[i]? =some b) (hs:A.splice o new (aP b)=some (aP b')):∃W',A.storeAt (.oe aV g i o) new W=some W'∧SA σ W' ids aV g {s with az:=s.az.set i b'}:=by
 refine⟨_,?_,h.dW i b'⟩
 rw[IF h.b2 (by rw[List.getElem?_map,hb];rfl) hs,List.map_set]
theorem SA.rdB (h:SA σ W ids aV g s) {i:Nat} {b:bh} (hb:s.az[i]? =some b) (o:Nat):A.deref (.oe aV g i o) W=some ((aP b).drop o):=by
 simp only[A.deref,h.b2,if_true,List.getElem?_map,hb,Option.map_some]
theorem SA.zQ (h:SA σ W ids aV g s):((A.deref (.op ids 1) W).bind fun c=>A.aj 0 c)=some (.int .i64 s.number):=by
 simp only[A.deref,h.b1];rfl
theorem SA.rdV (h:SA σ W ids aV g s):((A.deref (.op ids 0) W).bind fun c=>A.aj 0 c)=some (.os aV g 10 0 s.az.length):=by
 simp only[A.deref,h.b1];rfl
theorem SA.go {d:bI} {pd:AV} (hI:uv d) (hd:sG pd d σ) (h:SA σ W ids aV g s) {N t:Int} (hs:jq N s) (hN:N≤t) (ht:t≤36000000) {i to:Nat} {b:bh} {x:aY} (hb:s.az[i]? =some b) (hx:b.bD[to]? =some x):
  ∃W',tc [pd,.op ids 0,.int .i64 (i:Int),.int .i64 (to:Int),.int .i64 t] W=some (.aF [],W')∧SA σ W' ids aV g {s with az:=s.az.set i (kL d s b x (to:Int) t)}:=by
 obtain⟨ex,e⟩:=h.ex
 have hB:=hs.bs b (List.mem_of_getElem? hb)
 have uZ:=Rj b x
 refine⟨_,aam (by rw[e];exact hd.ext ex) h.b1 h.b2 hb hx (by have:=hs.len;unfold aU;omega) (fun b hb=>(hs.bs b hb).ok hN ht) hI.pre hB.rI uZ.1 (by have:=uZ.2;unfold aU;omega) (fun b hb=>(hs.bs b hb).can),h.dW i _⟩
theorem SA.rel {d:bI} {pd:AV} (hd:sG pd d σ) (h:SA σ W ids aV g s) {a:fC} {N:Int} (hs:jq N s) (hN:N≤a.time) (ht:a.time≤36000000) {i:Nat} {b:bh} (hb:s.az[i]? =some b):
  ∃W',HB [pd,.op ids 0,.oe aV g i 0,.agg (bG a)] W=some (.aF [],W')∧SA σ W' ids aV g {s with az:=s.az.set i (tG d s b a)}:=by
 obtain⟨ex,e⟩:=h.ex
 have hB:=hs.bs b (List.mem_of_getElem? hb)
 exact⟨_,aiq (by rw[e];exact hd.ext ex) h.b1 h.b2 hb (hB.ok hN ht) (fun b hb=>(hs.bs b hb).can),h.dW i _⟩
end
theorem bex {β:Type} {X:Option (AV×Heap)} {v:AV×Heap} {f:AV×Heap→Option β} {Q:Heap→Prop} (e:X=some v) {r:Heap→Option β} (k:∃W',f v=r W'∧Q W'):∃W',X.bind f=r W'∧Q W':=by
 rw[e];exact k
theorem ahu (b:bh) (a:fC) (σ:Heap):BL [.agg (aP b),.rp (bG a)] σ=some (.bool (decide (b.number=a.jL)),σ):=by
 refine yR (z:=.aq) (by unfold aP;cases b.runs<;>rfl) (ff (mA (by unfold aP;cases b.runs<;>rfl)) rfl) (gQ _) ?_
 unfold Vh
 rw[ahF,bS,afP,bS,kX,bS,oq,bS,show A.aj 0 ((bG a).drop 2)=some (.int .i64 a.jL)from rfl,bS,gR,bS]
 exact br _ _
theorem ahv (c:aY) (a:fC) (σ:Heap):BM [.agg (aX c),.rp (bG a)] σ=some (.bool (decide (c.number=a.bZ)),σ):=by
 refine yR (z:=.aq) rfl (ff (mA rfl) rfl) (gQ _) ?_
 unfold Vi
 rw[Ix,bS,QX,bS,kX,bS,oq,bS,show A.aj 0 ((bG a).drop 3)=some (.int .i64 a.bZ)from rfl,bS,gR,bS]
 exact br _ _
theorem ah6 {W:Heap} {aV g:Nat} {l:List bh} (h:W[aV]? =some (.arr g 10 (l.map aP))):Lt W (.s 10) (.os aV g 10 0 l.length) (sl 10 aP l):=
 ⟨⟨sl 10 aP l,Na Du h (by omega) 7,rfl,rfl⟩,rfl,fun h=>by cases h⟩
noncomputable abbrev M4 : Nat → List AV → Heap → Option (AV × Heap) := A.tab (fun _ _ => none) [(352, BL), (354, BM)]
theorem agB {W:Heap} {aV g:Nat} {l:List bh} (h:W[aV]? =some (.arr g 10 (l.map aP))) (hl:l.length≤aU) (a:fC):Ht M4 [.os aV g 10 0 l.length,.fn 352 [.rp (bG a)]] W=some (.int .i64 (jI (fun b:bh=>decide (b.number=a.jL)) l),W):=
 CR (cO:=[.os aV g 10 0 l.length,.fn 352 [.rp (bG a)]]) (ts:=[sl 10 aP l,.fn 352 [.rp (bG a)]]) ⟨ah6 h,IX (amH (bV (amJ (WQ a)) pN)) rfl,trivial⟩ (fun σ=>acp M4 l hl _ _ _ σ (fun b _=>ahu b a σ)) rfl
theorem Zz (c t:Int) (q:Bool):((((A.cell (.int .i64 c)).bind fun v=>some [v]).bind fun SQ=>(A.splice 0 SQ [ah,ah,aI]).bind fun xy=>((A.cell (.int .i64 t)).bind fun v=>some [v]).bind fun I3=>(A.splice 1 I3 xy).bind fun xz=>((A.cell (AV.bool q)).bind fun v=>some [v]).bind fun SR=>(A.splice 2 SR xz).bind fun uy=>some uy).bind fun cs=>some (AV.agg cs))=some (.agg (vB ⟨c,t,q⟩)):=rfl
theorem aaK (b:bh) (c:Am):A.splice 0 (vB c) (aP b)=some (aP {b with clock:=c}):=rfl
theorem ajJ (b:bh) (n:Int):A.splice 7 [.int .i64 n] (aP b)=some (aP {b with iX:=n}):=rfl
theorem amv {d:bI} {pd:AV} (hI:uv d) {σ W:Heap} (hd:sG pd d σ) {ids aV g:Nat} {s:bW} (h:SA σ W ids aV g s) {a:fC} (hs:jq a.time s) (hk:1≤a.kind∧a.kind≤7) (hp:∃b∈s.az,b.number=a.jL):
  ∃W',HK [pd,.op ids 0,.agg (bG a)] W=some (.int .i64 (kg d s a).2,W')∧SA σ W' ids aV g (kg d s a).1:=by
 have alo:∀{r:AV→AV→AV→Heap→Option (AV×Heap)} {x y z v:AV} {σ σ':Heap},r x y z σ=some (v,σ')→A.wrap false [] .k (A.ko r) [x,y,z] σ=some (v,σ'):=by
  intro r x y z v σ σ' e
  exact Ni (gQ _) e
 suffices h:∃W',Ft pd (.op ids 0) (.agg (bG a)) W=some (.int .i64 (kg d s a).2,W')∧SA σ W' ids aV g (kg d s a).1 by
  obtain⟨W',e,h⟩:=h
  exact⟨W',alo e,h⟩
 have hbl:s.az.length≤aU:=by have:=hs.len;unfold aU;omega
 have ht:=hs.n.2
 have Km:∀(k:Nat) (W:Heap),A.deref (.rp ((bG a).drop k)) W=some ((bG a).drop k):=fun k W=>rfl
 unfold Ft kg
 rw[if_neg (by omega),if_neg (by omega)]
 rw[show((A.cells 5 (.agg (bG a))).bind fun cs=>some (AV.rp cs))=some (.rp (bG a))from rfl,bS]
 simp only[kX,bS,Km,show A.aj 0 ((bG a).drop 1)=some (.int .i64 a.kind)from rfl,show A.aj 0 ((bG a).drop 0)=some (.int .i64 a.time)from rfl,show A.aj 0 ((bG a).drop 4)=some (.int .i64 a.level)from rfl,gR,oq,FQ]
 rw[decide_eq_false (show ¬a.kind=8 by omega),cz,decide_eq_false (show ¬a.kind=9 by omega),cz]
 simp only[show A.aN (.op ids 0)=some (.op ids 0)from rfl,bS,show ∀o,A.aA o (.op ids 0)=some (.op ids o)from fun o=>by simp [A.aA],h.rdV]
 refine bex (agB h.b2 hbl a) ?_
 simp only[h.rdV,bS]
 obtain⟨i,b,e1,e2,e3⟩:∃(i:Nat) (b:bh),s.az[i]? =some b∧jI (fun b:bh=>decide (b.number=a.jL)) s.az=(i:Int)∧b∈s.az:=by
  rcases zY (fun b:bh=>decide (b.number=a.jL)) s.az with⟨_,q,_⟩|⟨i,b,q1,_,q2,_,_⟩
  ·obtain⟨b,hb,zH⟩:=hp
   have:=q b hb
   rw[decide_eq_true zH]at this;cases this
  ·exact⟨i,b,q1,q2,List.mem_of_getElem? q1⟩
 have hi:=(List.getElem?_eq_some_iff.1 e1).1
 rw[e2]
 simp only[Int.toNat_natCast]
 rw[e1]
 simp only
 rw[Ss hi,bS]
 have hB:=hs.bs b e3
 have hc:=hB.bZ
 have JR:b.bD.length≤aU:=hB.rI.1
 have fo:∀o,A.aA o (.oe aV g i 0)=some (.oe aV g i o):=fun o=>by simp [A.aA]
 have fo2:∀o,A.aA 0 (.oe aV g i o)=some (.oe aV g i o):=fun o=>by simp [A.aA]
 have fo3:∀o,A.aA o (.oe aV g i 0)=some (.oe aV g i o):=fun o=>by simp [A.aA]
 have c6:A.aj 0 ((aP b).drop 6)=some (.int .i64 b.bZ):=rfl
 have c5:A.aj 0 ((aP b).drop 5)=some (sl 11 aX b.bD):=rfl
 have c2:A.aj 0 ((aP b).drop 2)=some (.bool b.clock.lC):=rfl
 have c0:A.aj 0 ((aP b).drop 0)=some (.int .i64 b.clock.shown):=rfl
 have c03:A.ay 0 3 ((aP b).drop 0)=some (.agg (vB b.clock)):=rfl
 simp only[show A.aN (.oe aV g i 0)=some (.oe aV g i 0)from rfl,bS,fo,h.rdB e1,c6,c5,c2,c0,c03,gf]
 obtain⟨W1,n1,n2⟩:=h.num (IntKind.i64.wrap (s.number+1))
 have hs1:jq a.time {s with number:=IntKind.i64.wrap (s.number+1)}:=Mz hs _
 have go:∀(to:Nat) (x:aY),b.bD[to]? =some x→∃W',tc [pd,.op ids 0,.int .i64 (i:Int),.int .i64 (to:Int),.int .i64 a.time] W1=some (.aF [],W')∧SA σ W' ids aV g (uT d s i b (to:Int) a.time).1∧(uT d s i b (to:Int) a.time).2=0:=by
  intro to x hx
  obtain⟨W',q1,q2⟩:=n2.go hI hd hs1 (Int.le_refl _) ht e1 hx
  refine⟨W',q1,?_,?_⟩
  ·unfold uT;rw[Int.toNat_natCast,hx];exact q2
  ·unfold uT;rw[Int.toNat_natCast,hx]
 have no:((A.cell (AV.int .i64 (IntKind.i64.wrap (s.number+1)))).bind fun v=>some [v])=some [.int .i64 (IntKind.i64.wrap (s.number+1))]:=rfl
 unfold GG
 by_cases k1:a.kind=1
 ·rw[if_pos k1,decide_eq_true k1,cA,kU,bS,show IntKind.i64.wrap (b.bZ+1)=b.bZ+1 from wrap64 (by unfold aM;unfold aU at JR;omega),gR,bS]
  by_cases hz:b.bZ+1=(b.bD.length:Int)
  ·rw[decide_eq_true hz,cA,if_pos hz]
   exact⟨W,rfl,h⟩
  ·rw[decide_eq_false hz,cz,if_neg hz,h.zQ,bS,kU,bS,no,bS,n1,bS,su,bS,decide_eq_true (by omega),cA]
   obtain⟨to,hto⟩:∃to:Nat,b.bZ+1=(to:Int):=⟨(b.bZ+1).toNat,by omega⟩
   obtain⟨W',q1,q2,q3⟩:=go to _ (List.getElem?_eq_getElem (show to<b.bD.length by omega))
   rw[hto]
   simp only[q1,bS,q3]
   exact⟨W',rfl,q2⟩
 rw[if_neg k1,decide_eq_false k1,cz]
 by_cases k2:a.kind=2
 ·rw[if_pos k2,decide_eq_true k2,cA,oZ,bS,show IntKind.i64.wrap (b.bZ-1)=b.bZ-1 from wrap64 (by unfold aM;unfold aU at JR;omega),kV,bS]
  by_cases hz:b.bZ-1<0
  ·rw[decide_eq_true hz,cA,if_pos hz]
   exact⟨W,rfl,h⟩
  ·rw[decide_eq_false hz,cz,if_neg hz,h.zQ,bS,kU,bS,no,bS,n1,bS,su,bS,decide_eq_true (by omega),cA]
   obtain⟨to,hto⟩:∃to:Nat,b.bZ-1=(to:Int):=⟨(b.bZ-1).toNat,by omega⟩
   obtain⟨W',q1,q2,q3⟩:=go to _ (List.getElem?_eq_getElem (show to<b.bD.length by omega))
   rw[hto]
   simp only[q1,bS,q3]
   exact⟨W',rfl,q2⟩
 rw[if_neg k2,decide_eq_false k2,cz]
 by_cases k3:a.kind=3
 ·rw[if_pos k3,decide_eq_true k3,cA]
  have Un:Hv M4 [sl 11 aX b.bD,.fn 354 [.rp (bG a)]] W=some (.int .i64 (jI (fun c:aY=>decide (c.number=a.bZ)) b.bD),W):=acB M4 b.bD JR _ _ _ W (fun c _=>ahv c a W)
  refine bex Un ?_
  simp only
  rw[kV,bS]
  rcases zY (fun c:aY=>decide (c.number=a.bZ)) b.bD with⟨q,_,_⟩|⟨to,x,q1,_,q2,_,_⟩
  ·rw[q,decide_eq_true (by decide),cA,if_pos (by decide)]
   exact⟨W,rfl,h⟩
  ·rw[q2,decide_eq_false (by omega),cz,if_neg (by omega),h.zQ,bS,kU,bS,no,bS,n1,bS,su,bS,decide_eq_true (by omega),cA]
   obtain⟨W',g1,g2,g3⟩:=go to _ q1
   simp only[g1,bS,g3]
   exact⟨W',rfl,g2⟩
 rw[if_neg k3,decide_eq_false k3,cz]
 have TB:∀(o:Nat) (new:List AV) (b':bh),A.splice o new (aP b)=some (aP b')→∃W1 W2,A.storeAt (.oe aV g i o) new W=some W1∧((A.deref (.op ids 1) W1).bind fun c=>A.aj 0 c)=some (.int .i64 s.number)∧A.storeAt (.op ids 1) [.int .i64 (IntKind.i64.wrap (s.number+1))] W1=some W2∧SA σ W2 ids aV g (GR s i b'):=by
  intro o new b' hsp
  obtain⟨W1,w1,w2⟩:=h.put e1 hsp
  obtain⟨W2,w3,w4⟩:=w2.num (IntKind.i64.wrap (s.number+1))
  exact⟨W1,W2,w1,w2.zQ,w3,w4⟩
 by_cases k4:a.kind=4
 ·rw[if_pos k4,decide_eq_true k4,cA]
  by_cases hst:b.clock.lC=true
  ·rw[hst,if_pos (.inl rfl)]
   simp only[vZ,gU,bS,lq,cT]
   exact⟨W,rfl,h⟩
  have Jo:b.clock.lC=false:=by simpa using hst
  rw[Jo]
  simp only[gF,bS,show A.aN (.oe aV g i 0)=some (.oe aV g i 0)from rfl,fo,h.rdB e1,c6,nh,kV]
  by_cases hz:b.bZ<0
  ·rw[decide_eq_true hz,cA,if_pos (.inr hz)]
   exact⟨W,rfl,h⟩
  ·rw[decide_eq_false hz,cz,if_neg (fun q=>q.elim (fun q=>by cases q) hz),quiet_of (Nl _ _ W),bS,Zz,bS,QK,bS]
   obtain⟨W1',Jx,w1,w2,w3,w4⟩:=TB 0 _ _ (aaK b ⟨dc b.clock a.time,a.time,true⟩)
   rw[w1,bS,w2,bS,kU,bS,no,bS,w3,bS,su,bS,decide_eq_false (by decide),cz,bS]
   exact⟨Jx,rfl,w4⟩
 rw[if_neg k4,decide_eq_false k4,cz]
 by_cases k5:a.kind=5
 ·rw[if_pos k5,decide_eq_true k5,cA,sy,bS]
  by_cases hst:b.clock.lC=true
  case neg=>
   have Jo:b.clock.lC=false:=by simpa using hst
   rw[Jo,if_pos rfl]
   exact⟨W,rfl,h⟩
  ·rw[hst,if_neg (by simp),show(!true)=false from rfl,cz,Zz,bS,QK,bS]
   obtain⟨W1',Jx,w1,w2,w3,w4⟩:=TB 0 _ _ (aaK b ⟨b.clock.shown,a.time,false⟩)
   rw[w1,bS,w2,bS,kU,bS,no,bS,w3,bS,su,bS,decide_eq_false (by decide),cz,bS]
   exact⟨Jx,rfl,w4⟩
 rw[if_neg k5,decide_eq_false k5,cz]
 by_cases k6:a.kind=6
 ·rw[if_pos k6,decide_eq_true k6,cA,kV,bS]
  by_cases hz:b.bZ<0
  ·rw[decide_eq_true hz,cA,if_pos hz]
   exact⟨W,rfl,h⟩
  ·rw[decide_eq_false hz,cz,if_neg hz,h.zQ,bS,kU,bS,no,bS,n1,bS]
   obtain⟨W',q1,q2⟩:=n2.rel hd hs1 (Int.le_refl _) ht e1
   rw[q1,bS]
   exact⟨W',rfl,q2⟩
 rw[if_neg k6,decide_eq_false k6,cz,decide_eq_true (show a.kind=7 by omega),cA]
 obtain⟨W1',Jx,w1,w2,w3,w4⟩:=TB 7 _ _ (ajJ b a.level)
 rw[pV,bS,w1,bS,bS]
 simp only
 rw[w2,bS,kU,bS,no,bS,w3,bS,su,bS,decide_eq_false (by decide),cz,bS]
 exact⟨Jx,rfl,w4⟩
end
section
set_option maxRecDepth 100000
noncomputable def OL (a0:mq) (a1:fC):Option Bool:=
 some (decide (a0.number=a1.jL))
theorem adh {a0:mq} {a1:fC} {σ:Heap} {r:Bool} (h:OL a0 a1=some r):Hy [(AV.agg (cC a0)),(AV.rp (bG a1))] σ=some ((AV.bool r),σ):=by
 refine uc (f:=OK) (y0:=(AV.agg (cC a0))) (y1:=(AV.rp (bG a1))) (enc:=fun r:Bool=>(AV.bool r)) (T:=OL a0 a1) rfl rfl ?_ r h
 unfold OK OL
 refine au _ rfl<|au _ rfl<|au _ rfl<|au _ rfl<|au _ (gR _ _ _) ?_
 exact eE _ (br _ _) ⟨rfl,rfl⟩
noncomputable def Dg (a0:fC):Option Int:=
 if(!(aQ a0.kind 1 9))=true then
  some 4
 else
 if(((((decide (a0.kind=8))||(decide (a0.kind=9)))&&(decide (¬(a0.jL=0))))||((decide (¬(a0.kind=3)))&&(decide (¬(a0.bZ=0)))))||((!((((decide (a0.kind=8))||(decide (a0.kind=9)))||(decide (a0.kind=6)))||(decide (a0.kind=7))))&&(decide (¬(a0.level=0)))))=true then
  some 3
 else
 some 0
theorem adB {a0:fC} {σ:Heap} {r:Int} (h:Dg a0=some r):KV [(AV.agg (bG a0))] σ=some ((AV.int .i64 r),σ):=by
 refine yP (f:=OZ) (y0:=(AV.agg (bG a0))) (enc:=fun r:Int=>(AV.int .i64 r)) (T:=Dg a0) rfl rfl ?_ r h
 unfold OZ Dg
 refine au _ rfl<|au _ rfl<|au _ (jY a0.kind 1 9 σ)<|au _ rfl ?_
 refine jo (c:=(!(aQ a0.kind 1 9))) (fun c2=>?_) (fun c2=>?_)
 ·exact eE _ (br _ _) ⟨rfl,rfl⟩
 refine au _ rfl<|au _ (gR _ _ _)<|eF (AV.int .i64 a0.kind) (fun hg=>rfl)<|eF (AV.bool (decide (a0.kind=9))) (fun hg=>by(try rw[hg]);exact(gR _ _ _))<|au _ (pY _ _)<|eF (AV.int .i64 a0.kind) (fun hg=>rfl)<|eF (AV.bool (decide (a0.kind=6))) (fun hg=>by(try rw[hg]);exact(gR _ _ _))<|au _ (pY _ _)<|eF (AV.int .i64 a0.kind) (fun hg=>rfl)<|eF (AV.bool (decide (a0.kind=7))) (fun hg=>by(try rw[hg]);exact(gR _ _ _))<|au _ (pY _ _)<|dV (AV.int .i64 a0.jL) (fun hg=>rfl)<|dV (AV.bool (decide (¬(a0.jL=0)))) (fun hg=>by(try rw[hg]);exact(fI _ _ _))<|au _ (rV _ _)<|eF (AV.int .i64 a0.kind) (fun hg=>rfl)<|eF (AV.bool (decide (¬(a0.kind=3)))) (fun hg=>by(try rw[hg]);exact(fI _ _ _))<|eF (AV.bool (decide (¬(a0.kind=3)))) (fun hg=>by(try rw[hg]);exact rfl)<|Gs (AV.int .i64 a0.bZ) (fun hg=>rfl)<|Gs (AV.bool (decide (¬(a0.bZ=0)))) (fun hg=>by(try rw[hg]);exact(fI _ _ _))<|eF (AV.bool ((decide (¬(a0.kind=3)))&&(decide (¬(a0.bZ=0))))) (fun hg=>by(try rw[hg]);exact(rV _ _))<|au _ (pY _ _)<|eF (AV.bool ((((decide (a0.kind=8))||(decide (a0.kind=9)))||(decide (a0.kind=6)))||(decide (a0.kind=7)))) (fun hg=>rfl)<|eF (AV.bool (!((((decide (a0.kind=8))||(decide (a0.kind=9)))||(decide (a0.kind=6)))||(decide (a0.kind=7))))) (fun hg=>by(try rw[hg]);exact rfl)<|eF (AV.bool (!((((decide (a0.kind=8))||(decide (a0.kind=9)))||(decide (a0.kind=6)))||(decide (a0.kind=7))))) (fun hg=>by(try rw[hg]);exact rfl)<|Gs (AV.int .i64 a0.level) (fun hg=>rfl)<|Gs (AV.bool (decide (¬(a0.level=0)))) (fun hg=>by(try rw[hg]);exact(fI _ _ _))<|eF (AV.bool ((!((((decide (a0.kind=8))||(decide (a0.kind=9)))||(decide (a0.kind=6)))||(decide (a0.kind=7))))&&(decide (¬(a0.level=0))))) (fun hg=>by(try rw[hg]);exact(rV _ _))<|au _ (pY _ _) ?_
 refine jo (c:=(((((decide (a0.kind=8))||(decide (a0.kind=9)))&&(decide (¬(a0.jL=0))))||((decide (¬(a0.kind=3)))&&(decide (¬(a0.bZ=0)))))||((!((((decide (a0.kind=8))||(decide (a0.kind=9)))||(decide (a0.kind=6)))||(decide (a0.kind=7))))&&(decide (¬(a0.level=0)))))) (fun c1=>?_) (fun c1=>?_)
 ·exact eE _ (br _ _) ⟨rfl,rfl⟩
 exact eE _ (br _ _) ⟨rfl,rfl⟩
noncomputable def Dh (a0:gJ) (a1:fC):Option Int:=
 (if(!((decide (a1.kind=8))||(decide (a1.kind=9))))=true then tq (a0.bH.length≤aU) (a0.bH.any (fun x=>(decide (x.number=a1.jL))))else some default).bind fun r1=>
 if((!((decide (a1.kind=8))||(decide (a1.kind=9))))&&(!r1))=true then
  some 8
 else
 (show Option Int from
   if a1.kind=6 then
    some 36000000
   else
   (show Option Int from
     if a1.kind=9 then
      some 1
     else
     some 65535).bind fun j3=>
   some j3).bind fun j7=>
 some (if(!(aQ a1.level 0 j7))=true then 1 else 0)
theorem adC {a0:gJ} {a1:fC} {σ:Heap} {r:Int} (h:Dh a0 a1=some r):KW [(AV.agg (bl a0)),(AV.agg (bG a1))] σ=some ((AV.int .i64 r),σ):=by
 refine uc (f:=KX) (y0:=(AV.agg (bl a0))) (y1:=(AV.agg (bG a1))) (enc:=fun r:Int=>(AV.int .i64 r)) (T:=Dh a0 a1) rfl rfl ?_ r h
 unfold KX Dh
 refine au _ rfl<|au _ rfl<|au _ rfl<|au _ rfl<|au _ (gR _ _ _)<|eF (AV.rp (List.drop 1 (bG a1))) (fun hg=>rfl)<|eF (AV.int .i64 a1.kind) (fun hg=>by(try rw[hg]);exact rfl)<|eF (AV.bool (decide (a1.kind=9))) (fun hg=>by(try rw[hg]);exact(gR _ _ _))<|au _ (pY _ _)<|au _ rfl<|dV (sl 3 cC a0.bH) (fun hg=>rfl)<|dV (AV.fn 152 [(AV.rp (bG a1))]) (fun hg=>rfl) ?_
 refine zc (ω:=Bool) (fun r1=>(AV.bool r1)) (fun hg r1 jU=>by(try rw[hg]);exact(quiet_of ((vN (e:=fun r:Bool=>((AV.bool r),σ)) (fun hs=>acf _ a0.bH hs _ _ (fun x=>(decide (x.number=a1.jL))) σ (fun x hx=>adh (σ:=σ) (r:=(decide (x.number=a1.jL))) rfl))) jU))) (fun r1 jU=>?_)
 refine dV (AV.bool (!r1)) (fun hg=>by(try rw[hg]);exact rfl)<|au _ (rV _ _) ?_
 refine jo (c:=((!((decide (a1.kind=8))||(decide (a1.kind=9))))&&(!r1))) (fun dJ=>?_) (fun dJ=>?_)
 ·exact eE _ (br _ _) ⟨rfl,rfl⟩
 refine au _ rfl<|au _ rfl<|au _ (gR _ _ _) ?_
 refine NS (ω:=Int) (fun j7 a=>a=(([(AV.int .i64 j7)]:List AV),σ)) (
   by
    refine lP (p:=a1.kind=6) (fun c6=>?_) (fun c6=>?_)
    ·exact cD rfl
    refine au _ (gR _ _ _) ?_
    refine NS (ω:=Int) (fun j3 a=>a=(([(AV.int .i64 j3)]:List AV),σ)) (
      by
       refine lP (p:=a1.kind=9) (fun c2=>?_) (fun c2=>?_)
       ·exact cD rfl
       exact cD rfl
      ) (fun j3 a ha=>?_)
    subst ha
    exact cD rfl
   ) (fun j7 a ha=>?_)
 subst ha
 refine au _ rfl<|au _ rfl<|au _ (jY a1.level 0 j7 σ)<|au _ rfl<|au _ (tg (!(aQ a1.level 0 j7)) 1 σ) ?_
 exact eE _ (br _ _) ⟨rfl,rfl⟩
end
section
set_option maxRecDepth 100000
open HP
def iw (p:aB×cI):AV×AV:=(.agg (aL p.1),.agg (bU p.2))
abbrev gA (vb:AV) (bf:Nat) (va:AV) (d:bI):List AV:=[vb,.int .i64 d.state.number,.int .i64 d.state.mz,.bool d.state.black,sl 3 bP d.setup.aR.aS,sl 4 bB d.setup.aR.units,sl 3 dP d.setup.bJ,sl 2 dR d.setup.lists,sl 3 cC d.setup.bH,sl 2 aL d.keys,.om bf,va]
def lM (id:Nat) (vb:AV) (bf:Nat) (va:AV) (d:bI):HP:=blk id (.box (gA vb bf va d))*(Sl (fl aP) 10 vb d.state.az*(blk bf (.map ((d.params.getD []).map iw))*Sl (fl bG) 5 va d.actions))
def qR (pd:AV) (d:bI):HP:=ex fun x:Nat×AV×Nat×AV=>pr (pd=.op x.1 0∧d.params.isSome=true)*lM x.1 x.2.1 x.2.2.1 x.2.2.2 d
section
variable {B : aK → Prop} {aD σ : Heap} {R : HP} {pd : AV} {d : bI}
theorem Yo (H:Hs B aD σ (qR pd d*R)):∃id vb bf va,pd=.op id 0∧d.params.isSome=true∧Hs B aD σ (lM id vb bf va d*R):=by
 unfold qR at H
 rw[Np]at H
 obtain⟨⟨id,vb,bf,va⟩,H⟩:=H
 rw[tZ,nR]at H
 exact⟨id,vb,bf,va,H.1.1,H.1.2,H.2⟩
theorem F0 {id:Nat} {vb:AV} {bf:Nat} {va:AV} (hp:d.params.isSome=true) (H:Hs B aD σ (lM id vb bf va d*R)):Hs B aD σ (qR (.op id 0) d*R):=by
 unfold qR
 rw[Np]
 refine⟨⟨id,vb,bf,va⟩,?_⟩
 rw[tZ,nR]
 exact⟨⟨rfl,hp⟩,H⟩
theorem ZY {vb:AV} {l:List bh} (H:Hs B aD σ (Sl (fl aP) 10 vb l*R)):SG σ vb l:=by
 rcases yK H with⟨h1,h2,_⟩|⟨id,g,h1,K⟩
 ·exact .inl ⟨h1,h2⟩
 ·exact .inr ⟨id,g,h1,(iW K).2⟩
theorem MR (H:Hs B aD σ R) (ex:Heap):Hs bY aD (σ++ex) R:=alU (R1 H) ex (fun _ _=>trivial)
theorem Mt {W:Heap} {i:Nat} {b:aK} (H:Hs B aD σ R) (hW:∃ex,W=σ++ex) (hi:σ.length≤i) (hb:W[i]? =some b):Hs bY aD W (blk i b*R):=by
 obtain⟨ex,rfl⟩:=hW
 have hl:=aar H
 obtain⟨⟨bs,ng,_⟩,h,hr,h2⟩:=H
 refine⟨⟨bs++ex,by rw[ng,List.append_assoc],fun _ _=>trivial⟩,fun j=>if j=i then some b else h j,⟨fun j=>if j=i then some b else none,h,fun j=>rfl,hr,fun j=>?_,fun j=>?_⟩,fun j x hx=>?_⟩
 ·by_cases e:j=i
  ·right
   cases hj:h j with
   |none=>rfl
   |some x=>have:=(List.getElem?_eq_some_iff.1 (h2 j x hj).2).1;omega
  ·simp only[e,if_false,true_or]
 ·by_cases e:j=i<;>simp only[e,if_true,if_false,Option.or_some,Option.none_or,Option.some_or]
 ·by_cases e:j=i
  ·subst e
   simp only[if_true,Option.some.injEq]at hx
   subst hx
   exact⟨by omega,hb⟩
  ·simp only[e,if_false]at hx
   obtain⟨k1,k2⟩:=h2 j x hx
   exact⟨k1,by rw[List.getElem?_append_left (List.getElem?_eq_some_iff.1 k2).1];exact k2⟩
theorem ako {l:List (aB×cI)} {bf:Nat} (h:σ[bf]? =some (.map (l.map iw))) (d:Nat):A.bw σ 0 (d+1) (.om bf)=some (.fm (l.map iw)):=by
 simp only[A.bw,Nat.not_lt_zero,if_false,h]
 rw[MN d (fun p hp=>by obtain⟨q,_,rfl⟩:=List.mem_map.1 hp;exact⟨vE (yV _),vE (QO _)⟩)]
 rfl
theorem MS {id:Nat} {vb:AV} {bf:Nat} {va:AV} (hp:d.params.isSome=true) (H:Hs B aD σ (lM id vb bf va d*R)):Lt σ R9 (.op id 0) (.rp (pU d)):=by
 obtain⟨ps,hps⟩:=Option.isSome_iff_exists.1 hp
 unfold lM at H
 have H1:=hs_eq (show _=blk id (.box (gA vb bf va d))*(Sl (fl aP) 10 vb d.state.az*(blk bf (.map ((d.params.getD []).map iw))*Sl (fl bG) 5 va d.actions)*R) by ac_rfl) H
 have H2:=hs_eq (show _=Sl (fl aP) 10 vb d.state.az*(blk id (.box (gA vb bf va d))*(blk bf (.map ((d.params.getD []).map iw))*Sl (fl bG) 5 va d.actions)*R) by ac_rfl) H
 have H3:=hs_eq (show _=blk bf (.map ((d.params.getD []).map iw))*(Sl (fl aP) 10 vb d.state.az*blk id (.box (gA vb bf va d))*Sl (fl bG) 5 va d.actions*R) by ac_rfl) H
 have H4:=hs_eq (show _=Sl (fl bG) 5 va d.actions*(Sl (fl aP) 10 vb d.state.az*blk id (.box (gA vb bf va d))*blk bf (.map ((d.params.getD []).map iw))*R) by ac_rfl) H
 obtain⟨rJ,b1,b2,b3⟩:=IN H2 Du (Nat.zero_le _) 6
 obtain⟨BJ,a1,a2,a3⟩:=IN H4 WQ (Nat.zero_le _) 6
 have hm:=ako (iW H3).2 6
 rw[hps,Option.getD_some]at hm
 have hg:=(iW H1).2
 refine⟨⟨.rp [rJ,.int .i64 d.state.number,.int .i64 d.state.mz,.bool d.state.black,sl 3 bP d.setup.aR.aS,sl 4 bB d.setup.aR.units,sl 3 dP d.setup.bJ,sl 2 dR d.setup.lists,sl 3 cC d.setup.bH,sl 2 aL d.keys,.fm (ps.map iw),BJ],?_,?_,?_⟩,rfl,fun h=>by cases h⟩
 ·simp only[A.bw,Nat.not_lt_zero,if_false,hg,List.drop_zero,gA,A.uj,b1,a1,hm,pW afG _ σ 0 7,pW Re _ σ 0 7,pW WR _ σ 0 7,pW ai9 _ σ 0 7,pW PL _ σ 0 7,pW yV _ σ 0 7,Option.bind_some,Option.map_some]
 ·rfl
 ·show AV.rp (A.bT CV _)=AV.rp (A.bT CV (pU d))
  congr 1
  unfold pU
  rw[hps]
  simp only[A.bT,b3,a3]
  rfl
theorem ZS {id:Nat} {vb:AV} {bf:Nat} {va:AV} (hp:d.params.isSome=true) (H:Hs B aD σ (lM id vb bf va d*R)):sG (.op id 0) d σ:=by
 have K:∀ex,Hs bY aD (σ++ex) (lM id vb bf va d*R):=fun ex=>MR H ex
 have hg:∀ex,(σ++ex)[id]? =some (.box (gA vb bf va d)):=fun ex=>(iW (hs_eq (show _=blk id (.box (gA vb bf va d))*(Sl (fl aP) 10 vb d.state.az*(blk bf (.map ((d.params.getD []).map iw))*Sl (fl bG) 5 va d.actions)*R) by unfold lM;ac_rfl) (K ex))).2
 have hm:∀ex,(σ++ex)[bf]? =some (.map ((d.params.getD []).map iw)):=fun ex=>(iW (hs_eq (show _=blk bf (.map ((d.params.getD []).map iw))*(Sl (fl aP) 10 vb d.state.az*blk id (.box (gA vb bf va d))*Sl (fl bG) 5 va d.actions*R) by unfold lM;ac_rfl) (K ex))).2
 refine⟨rfl,⟨.op id 4,.op id 6,by simp [A.aA],by simp [A.aA],fun ex=>?_⟩,⟨.op id 10,.om bf,by simp [A.aA],fun ex=>⟨?_,fun k=>?_⟩⟩,fun ex=>MS hp (K ex)⟩
 ·simp only[A.deref,hg ex];rfl
 ·simp only[A.deref,hg ex];rfl
 ·simp only[A.look,show A.jB (.s [0,2]) (.agg (aL k))=true from rfl,cond_true,A.entries,hm ex,Option.bind_some,show A.find (.s [0,2]) (.agg (aL k)) ((d.params.getD []).map iw)=some ((bM k (d.params.getD [])).map fun p=>AV.agg (bU p))from Cf (eK:=fun k=>AV.agg (aL k)) (eV:=fun p=>AV.agg (bU p)) pM k _,Option.map_some]
  unfold jv
  cases bM k (d.params.getD [])<;>rfl
end
noncomputable def Gd (a:fC):Int:=(Dg a).getD 0
noncomputable def GW (s:gJ) (a:fC):Int:=(Dh s a).getD 0
theorem Yw (a:fC):Dg a=some (Gd a):=by
 unfold Gd Dg
 split
 ·rfl
 split<;>rfl
theorem YX {s:gJ} (hl:s.bH.length≤aU) (a:fC):Dh s a=some (GW s a):=by
 unfold GW Dh
 rw[uf hl]
 have:∀(c:Bool) (x y:Bool),∃r,(if c=true then some x else some y:Option Bool)=some r:=by intro c x y;cases c<;>exact⟨_,rfl⟩
 obtain⟨r,hr⟩:=this (!((decide (a.kind=8))||(decide (a.kind=9)))) (s.bH.any (fun x=>(decide (x.number=a.jL)))) default
 rw[hr,Option.bind_some]
 split
 ·rfl
 ·split
  ·rfl
  ·split<;>rfl
theorem Z6 {s:gJ} (hl:s.bH.length≤aU) {a:fC} (h1:Gd a=0) (h2:GW s a=0):(1≤a.kind∧a.kind≤9)∧(a.kind≤7→∃p∈s.bH,p.number=a.jL)∧(a.kind≠6→0≤a.level∧a.level≤65535)∧0≤a.level∧a.level≤36000000:=by
 have e1:=Yw a
 have e2:=YX hl a
 rw[h1]at e1
 rw[h2]at e2
 unfold Dg at e1
 split at e1
 ·cases e1
 rename_i k1
 have hk:1≤a.kind∧a.kind≤9:=oU (by simpa using k1)
 unfold Dh at e2
 rw[uf hl]at e2
 have aom:a.kind≤7→∃p∈s.bH,p.number=a.jL:=by
  intro h
  rw[decide_eq_false (show ¬a.kind=8 by omega),decide_eq_false (show ¬a.kind=9 by omega)]at e2
  simp only[Bool.or_false,Bool.not_false,if_true,Option.bind_some,Bool.true_and]at e2
  by_cases q:s.bH.any (fun x=>decide (x.number=a.jL))=true
  ·obtain⟨p,hp,hp2⟩:=List.any_eq_true.1 q
   exact⟨p,hp,by simpa using hp2⟩
  ·rw[if_pos (by simpa using q)]at e2
   cases e2
 refine⟨hk,aom,?_⟩
 have:∀(c:Bool) (x y:Bool),∃r,(if c=true then some x else some y:Option Bool)=some r:=by intro c x y;cases c<;>exact⟨_,rfl⟩
 obtain⟨r,hr⟩:=this (!((decide (a.kind=8))||(decide (a.kind=9)))) (s.bH.any (fun x=>(decide (x.number=a.jL)))) default
 rw[hr,Option.bind_some]at e2
 split at e2
 ·cases e2
 by_cases k6:a.kind=6
 ·rw[if_pos k6]at e2
  simp only[Option.bind_some]at e2
  by_cases q:aQ a.level 0 36000000=true
  ·have:=oU q
   exact⟨fun h=>absurd k6 h,this.1,this.2⟩
  ·rw[if_pos (by simpa using q)]at e2;cases e2
 ·rw[if_neg k6]at e2
  by_cases k9:a.kind=9
  ·rw[if_pos k9]at e2
   simp only[Option.bind_some]at e2
   by_cases q:aQ a.level 0 1=true
   ·have:=oU q
    exact⟨fun _=>⟨this.1,by omega⟩,this.1,by omega⟩
   ·rw[if_pos (by simpa using q)]at e2;cases e2
  ·rw[if_neg k9]at e2
   simp only[Option.bind_some]at e2
   by_cases q:aQ a.level 0 65535=true
   ·have:=oU q
    exact⟨fun _=>⟨this.1,by omega⟩,this.1,by omega⟩
   ·rw[if_pos (by simpa using q)]at e2;cases e2
noncomputable def ED (d:bI) (a:fC):Int:=
 ([(([(if decide ((d.actions.length:Int)=5000)=true then 2 else 0),Gd a,(if(!(aQ a.time 0 36000000))=true then 1 else 0),(if decide (a.time<qT d.actions)=true then 7 else 0)]:List Int).find? fun n=>decide (¬n=0)).getD 0,GW d.setup a].find? fun n=>decide (¬n=0)).getD 0
noncomputable def qt (d:bI) (a:fC):bI×Int:=
 if ¬(ED d a=0)then(d,ED d a)
 else if ¬((kg d (kS d d.state a.time) a).2=0)then(d,(kg d (kS d d.state a.time) a).2)
 else({d with state:=(kg d (kS d d.state a.time) a).1,actions:=d.actions++[a]},0)
theorem Zv {a b:Int} (h:(([a,b]:List Int).find? fun n=>decide (¬n=0)).getD 0=0):a=0∧b=0:=by
 by_cases ha:a=0
 ·by_cases hb:b=0
  ·exact⟨ha,hb⟩
  ·simp [List.find?,ha,hb]at h
 ·simp [List.find?,ha]at h
theorem akj {a b c e:Int} (h:(([a,b,c,e]:List Int).find? fun n=>decide (¬n=0)).getD 0=0):a=0∧b=0∧c=0∧e=0:=by
 by_cases ha:a=0
 ·by_cases hb:b=0
  ·by_cases hc:c=0
   ·by_cases he:e=0
    ·exact⟨ha,hb,hc,he⟩
    ·simp [List.find?,ha,hb,hc,he]at h
   ·simp [List.find?,ha,hb,hc]at h
  ·simp [List.find?,ha,hb]at h
 ·simp [List.find?,ha]at h
theorem aae {d:bI} {a:fC} (h:ED d a=0):¬((d.actions.length:Int)=5000)∧Gd a=0∧(0≤a.time∧a.time≤36000000)∧qT d.actions≤a.time∧GW d.setup a=0:=by
 obtain⟨h1,h2⟩:=Zv h
 obtain⟨k1,k2,k3,k4⟩:=akj h1
 refine⟨fun q=>?_,k2,?_,?_,h2⟩
 ·rw[decide_eq_true q,if_pos rfl]at k1;cases k1
 ·by_cases q:aQ a.time 0 36000000=true
  ·exact oU q
  ·rw[if_pos (by simpa using q)]at k3;cases k3
 ·by_cases q:a.time<qT d.actions
  ·rw[decide_eq_true q,if_pos rfl]at k4;cases k4
  ·omega
structure zo (d : bI) : Prop where
 di:uv d
 si:jq (qT d.actions) d.state
 Ty:d.state.az.map (·.number)=d.setup.bH.map (·.number)
 len:d.actions.length≤5000
 par:d.params.isSome=true
theorem zo.pl {d:bI} (h:zo d):d.setup.bH.length≤aU:=by
 have e:=congrArg List.length h.Ty
 simp only[List.length_map]at e
 have:=h.si.len
 unfold aU;omega
theorem My {l:List bh} {i:Nat} {b b':bh} (h:l[i]? =some b) (e:b'.number=b.number):(l.set i b').map (·.number)=l.map (·.number):=by
 rw[List.map_set]
 refine List.ext_getElem? fun j=>?_
 rw[List.getElem?_set]
 split
 ·rename_i q
  have hl:=(List.getElem?_eq_some_iff.1 h).1
  rw[if_pos (by simpa [←q]using hl),List.getElem?_map,←q,h,Option.map_some,e]
 ·rfl
theorem aia {d:bI} {t:Int} {s s':bW} (h:zj d t s=some s'):s'.az.map (·.number)=s.az.map (·.number):=by
 unfold zj at h
 split at h
 ·cases h
 obtain⟨b,hb,h⟩:=Option.bind_eq_some_iff.1 h
 obtain⟨x,hx,rfl⟩:=Option.map_eq_some_iff.1 h
 exact My hb rfl
theorem Wd {d:bI} {t:Int}:∀(n:Nat) (s:bW),(yY d t n s).az.map (·.number)=s.az.map (·.number)
 |0,s=>rfl
 |n+1,s=>by
  unfold yY
  cases h:zj d t s with
  |none=>rfl
  |some s'=>simp only;rw[Wd n s',aia h]
theorem WA (d:bI) (s:bW) (t:Int):(kS d s t).az.map (·.number)=s.az.map (·.number):=Wd _ s
theorem ahI:pP ⟨1,[]⟩=0:=by decide
theorem ajW {d:bI} (hI:uv d) {s:bW} {a:fC} (hs:jq a.time s) (hk:1≤a.kind∧a.kind≤9) (hl:a.kind≠6→0≤a.level∧a.level≤65535) (uX:0≤a.level∧a.level≤36000000):jq a.time (kg d s a).1∧(kg d s a).1.az.map (·.number)=s.az.map (·.number):=by
 have ht:=hs.n
 unfold kg
 by_cases k8:a.kind=8
 ·rw[if_pos k8];exact⟨⟨hs.n,hs.len,hs.bs,hl (by omega)⟩,rfl⟩
 rw[if_neg k8]
 by_cases k9:a.kind=9
 ·rw[if_pos k9];exact⟨⟨hs.n,hs.len,hs.bs,hs.mz⟩,rfl⟩
 rw[if_neg k9]
 generalize (jI (fun b:bh=>decide (b.number=a.jL)) s.az).toNat=i
 cases hb:s.az[i]? with
 |none=>exact⟨hs,rfl⟩
 |some b=>
  simp only
  have wg:=List.mem_of_getElem? hb
  have hB:=hs.bs b wg
  have fT:=DF hB.qq (Int.le_refl _) ht.2
  have put:∀b':bh,uu a.time b'→b'.number=b.number→jq a.time (GR s i b')∧(GR s i b').az.map (·.number)=s.az.map (·.number):=fun b' h1 h2=>⟨MA hs i h1 _,My hb h2⟩
  have go:∀to:Int,0≤to→jq a.time (uT d s i b to a.time).1∧(uT d s i b to a.time).1.az.map (·.number)=s.az.map (·.number):=by
   intro to h0
   unfold uT
   cases hx:b.bD[to.toNat]? with
   |none=>exact⟨hs,rfl⟩
   |some x=>
    have e:to=((to.toNat:Nat):Int):=by omega
    have:=Rz hI (Mz hs (IntKind.i64.wrap (s.number+1))) (Int.le_refl _) ht.2 wg hx
    rw[←e]at this
    exact⟨MA hs i this _,My hb rfl⟩
  have aqr:=hB.bZ
  unfold GG
  split
  ·split
   ·exact⟨hs,rfl⟩
   ·exact go _ (by omega)
  split
  ·split
   ·exact⟨hs,rfl⟩
   ·exact go _ (by omega)
  split
  ·split
   ·exact⟨hs,rfl⟩
   ·exact go _ (by omega)
  split
  ·split
   ·exact⟨hs,rfl⟩
   ·refine put _ ⟨hB.rI,hB.dD,hB.can,hB.runs,hB.iX,⟨fT.2.1,fT.2.2,Int.le_refl _⟩,hB.bZ,?_⟩ rfl
    rcases hB.CX with h|⟨h1,h2,h3⟩
    ·exact .inl h
    ·exact .inr ⟨h1,h2,h3⟩
  split
  ·split
   ·exact⟨hs,rfl⟩
   ·rename_i hst
    have Jo:b.clock.lC=true:=by simpa using hst
    obtain⟨c1,c2,c3⟩:=hB.qq
    refine put _ ⟨hB.rI,hB.dD,hB.can,hB.runs,hB.iX,⟨c1,by show b.clock.shown≤a.time;omega,Int.le_refl _⟩,hB.bZ,?_⟩ rfl
    rcases hB.CX with h|⟨h1,h2,h3⟩
    ·exact .inl h
    ·refine .inr ⟨h1,?_,h3⟩
     rw[fT.1,if_pos Jo]at h2
     show IntKind.i64.wrap (IntKind.i64.wrap (b.clock.shown+a.time) -a.time)≤b.follow
     rw[show IntKind.i64.wrap (b.clock.shown+a.time)=b.clock.shown+a.time from wrap64 (by unfold aM;omega),wrap64 (by unfold aM;omega)]
     omega
  split
  ·split
   ·exact⟨hs,rfl⟩
   ·refine⟨MA hs i (b:=tG d {s with number:=IntKind.i64.wrap (s.number+1)} b a) ⟨hB.rI,hB.dD,Yk (Mf (WD hB)),fun k r hkr=>?_,hB.iX,⟨fT.2.1,fT.2.2,Int.le_refl _⟩,⟨by show(-1:Int)≤-1;omega,by show(-1:Int)<_;omega⟩,.inl (by show(-1:Int)<0;decide)⟩ _,My hb rfl⟩
    have hm:(k,r)∈ID d {s with number:=IntKind.i64.wrap (s.number+1)} b a:=(LZ _).mem_iff.1 hkr
    obtain⟨p,hp,q⟩:=List.mem_filterMap.1 hm
    obtain⟨r',hr',q⟩:=Option.map_eq_some_iff.1 q
    injection q with q1 q2
    subst q2
    unfold zb at hr'
    split at hr'
    ·cases hr'
    ·rename_i hq
     injection hr' with hr'
     subst hr'
     have me:(dw b p.1 (dc b.clock a.time)).2=true:=by
      cases h:(dw b p.1 (dc b.clock a.time)).2
      ·exact absurd (.inl h) hq
      ·rfl
     have hfo:=An (hB.ok (Int.le_refl _) ht.2) me
     exact MK (Gq hfo _) (by simp) ⟨fT.2.1,by show dc b.clock a.time≤_;omega⟩ (by simp) uX ahI
  ·exact put _ ⟨hB.rI,hB.dD,hB.can,hB.runs,hl (by assumption),hB.qq,hB.bZ,hB.CX⟩ rfl
theorem alI {d:bI} (h:zo d) (a:fC):zo (qt d a).1:=by
 unfold qt
 split
 ·exact h
 rename_i h0
 have h0:ED d a=0:=by simpa using h0
 obtain⟨k1,k2,k3,k4,k5⟩:=aae h0
 obtain⟨a1,a2,a3,a4⟩:=Z6 h.pl k2 k5
 split
 ·exact h
 ·have hA:=QF h.di h.si k4 k3.2
  obtain⟨b1,b2⟩:=ajW h.di hA a1 a3 a4
  refine⟨⟨h.di.pre,h.di.lev,h.di.par⟩,?_,?_,?_,h.par⟩
  ·have:qT (d.actions++[a])=a.time:=by unfold qT;simp
   show jq (qT (d.actions++[a])) _
   rw[this];exact b1
  ·show(kg d (kS d d.state a.time) a).1.az.map (·.number)=_
   rw[b2,WA];exact h.Ty
  ·show(d.actions++[a]).length≤5000
   rw[List.length_append,List.length_singleton]
   exact Nat.lt_of_le_of_ne h.len (fun q=>k1 (by rw[q];rfl))
end
section
set_option maxRecDepth 100000
open HP
section
variable {aD σ : Heap} {R : HP} {pd : AV} {d : bI}
theorem aoR (a b c e:Int):((((A.cell (.int .i64 a)).bind fun v=>some [v]).bind fun jQ=>(A.splice 0 jQ [ah,ah,ah,ah]).bind fun iJ=>((A.cell (.int .i64 b)).bind fun v=>some [v]).bind fun i7=>(A.splice 1 i7 iJ).bind fun gB=>((A.cell (.int .i64 c)).bind fun v=>some [v]).bind fun fk=>(A.splice 2 fk gB).bind fun iy=>((A.cell (.int .i64 e)).bind fun v=>some [v]).bind fun iK=>(A.splice 3 iK iy).bind fun fW=>some fW).bind fun cs=>some (AV.sl 1 (chunks 1 4 cs)))=some (sl 1 qW [a,b,c,e]):=rfl
theorem abf (a b:Int):((((A.cell (.int .i64 a)).bind fun v=>some [v]).bind fun gC=>(A.splice 0 gC [ah,ah]).bind fun gD=>((A.cell (.int .i64 b)).bind fun v=>some [v]).bind fun fJ=>(A.splice 1 fJ gD).bind fun jS=>some jS).bind fun cs=>some (AV.sl 1 (chunks 1 2 cs)))=some (sl 1 qW [a,b]):=rfl
theorem ag5 (a:fC):(((A.cells 5 (.agg (bG a))).bind fun Bj=>(A.splice 0 Bj [ah,ah,ah,ah,ah]).bind fun l6=>some l6).bind fun cs=>some (AV.sl 5 (chunks 5 1 cs)))=some (.sl 5 [bG a]):=rfl
theorem Z2 {r:AV→AV→Heap→Option (AV×Heap)} {x y v:AV} {σ σ':Heap} (e:r x y σ=some (v,σ')):A.wrap false [] .k (A.bQ r) [x,y] σ=some (v,σ'):=by
 have:A.bQ r [x,y] σ=some (v,σ'):=e
 simp only[A.wrap,Bool.false_and,cond_false,A.bT,this,Option.map_some,gQ]
theorem RU {α:Type} {c:α→List AV} {sz:Nat} {B:aK→Prop} {v:AV} {l:List α} (H:Hs B aD σ (Sl (fl c) sz v l*R)):A.cell v=some v:=by
 rcases yK H with⟨_,rfl|rfl,_⟩|⟨id,g,rfl,_⟩<;>rfl
theorem alx {id:Nat} {vb:AV} {bf:Nat} {va:AV} (hp:d.params.isSome=true) (hl:d.actions.length≤aU) (H:Hs bY aD σ (lM id vb bf va d*R)):Fp [.op id 0] σ=some (.int .i64 (qT d.actions),σ):=
 CR (cO:=[.op id 0]) (ts:=[.rp (pU d)]) ⟨MS hp H,trivial⟩ (fun σ=>Z5 d hl σ) rfl
theorem aaa {id:Nat} {vb:AV} {bf:Nat} {va:AV} {B:aK→Prop} (H:Hs B aD σ (lM id vb bf va d*R)):σ[id]? =some (.box (gA vb bf va d)):=
 (iW (hs_eq (show _=blk id (.box (gA vb bf va d))*(Sl (fl aP) 10 vb d.state.az*(blk bf (.map ((d.params.getD []).map iw))*Sl (fl bG) 5 va d.actions)*R) by unfold lM;ac_rfl) H)).2
theorem RT {s:bW} {v:AV} {H:Heap} (h:Gu σ s v H):(∃ex,H=σ++ex)∧A.storeAt (.op H.length 0) (bA v s) (H++[aK.box tJ])=some (H++[aK.box (bA v s)])∧(H++[aK.box (bA v s)])[H.length]? =some (.box (bA v s))∧((s.az=[]∧v=.ez)∨∃g,v=.os (σ.length+1) g 10 0 s.az.length∧SA σ (H++[aK.box (bA v s)]) H.length (σ.length+1) g s):=by
 obtain⟨⟨ex,hex⟩,_⟩:=h.ex
 have hlen:σ.length≤H.length:=by rw[hex];simp
 have G0:(H++[aK.box tJ])[H.length]? =some (.box tJ):=by rw[List.getElem?_append_right (Nat.le_refl _),Nat.sub_self];rfl
 have G1:(H++[aK.box (bA v s)])[H.length]? =some (.box (bA v s)):=by rw[List.getElem?_append_right (Nat.le_refl _),Nat.sub_self];rfl
 refine⟨⟨ex,hex⟩,?_,G1,?_⟩
 ·simp only[A.storeAt,G0]
  rw[show A.splice 0 (bA v s) tJ=some (bA v s)from rfl,Option.map_some,List.set_append_right _ _ (Nat.le_refl _),Nat.sub_self]
  rfl
 ·rcases h with⟨h1,h2,h3⟩|⟨g,h1,h2⟩
  ·exact .inl ⟨h1,h2⟩
  ·refine .inr ⟨g,h1,⟨by rw[←h1];exact G1,?_,⟨ex++[aK.box (bA v s)],by rw[hex,List.append_assoc]⟩,hlen,Nat.le_succ _⟩⟩
   have hl:σ.length+1<H.length:=by rw[h2];simp
   rw[List.getElem?_append_left hl,h2]
   exact Nj σ g s
theorem ajV {d:bI} {pd:AV} (hI:uv d) {σ H:Heap} (hd:sG pd d σ) {s:bW} {v:AV} (h:Gu σ s v H) {a:fC} (hs:jq a.time s) (hk:1≤a.kind∧a.kind≤9) (hp:a.kind≤7→∃b∈s.az,b.number=a.jL):
  ∃W',HK [pd,.op H.length 0,.agg (bG a)] (H++[aK.box (bA v s)])=some (.int .i64 (kg d s a).2,W')∧(∃ex,W'=σ++ex)∧W'[H.length]? =some (.box (bA v (kg d s a).1))∧((((kg d s a).1).az=[]∧v=.ez)∨∃g,v=.os (σ.length+1) g 10 0 (kg d s a).1.az.length∧W'[σ.length+1]? =some (.arr g 10 ((kg d s a).1.az.map aP))):=by
 obtain⟨hex,_,G1,hc⟩:=RT h
 have Jk:∃ex,H++[aK.box (bA v s)]=σ++ex:=by obtain⟨ex,rfl⟩:=hex;exact⟨_,List.append_assoc _ _ _⟩
 have hlen:σ.length≤H.length:=by obtain⟨ex,rfl⟩:=hex;simp
 by_cases k7:a.kind≤7
 ·rcases hc with⟨h1,h2⟩|⟨g,h1,xZ⟩
  ·obtain⟨b,hb,_⟩:=hp k7
   rw[h1]at hb;cases hb
  ·obtain⟨W',w1,w2⟩:=amv hI hd xZ hs ⟨hk.1,k7⟩ (hp k7)
   have hle:(kg d s a).1.az.length=s.az.length:=by
    have:=w2.b1
    have e:∀l1 l2:List bh,l1.map (·.number)=l2.map (·.number)→l1.length=l2.length:=fun l1 l2 h=>by simpa using congrArg List.length h
    unfold kg
    rw[if_neg (by omega),if_neg (by omega)]
    generalize (jI (fun b:bh=>decide (b.number=a.jL)) s.az).toNat=i
    cases hb:s.az[i]? with
    |none=>rfl
    |some b=>
     simp only
     have hgo:∀to,(uT d s i b to a.time).1.az.length=s.az.length:=by
      intro to;unfold uT;cases b.bD[to.toNat]? <;>simp
     unfold GG
     repeat (first|rfl|exact hgo _|exact List.length_set|split)
   refine⟨W',w1,w2.ex,?_,.inr ⟨g,by rw[hle];exact h1,w2.b2⟩⟩
   rw[w2.b1,hle,←h1]
 ·have zQ:((A.deref (.op H.length 1) (H++[aK.box (bA v s)])).bind fun c=>A.aj 0 c)=some (.int .i64 s.number):=by simp only[A.deref,G1];rfl
  have Km:∀(k:Nat) (W:Heap),A.deref (.rp ((bG a).drop k)) W=some ((bG a).drop k):=fun k W=>rfl
  obtain⟨W0,C0⟩:∃W0,W0=H++[aK.box (bA v s)]:=⟨_,rfl⟩
  have hHl:H.length<W0.length:=by rw[C0];simp
  rw[←C0]at zQ G1 Jk ⊢
  have st:∀(s1 s2:bW) (o:Nat) (new:List AV),A.splice o new (bA v s1)=some (bA v s2)→A.storeAt (.op H.length o) new (W0.set H.length (.box (bA v s1)))=some (W0.set H.length (.box (bA v s2))):=by
   intro s1 s2 o new hsp
   simp only[A.storeAt,List.getElem?_set_self hHl,hsp,Option.map_some,List.set_set]
  have st0:A.storeAt (.op H.length 1) [.int .i64 (IntKind.i64.wrap (s.number+1))] W0=some (W0.set H.length (.box (bA v {s with number:=IntKind.i64.wrap (s.number+1)}))):=by
   simp only[A.storeAt,G1];rfl
  have fin:∀s':bW,s'.az=s.az→(∃ex,W0.set H.length (.box (bA v s'))=σ++ex)∧(W0.set H.length (.box (bA v s')))[H.length]? =some (.box (bA v s'))∧((s'.az=[]∧v=.ez)∨∃g,v=.os (σ.length+1) g 10 0 s'.az.length∧(W0.set H.length (.box (bA v s')))[σ.length+1]? =some (.arr g 10 (s'.az.map aP))):=by
   intro s' hs'
   refine⟨RY Jk hlen _,List.getElem?_set_self hHl,?_⟩
   rcases hc with⟨h1,h2⟩|⟨g,h1,xZ⟩
   ·exact .inl ⟨by rw[hs'];exact h1,h2⟩
   ·rw[←C0]at xZ
    refine .inr ⟨g,by rw[hs'];exact h1,?_⟩
    rw[List.getElem?_set_ne xZ.ne,hs']
    exact xZ.b2
  have run:∃W',Ft pd (.op H.length 0) (.agg (bG a)) W0=some (.int .i64 (kg d s a).2,W')∧W'=W0.set H.length (.box (bA v (kg d s a).1))∧(kg d s a).1.az=s.az:=by
   unfold Ft kg
   rw[show((A.cells 5 (.agg (bG a))).bind fun cs=>some (AV.rp cs))=some (.rp (bG a))from rfl,bS]
   simp only[kX,bS,Km,show A.aj 0 ((bG a).drop 1)=some (.int .i64 a.kind)from rfl,show A.aj 0 ((bG a).drop 4)=some (.int .i64 a.level)from rfl,gR,show A.aN (.op H.length 0)=some (.op H.length 0)from rfl,show ∀o,A.aA o (.op H.length 0)=some (.op H.length o)from fun o=>by simp [A.aA],zQ,kU]
   by_cases k8:a.kind=8
   ·rw[if_pos k8,decide_eq_true k8,cA,pV,bS,st0,bS,pV,bS,st _ {s with number:=IntKind.i64.wrap (s.number+1),mz:=a.level} 2 _ rfl,bS]
    exact⟨_,rfl,rfl,rfl⟩
   ·have k9:a.kind=9:=by omega
    rw[if_neg k8,decide_eq_false k8,cz,if_pos k9,decide_eq_true k9,cA,pV,bS,st0,bS,show((A.cell (AV.bool (decide (a.level=1)))).bind fun v=>some [v])=some [.bool (decide (a.level=1))]from rfl,bS,st _ {s with number:=IntKind.i64.wrap (s.number+1),black:=decide (a.level=1)} 3 _ rfl,bS]
    exact⟨_,rfl,rfl,rfl⟩
  obtain⟨W',e1,e2,e3⟩:=run
  subst e2
  exact⟨_,Ni (gQ _) e1,fin _ e3⟩
theorem ane (hK:zo d) (a:fC) (H:Hs bY aD σ (qR pd d*R)):∃σ',Fy [pd,.agg (bG a)] σ=some (.int .i64 (qt d a).2,σ')∧Hs bY aD σ' (qR pd (qt d a).1*R):=by
 suffices h:∃σ',Li pd (.agg (bG a)) σ=some (.int .i64 (qt d a).2,σ')∧Hs bY aD σ' (qR pd (qt d a).1*R) by
  obtain⟨σ',e,h⟩:=h
  exact⟨σ',Z2 e,h⟩
 obtain⟨id,vb,bf,va,rfl,hp,H⟩:=Yo H
 have ou:=aaa H
 have abD:=(List.getElem?_eq_some_iff.1 ou).1
 have He:d.actions.length≤aU:=by have:=hK.len;unfold aU;omega
 have tP:=hs_eq (show _=Sl (fl bG) 5 va d.actions*(Sl (fl aP) 10 vb d.state.az*blk id (.box (gA vb bf va d))*blk bf (.map ((d.params.getD []).map iw))*R) by unfold lM;ac_rfl) H
 have N9:=hs_eq (show _=Sl (fl aP) 10 vb d.state.az*(blk id (.box (gA vb bf va d))*(blk bf (.map ((d.params.getD []).map iw))*Sl (fl bG) 5 va d.actions)*R) by unfold lM;ac_rfl) H
 have ca:=RU tP
 have cb:=RU N9
 unfold Li
 rw[show A.cells 5 (.agg (bG a))=some (bG a)from rfl,bS]
 simp only[show A.aN (.op id 0)=some (.op id 0)from rfl,bS,show ∀o,A.aA o (.op id 0)=some (.op id o)from fun o=>by simp [A.aA]]
 rw[show((A.deref (.op id 11) σ).bind fun c=>A.aj 0 c)=some va from by simp only[A.deref,ou];exact ca,bS,amh tP,bS,gR,bS,quiet_of (tg _ _ σ),bS,FQ,bS,quiet_of (adB (Yw a)),bS,afh,bS,quiet_of (YG _ σ),bS,sy,bS,quiet_of (tg _ _ σ),bS,bS,quiet_of (alx hp He H),bS,kV,bS,quiet_of (tg _ _ σ),bS,aoR,bS,quiet_of (Ab _ (by show 4≤aU;decide) σ),bS]
 rw[show((A.deref (.op id 4) σ).bind fun c=>A.ay 0 5 c)=some (.agg (bl d.setup))from by simp only[A.deref,ou];rfl,bS,bS,quiet_of (adC (YX hK.pl a)),bS,abf,bS,quiet_of (Ab _ (by show 2≤aU;decide) σ),bS]
 have hE:(([(([(if decide ((d.actions.length:Int)=5000)=true then 2 else 0),Gd a,(if(!(aQ a.time 0 36000000))=true then 1 else 0),(if decide (a.time<qT d.actions)=true then 7 else 0)]:List Int).find? fun n=>decide (¬n=0)).getD 0,GW d.setup a]:List Int).find? fun n=>decide (¬n=0)).getD 0=ED d a:=rfl
 rw[hE,fI,bS]
 unfold qt
 by_cases h0:ED d a=0
 case neg=>
  rw[decide_eq_true h0,cA,if_pos h0]
  exact⟨σ,rfl,F0 hp H⟩
 rw[decide_eq_false (fun q=>q h0),cz,if_neg (fun q=>q h0),bS]
 obtain⟨k1,k2,k3,k4,k5⟩:=aae h0
 obtain⟨a1,a2,a3,a4⟩:=Z6 hK.pl k2 k5
 have hrd:=ZS hp H
 obtain⟨v,W,e1,e2⟩:=Zj hK.di hrd k3.2 hK.si k4 ⟨.op id 0,by simp [A.aA],by simp only[A.deref,ou];rfl⟩ (ZY N9)
 have JK:=QF hK.di hK.si k4 k3.2
 obtain⟨s1,hs1⟩:∃s1,s1=kS d d.state a.time:=⟨_,rfl⟩
 have hpl:a.kind≤7→∃b∈s1.az,b.number=a.jL:=by
  intro h
  obtain⟨p,hp1,hp2⟩:=a2 h
  have hn:s1.az.map (·.number)=d.setup.bH.map (·.number):=by rw[hs1,WA];exact hK.Ty
  have:a.jL∈s1.az.map (·.number):=by rw[hn,←hp2];exact List.mem_map.2 ⟨p,hp1,rfl⟩
  obtain⟨b,hb,zH⟩:=List.mem_map.1 this
  exact⟨b,hb,zH⟩
 rw[←hs1]at e1 e2 JK ⊢
 rw[e1,bS]
 simp only
 rw[show A.cells 4 (.agg (bA v s1))=some (bA v s1)from rfl,bS]
 obtain⟨x1,x2,x3,x4⟩:=RT e2
 rw[x2,bS,bS]
 obtain⟨W',w1,w2,w3,w4⟩:=ajV hK.di hrd e2 JK a1 hpl
 rw[w1,bS]
 simp only
 rw[fI,bS]
 by_cases hr:(kg d s1 a).2=0
 case neg=>
  rw[decide_eq_true hr,cA,if_pos hr]
  obtain⟨ex,rfl⟩:=w2
  exact⟨_,rfl,F0 hp (MR H ex)⟩
 rw[decide_eq_false (fun q=>q hr),cz,if_neg (fun q=>q hr)]
 obtain⟨s2,hs2⟩:∃s2,s2=(kg d s1 a).1:=⟨_,rfl⟩
 rw[←hs2]at w3 w4 ⊢
 rw[show((A.deref (.op W.length 0) W').bind fun c=>A.ay 0 4 c)=some (.agg (bA v s2))from by simp only[A.deref,w3];rfl,bS,show A.cells 4 (.agg (bA v s2))=some (bA v s2)from rfl,bS]
 -- the new boards are the desk's own
 have K:Hs bY aD W' (blk id (.box (gA vb bf va d))*(Sl (fl aP) 10 v s2.az*(blk bf (.map ((d.params.getD []).map iw))*(Sl (fl bG) 5 va d.actions*R)))):=by
  obtain⟨ex,hex⟩:=w2
  have H':Hs bY aD W' (blk id (.box (gA vb bf va d))*(blk bf (.map ((d.params.getD []).map iw))*(Sl (fl bG) 5 va d.actions*R))):=by
   rw[hex]
   exact MR (wT (hs_eq (show _=Sl (fl aP) 10 vb d.state.az*(blk id (.box (gA vb bf va d))*(blk bf (.map ((d.params.getD []).map iw))*(Sl (fl bG) 5 va d.actions*R))) by unfold lM;ac_rfl) H)) ex
  rcases w4 with⟨q1,q2⟩|⟨g,q1,q2⟩
  ·rw[q1,q2]
   exact hs_eq (show _=_ by ac_rfl) (yA (v:=.ez) (E:=fl aP) (sz:=10) H' (.inr rfl))
  ·rw[q1]
   have H'':=wT (hs_eq (show _=Sl (fl aP) 10 vb d.state.az*(blk id (.box (gA vb bf va d))*(blk bf (.map ((d.params.getD []).map iw))*(Sl (fl bG) 5 va d.actions*R))) by unfold lM;ac_rfl) H)
   have A1:=Mt H'' ⟨ex,hex⟩ (Nat.le_succ _) q2
   exact hs_eq (show _=_ by ac_rfl) (Sa (n:=s2.az.length) A1)
 have K1:=Aq (b':=.box (gA v bf va {d with state:=s2})) K trivial
 have aoo:=(iW K).2
 rw[show A.storeAt (.op id 0) (bA v s2) W'=some (W'.set id (.box (gA v bf va {d with state:=s2})))from by simp only[A.storeAt,aoo];rfl,bS]
 have aop:=(iW K1).2
 rw[show((A.deref (.op id 11) (W'.set id (.box (gA v bf va {d with state:=s2})))).bind fun c=>A.aj 0 c)=some va from by simp only[A.deref,aop];exact ca,bS,bS,ag5,bS]
 have K2:=hs_eq (show _=Sl (fl bG) 5 va d.actions*(els (fl bG) [bG a] [a]*(blk id (.box (gA v bf va {d with state:=s2}))*(Sl (fl aP) 10 v s2.az*(blk bf (.map ((d.params.getD []).map iw))*R)))) by
  rw[show els (fl bG) [bG a] [a]=pr (bG a=bG a)*emp from rfl];ac_rfl) (nR.2 ⟨(rfl:bG a=bG a),hs_eq (Ad _).symm K1⟩)
 obtain⟨BJ,W2,f1,f2⟩:=Nh (most:=140737488355328 / 40) K2 (by have:=hK.len;simp;omega) (fun _ _ _ _=>trivial)
 rw[f1,bS]
 simp only
 have ca':=RU f2
 have K3:=hs_eq (show _=blk id (.box (gA v bf va {d with state:=s2}))*(Sl (fl bG) 5 BJ (d.actions++[a])*(Sl (fl aP) 10 v s2.az*(blk bf (.map ((d.params.getD []).map iw))*R))) by ac_rfl) f2
 have aoq:=(iW K3).2
 have K4:=Aq (b':=.box (gA v bf BJ {d with state:=s2,actions:=d.actions++[a]})) K3 trivial
 rw[show((A.cell BJ).bind fun v=>some [v])=some [BJ]from by rw[ca'];rfl,bS,show A.storeAt (.op id 11) [BJ] W2=some (W2.set id (.box (gA v bf BJ {d with state:=s2,actions:=d.actions++[a]})))from by simp only[A.storeAt,aoq];rfl,bS]
 exact⟨_,rfl,F0 (d:={d with state:=s2,actions:=d.actions++[a]}) hp (hs_eq (show _=lM id v bf BJ {d with state:=s2,actions:=d.actions++[a]}*R by unfold lM;ac_rfl) K4)⟩
end
end
section
set_option maxRecDepth 100000
open HP
noncomputable def NG (d:bI) (s:bW) (k:aB) (t:Int):Int:=if ¬(dZ d k).1=1 then(pH d s.az k t).out else if s.black=true then 0 else wD (pH d s.az k t).out s.mz
theorem ajM {l:List fC} {t:Int} (h:zl l t=0):(0≤t∧t≤36000000)∧qT l≤t:=by
 unfold zl at h
 split at h
 ·rename_i q
  refine⟨oU q,?_⟩
  by_cases q2:t<qT l
  ·rw[decide_eq_true q2,if_pos rfl]at h;cases h
  ·omega
 ·cases h
section
variable {aD σ : Heap} {R : HP} {pd : AV} {d : bI} {B : aK → Prop}
theorem ah7 {ids:Nat} {v:AV} {s:bW} (H:Hs B aD σ (blk ids (.box (bA v s))*(Sl (fl aP) 10 v s.az*R))):Lt σ RQ (.op ids 0) (.rp (rU s)):=by
 obtain⟨rJ,b1,b2,b3⟩:=IN (hs_eq (show _=Sl (fl aP) 10 v s.az*(blk ids (.box (bA v s))*R) by ac_rfl) H) Du (Nat.zero_le _) 6
 have hg:=(iW H).2
 refine⟨⟨.rp [rJ,.int .i64 s.number,.int .i64 s.mz,.bool s.black],?_,rfl,?_⟩,rfl,fun h=>by cases h⟩
 ·simp only[A.bw,Nat.not_lt_zero,if_false,hg,List.drop_zero,bA,A.uj,b1,Option.bind_some,Option.map_some]
 ·show AV.rp (A.bT [(.s 10),.k,.k,.k] _)=AV.rp (A.bT [(.s 10),.k,.k,.k] (rU s))
  congr 1
  unfold rU
  simp only[A.bT,b3]
  rfl
theorem akr {id:Nat} {vb:AV} {bf:Nat} {va:AV} (hp:d.params.isSome=true) {ids:Nat} {v:AV} {s:bW} (H:Hs B aD σ (lM id vb bf va d*(blk ids (.box (bA v s))*(Sl (fl aP) 10 v s.az*R)))) (hI:uv d) {t:Int} (hs:jq t s) (k:aB):HG [.op id 0,.op ids 0,.agg (aL k),.int .i64 t] σ=some (.int .i64 (NG d s k t),σ):=by
 have JY:∀b∈s.az,rY b t:=fun b hb=>(hs.bs b hb).ok (Int.le_refl _) hs.n.2
 exact CR (cO:=[.op id 0,.op ids 0,.agg (aL k),.int .i64 t]) (ts:=[.rp (pU d),.rp (rU s),.agg (aL k),.int .i64 t]) ⟨MS hp H,ah7 (wT H),IX (vE (yV k)) rfl,R3 t,trivial⟩ (fun σ=>aks (by have:=hs.len;unfold aU;omega) JY hs.mz (fun _=>aax hI JY) σ) rfl
end
end
section
set_option maxRecDepth 100000
open HP
structure Gw (s : gJ) : Prop where
 gq:s.aR.aS.length≤1000000
 par:∀p∈s.aR.aS,p.params.length≤1000000∧∀q∈p.params,q.ranges.length≤1000000
 un:s.aR.units.length≤1000000
 pre:s.bJ.length≤1000000∧∀p∈s.bJ,p.kD.length≤1000000
 Of:s.lists.length≤1000000
 bZ:∀l∈s.lists,l.bD.length≤1000000∧∀c∈l.bD,c.dr.length≤1000000∧c.dS.points.length≤1000000
 pl:s.bH.length≤1000000
theorem FO {α:Type} {c:α→List AV} {sz most:Nat} {l:List α} {m:List AV→Heap→Option (AV×Heap)} {r0:AV→Heap→Option (AV×Heap)} (hc:∀x,jt (c x)) (hm:m=A.ue (A.wrap true [(.s sz)] .k (A.dH r0))) (hr:∀a σ,r0 a σ=(A.tN a .aq).bind fun x1=>A.cond x1 (some (.aq,σ)) ((A.append sz most .ez a σ).bind fun r2=>some (r2.1,r2.2))) (hl:l.length≤most) (σ:Heap):A.jr (.s sz) m [sl sz c l] σ=some (sl sz c l,σ):=by
 obtain⟨v,σ',e1,_,K⟩:=MH (B:=bY) (r:=fun _ _=>none) hm hr hl (fun _ _ _ _=>trivial) (Gn σ)
 obtain⟨v',e2,e3⟩:=aki hc K
 unfold A.jr
 rw[e1,Option.bind_some]
 simp only
 rw[e2,Option.map_some]
 simp only
 rw[e3]
theorem anb {σ:Heap} {id:Nat} {b:aK} (h:σ[id]? =some b):σ.set id b=σ:=by
 obtain⟨hl,rfl⟩:=List.getElem?_eq_some_iff.1 h
 exact List.set_getElem_self hl
theorem ahk {W:Heap} {id g sz i o:Nat} {rows:List (List AV)} {row new:List AV} (h:W[id]? =some (.arr g sz rows)) (hr:rows[i]? =some row) (hs:A.splice o new row=some row):A.storeAt (.oe id g i o) new W=some W:=by
 simp only[A.storeAt,h,if_true,hr,Option.bind_some,hs,Option.map_some]
 obtain⟨hl,rfl⟩:=List.getElem?_eq_some_iff.1 hr
 rw[List.set_getElem_self hl,anb h]
def DS {α:Type} (c:α→List AV) (sz:Nat) (W:Heap) (v:AV) (l:List α):Prop:=(l=[]∧(v=.aq∨v=.ez))∨∃id g,v=.os id g sz 0 l.length∧W[id]? =some (.arr g sz (l.map c))
theorem ZW {α:Type} {c:α→List AV} {sz:Nat} {B:aK→Prop} {aD σ:Heap} {R:HP} {v:AV} {l:List α} (H:Hs B aD σ (Sl (fl c) sz v l*R)):DS c sz σ v l:=by
 rcases yK H with⟨h1,h2,_⟩|⟨id,g,h1,K⟩
 ·exact .inl ⟨h1,h2⟩
 ·exact .inr ⟨id,g,h1,(iW K).2⟩
theorem DS.len {α:Type} {c:α→List AV} {sz:Nat} {W:Heap} {v:AV} {l:List α} (h:DS c sz W v l):A.bK v=some (.int .i64 (l.length:Int)):=by
 rcases h with⟨rfl,rfl|rfl⟩|⟨id,g,rfl,_⟩<;>rfl
theorem DS.at {α:Type} {c:α→List AV} {sz:Nat} {W:Heap} {v:AV} {l:List α} (h:DS c sz W v l) {i:Nat} {x:α} (hx:l[i]? =some x):∃id g,A.aW sz v (.int .i64 (i:Int))=some (.oe id g i 0)∧(∀o,A.deref (.oe id g i o) W=some ((c x).drop o))∧∀o new,A.splice o new (c x)=some (c x)→A.storeAt (.oe id g i o) new W=some W:=by
 have hi:=(List.getElem?_eq_some_iff.1 hx).1
 rcases h with⟨rfl,_⟩|⟨id,g,rfl,hg⟩
 ·simp at hx
 ·have hr:(l.map c)[i]? =some (c x):=by rw[List.getElem?_map,hx];rfl
  refine⟨id,g,?_,fun o=>?_,fun o new hs=>ahk hg hr hs⟩
  ·have:((i:Int)<(l.length:Int)):=by omega
   simp [A.aW,A.idx,this]
  ·simp only[A.deref,hg,if_true,hr,Option.map_some]
theorem MO {α:Type} {c:α→List AV} {sz:Nat} {B:aK→Prop} {aD σ:Heap} {R:HP} {v:AV} {l:List α} (H:Hs B aD σ (Sl (fl c) sz v l*R)) (hc:∀x,jt (c x)) {n:Nat} (hn:n≤aD.length) (d:Nat):∃v',A.bw σ n (d+1) v=some v'∧((l=[]∧(v'=.aq∨v'=.ez))∨v'=sl sz c l):=by
 rcases yK H with⟨rfl,rfl|rfl,_⟩|⟨id,g,rfl,K⟩
 ·exact⟨.aq,by simp [A.bw],.inl ⟨rfl,.inl rfl⟩⟩
 ·exact⟨.ez,by simp [A.bw],.inl ⟨rfl,.inr rfl⟩⟩
 ·obtain⟨h1,h2⟩:=iW K
  exact⟨_,Na hc h2 (by omega) d,.inr rfl⟩
def vG:List AV→cm→HP:=fun e x=>ex fun vp=>pr (e=[.str x.name,.int .i64 x.size,vp])*Sl (fl bU) 7 vp x.params
def vF:List AV→jl→HP:=fun e x=>ex fun vc=>pr (e=[.int .i64 x.number,vc])*Sl (fl aX) 11 vc x.bD
section
variable {B : aK → Prop} {aD σ : Heap} {R : HP} {e : List AV}
theorem abg {x:cm}:Hs B aD σ (vG e x*R)↔∃vp,e=[.str x.name,.int .i64 x.size,vp]∧Hs B aD σ (Sl (fl bU) 7 vp x.params*R):=by
 unfold vG
 rw[Np]
 constructor
 ·rintro⟨vp,H⟩;rw[tZ,nR]at H;exact⟨vp,H⟩
 ·rintro⟨vp,H⟩;exact⟨vp,by rw[tZ,nR];exact H⟩
theorem abe {x:jl}:Hs B aD σ (vF e x*R)↔∃vc,e=[.int .i64 x.number,vc]∧Hs B aD σ (Sl (fl aX) 11 vc x.bD*R):=by
 unfold vF
 rw[Np]
 constructor
 ·rintro⟨vp,H⟩;rw[tZ,nR]at H;exact⟨vp,H⟩
 ·rintro⟨vp,H⟩;exact⟨vp,by rw[tZ,nR];exact H⟩
abbrev Nx:List Sh:=oV
theorem Xw:∀{seg:List (List AV)} {l:List cm} {R:HP},Hs B aD σ (els vG seg l*R)→∀{n:Nat},n≤aD.length→∀(d:Nat),∃uG,A.jm σ n (d+1) seg=some uG∧uG.map (A.bT [.k,.k,(.e 7 Nx)])=l.map bP
 |[],[],R,H,n,hn,d=>⟨[],by simp [A.jm],rfl⟩
 |[],_::_,R,H,n,hn,d=>(nR.1 H).1.elim
 |_::_,[],R,H,n,hn,d=>(nR.1 H).1.elim
 |e::seg,x::l,R,H,n,hn,d=>by
  rw[els,tZ]at H
  obtain⟨vp,he,K⟩:=abg.1 H
  obtain⟨v',h1,h2⟩:=MO K QO hn d
  obtain⟨uG,k1,k2⟩:=Xw (wT H) hn d
  refine⟨[.str x.name,.int .i64 x.size,v']::uG,?_,?_⟩
  ·rw[he];simp [A.jm,A.eG,A.bw,h1,k1]
  ·have:A.nn (.e 7 Nx) v'=sl 7 bU x.params:=by
    rcases h2 with⟨h2,rfl|rfl⟩|rfl
    ·rw[h2];rfl
    ·rw[h2];rfl
    ·exact uD (fun _=>rfl) _
   rw[List.map_cons,k2,List.map_cons]
   congr 1
   simp only[A.bT,gQ,this]
   rfl
theorem Xv:∀{seg:List (List AV)} {l:List jl} {R:HP},Hs B aD σ (els vF seg l*R)→∀{n:Nat},n≤aD.length→∀(d:Nat),∃uG,A.jm σ n (d+1) seg=some uG∧uG.map (A.bT [.k,(.e 11 GB)])=l.map dR
 |[],[],R,H,n,hn,d=>⟨[],by simp [A.jm],rfl⟩
 |[],_::_,R,H,n,hn,d=>(nR.1 H).1.elim
 |_::_,[],R,H,n,hn,d=>(nR.1 H).1.elim
 |e::seg,x::l,R,H,n,hn,d=>by
  rw[els,tZ]at H
  obtain⟨vp,he,K⟩:=abe.1 H
  obtain⟨v',h1,h2⟩:=MO K MP hn d
  obtain⟨uG,k1,k2⟩:=Xv (wT H) hn d
  refine⟨[.int .i64 x.number,v']::uG,?_,?_⟩
  ·rw[he];simp [A.jm,A.eG,A.bw,h1,k1]
  ·have:A.nn (.e 11 GB) v'=sl 11 aX x.bD:=by
    rcases h2 with⟨h2,rfl|rfl⟩|rfl
    ·rw[h2];rfl
    ·rw[h2];rfl
    ·exact uD (fun _=>rfl) _
   rw[List.map_cons,k2,List.map_cons]
   congr 1
   simp only[A.bT,gQ,this]
   rfl
theorem ajx {v:AV} {l:List cm} (H:Hs B aD σ (Sl vG 3 v l*R)) {n:Nat} (hn:n≤aD.length) (d:Nat):∃v',A.bw σ n (d+2) v=some v'∧A.nn (.e 3 [.k,.k,(.e 7 Nx)]) v'=sl 3 bP l:=by
 rcases Af H with⟨rfl,rfl|rfl,_⟩|⟨id,g,seg,rfl,hl,H⟩
 ·exact⟨.aq,by simp [A.bw],rfl⟩
 ·exact⟨.ez,by simp [A.bw],rfl⟩
 ·obtain⟨h1,h2⟩:=iW H
  obtain⟨uG,k1,k2⟩:=Xw (hs_eq (show _=els vG seg l*(blk id (.arr g 3 seg)*R) by ac_rfl) H) hn d
  refine⟨.sl 3 uG,?_,?_⟩
  ·simp only[A.bw,if_neg (show ¬id<n by omega),h2]
   rw[if_pos (by simp;omega),List.drop_zero,List.take_of_length_le (by omega),F2,k1]
   rfl
  ·simp only[A.nn,k2];rfl
theorem ajf {v:AV} {l:List jl} (H:Hs B aD σ (Sl vF 2 v l*R)) {n:Nat} (hn:n≤aD.length) (d:Nat):∃v',A.bw σ n (d+2) v=some v'∧A.nn (.e 2 [.k,(.e 11 GB)]) v'=sl 2 dR l:=by
 rcases Af H with⟨rfl,rfl|rfl,_⟩|⟨id,g,seg,rfl,hl,H⟩
 ·exact⟨.aq,by simp [A.bw],rfl⟩
 ·exact⟨.ez,by simp [A.bw],rfl⟩
 ·obtain⟨h1,h2⟩:=iW H
  obtain⟨uG,k1,k2⟩:=Xv (hs_eq (show _=els vF seg l*(blk id (.arr g 2 seg)*R) by ac_rfl) H) hn d
  refine⟨.sl 2 uG,?_,?_⟩
  ·simp only[A.bw,if_neg (show ¬id<n by omega),h2]
   rw[if_pos (by simp;omega),List.drop_zero,List.take_of_length_le (by omega),F2,k1]
   rfl
  ·simp only[A.nn,k2];rfl
end
section
variable {aD σ : Heap} {R : HP}
theorem Jg {α β A1 A2:Type} {X:Option α} {v:α} {f:α→Option β} {g:A1→A2→β} {Q:A1→A2→Prop} (e:X=some v) (k:∃a b,f v=some (g a b)∧Q a b):∃a b,X.bind f=some (g a b)∧Q a b:=by
 rw[e];exact k
theorem S7 {α β A1:Type} {X:Option α} {v:α} {f:α→Option β} {g:A1→β} {Q:A1→Prop} (e:X=some v) (k:∃a,Q a∧f v=some (g a)):∃a,Q a∧X.bind f=some (g a):=by
 rw[e];exact k
theorem AB {α:Type} {E:List AV→α→HP} {sz:Nat} {B:aK→Prop} {v:AV} {l:List α} (H:Hs B aD σ (Sl E sz v l*R)):A.cell v=some v:=by
 rcases Af H with⟨_,rfl|rfl,_⟩|⟨id,g,seg,rfl,_⟩<;>rfl
theorem aj6 {W:Heap} {x:cm} {pv:AV} (hx:∀q∈x.params,q.ranges.length≤1000000) (hl:x.params.length≤1000000) (h:DS bU 7 W pv x.params) (u0 u1 u2:AV):A.loop ((fun v30 jW=>
      (A.lss (v30.getD 4 AV.undef) (AV.int .i64 (x.params.length:Int))).bind fun ep=>
      A.cond ep (
       ((A.lb (v30.getD 3 AV.undef)).bind fun _=>some (2)).bind fun yh=>
       ((A.lb (v30.getD 3 AV.undef)).bind fun gC=>A.aj yh gC).bind fun gX=>
       ((A.lb (v30.getD 3 AV.undef)).bind fun _=>some (2)).bind fun BC=>
       ((A.lb (v30.getD 3 AV.undef)).bind fun jS=>A.aj BC jS).bind fun fu=>
       (A.aW 7 fu (v30.getD 4 AV.undef)).bind fun dm=>
       (A.aA 6 dm).bind fun ef=>
       ((A.deref ef jW).bind fun l5=>A.aj 0 l5).bind fun fL=>
       (A.quiet ((A.jr (.s 3) zU) [fL] jW) jW).bind fun eO=>
       (A.aW 7 gX (v30.getD 4 AV.undef)).bind fun dU=>
       (A.aA 6 dU).bind fun fM=>
       ((A.cell eO).bind fun v=>some [v]).bind fun iz=>
       (A.storeAt fM iz jW).bind fun mT=>
       (A.add (v30.getD 4 AV.undef) aH).bind fun eP=>
       some (AX.normal,[(v30.getD 0 AV.undef),(v30.getD 1 AV.undef),(v30.getD 2 AV.undef),(v30.getD 3 AV.undef),eP],mT)) (
       some (AX.exit 2,[(v30.getD 0 AV.undef),(v30.getD 1 AV.undef),(v30.getD 2 AV.undef),(v30.getD 3 AV.undef),(v30.getD 4 AV.undef)],jW)))) [u0,u1,u2,.lbx [.str x.name,.int .i64 x.size,pv],.int .i64 0] W=some (.exit 2,[u0,u1,u2,.lbx [.str x.name,.int .i64 x.size,pv],.int .i64 (x.params.length:Int)],W):=by
 refine Bs (nO (Q:=fun q=>q=(.exit 2,[u0,u1,u2,.lbx [.str x.name,.int .i64 x.size,pv],.int .i64 (x.params.length:Int)],W)) (fun z v w=>∃i:Nat,i≤x.params.length∧v=[u0,u1,u2,.lbx [.str x.name,.int .i64 x.size,pv],.int .i64 (i:Int)]∧w=W∧z=x.params.length-i) ?_ (n:=x.params.length) ⟨0,Nat.zero_le _,rfl,rfl,rfl⟩)
 have hc:A.cell pv=some pv:=by rcases h with⟨_,rfl|rfl⟩|⟨id,g,rfl,_⟩<;>rfl
 rintro z v w ⟨i,hi,rfl,rfl,hz⟩
 by_cases hlt:i<x.params.length
 ·have hq:x.params[i]? =some x.params[i]:=List.getElem?_eq_getElem hlt
  obtain⟨id,g,e1,e2,e3⟩:=h.at hq
  refine .inl ⟨x.params.length-(i+1),_,_,by omega,?_,i+1,hlt,rfl,rfl,rfl⟩
  simp only[List.getD_cons_zero,List.getD_cons_succ]
  have hp2:A.aj 2 [.str x.name,.int .i64 x.size,pv]=some pv:=hc
  rw[jM hq,bS,cA]
  simp only[ij,bS,hp2,e1,show ∀o,A.aA o (.oe id g i 0)=some (.oe id g i o)from fun o=>by simp [A.aA],e2]
  rw[show A.aj 0 ((bU x.params[i]).drop 6)=some (sl 3 lK x.params[i].ranges)from rfl,bS,quiet_of (FO (most:=140737488355328 / 32) (m:=zU) (r0:=KR) QT rfl (fun _ _=>rfl) (by have:=hx _ (List.getElem_mem hlt);omega) w),bS,show((A.cell (sl 3 lK x.params[i].ranges)).bind fun v=>some [v])=some [sl 3 lK x.params[i].ranges]from rfl,bS,e3 6 _ rfl,bS,gK hq (by unfold aU;omega),bS]
 ·have:i=x.params.length:=by omega
  subst this
  refine .inr ⟨_,?_,by simp,rfl⟩
  simp only[List.getD_cons_zero,List.getD_cons_succ]
  rw[j0,bS,cz]
theorem aj7 {W : Heap} {x : jl} {pv : AV} (hx : ∀ c ∈ x.bD, c.dr.length ≤ 1000000 ∧ c.dS.points.length ≤ 1000000) (hl : x.bD.length ≤ 1000000) (h : DS aX 11 W pv x.bD) (u0 u1 : AV) : A.loop ((fun dA fS =>
        (A.lss (dA.getD 3 AV.undef) (AV.int .i64 (x.bD.length:Int))).bind fun xO=>
        A.cond xO (
         ((A.lb (dA.getD 2 AV.undef)).bind fun _=>some (1)).bind fun A7=>
         ((A.lb (dA.getD 2 AV.undef)).bind fun nT=>A.aj A7 nT).bind fun sD=>
         (A.aW 11 sD (dA.getD 3 AV.undef)).bind fun jJ=>
         (A.aN jJ).bind fun xP=>
         (A.aA 10 xP).bind fun uJ=>
         ((A.deref uJ fS).bind fun lU=>A.aj 0 lU).bind fun mF=>
         (A.quiet ((A.jr (.s 8) Dc) [mF] fS) fS).bind fun qj=>
         (A.aN jJ).bind fun uK=>
         (A.aA 6 uK).bind fun lY=>
         (A.aA 1 lY).bind fun n5=>
         ((A.deref n5 fS).bind fun nU=>A.aj 0 nU).bind fun sE=>
         (A.quiet ((A.jr (.s 2) Db) [sE] fS) fS).bind fun lQ=>
         (A.aN jJ).bind fun sF=>
         (A.aA 10 sF).bind fun lZ=>
         ((A.cell qj).bind fun v=>some [v]).bind fun xw=>
         (A.storeAt lZ xw fS).bind fun xx=>
         (A.aN jJ).bind fun uL=>
         (A.aA 6 uL).bind fun xS=>
         (A.aA 1 xS).bind fun mQ=>
         ((A.cell lQ).bind fun v=>some [v]).bind fun AT=>
         (A.storeAt mQ AT xx).bind fun AU=>
         (A.add (dA.getD 3 AV.undef) aH).bind fun Be=>
         some (AX.normal,[(dA.getD 0 AV.undef),(dA.getD 1 AV.undef),(dA.getD 2 AV.undef),Be],AU)) (
         some (AX.exit 8,[(dA.getD 0 AV.undef),(dA.getD 1 AV.undef),(dA.getD 2 AV.undef),(dA.getD 3 AV.undef)],fS)))) [u0,u1,.lbx [.int .i64 x.number,pv],.int .i64 0] W=some (.exit 8,[u0,u1,.lbx [.int .i64 x.number,pv],.int .i64 (x.bD.length:Int)],W):=by
 refine Bs (nO (Q:=fun q=>q=(.exit 8,[u0,u1,.lbx [.int .i64 x.number,pv],.int .i64 (x.bD.length:Int)],W)) (fun z v w=>∃i:Nat,i≤x.bD.length∧v=[u0,u1,.lbx [.int .i64 x.number,pv],.int .i64 (i:Int)]∧w=W∧z=x.bD.length-i) ?_ (n:=x.bD.length) ⟨0,Nat.zero_le _,rfl,rfl,rfl⟩)
 have hc:A.cell pv=some pv:=by rcases h with⟨_,rfl|rfl⟩|⟨id,g,rfl,_⟩<;>rfl
 rintro z v w ⟨i,hi,rfl,rfl,hz⟩
 by_cases hlt:i<x.bD.length
 ·have hq:x.bD[i]? =some x.bD[i]:=List.getElem?_eq_getElem hlt
  obtain⟨id,g,e1,e2,e3⟩:=h.at hq
  have hb:=hx _ (List.getElem_mem hlt)
  refine .inl ⟨x.bD.length-(i+1),_,_,by omega,?_,i+1,hlt,rfl,rfl,rfl⟩
  simp only[List.getD_cons_zero,List.getD_cons_succ]
  have hp2:A.aj 1 [.int .i64 x.number,pv]=some pv:=hc
  rw[jM hq,bS,cA]
  simp only[ij,bS,hp2,e1,show A.aN (.oe id g i 0)=some (.oe id g i 0)from rfl,show ∀o,A.aA o (.oe id g i 0)=some (.oe id g i o)from fun o=>by simp [A.aA],show A.aA 1 (.oe id g i 6)=some (.oe id g i 7)from rfl,e2]
  rw[show A.aj 0 ((aX x.bD[i]).drop 10)=some (sl 8 fG x.bD[i].dr)from rfl,bS,quiet_of (FO (most:=140737488355328 / 64) (m:=Dc) (r0:=OD) YC rfl (fun _ _=>rfl) (by omega) w),bS,show A.aj 0 ((aX x.bD[i]).drop 7)=some (sl 2 iu x.bD[i].dS.points)from rfl,bS,quiet_of (FO (most:=140737488355328 / 16) (m:=Db) (r0:=OA) QS rfl (fun _ _=>rfl) (by omega) w),bS,show((A.cell (sl 8 fG x.bD[i].dr)).bind fun v=>some [v])=some [sl 8 fG x.bD[i].dr]from rfl,bS,e3 10 _ rfl,bS,show((A.cell (sl 2 iu x.bD[i].dS.points)).bind fun v=>some [v])=some [sl 2 iu x.bD[i].dS.points]from rfl,bS,e3 7 _ rfl,bS,gK hq (by unfold aU;omega),bS]
 ·have:i=x.bD.length:=by omega
  subst this
  refine .inr ⟨_,?_,by simp,rfl⟩
  simp only[List.getD_cons_zero,List.getD_cons_succ]
  rw[j0,bS,cz]
theorem MG {α:Type} {E:List AV→α→HP} {sz most:Nat} {v:AV} {l:List α} {e:List AV} {x:α} (hl:l.length+1≤most) (H:Hs bY aD σ (Sl E sz v l*(E e x*R))):∃v' σ',A.append sz most v (.sl sz [e]) σ=some (v',σ')∧Hs bY aD σ' (Sl E sz v' (l++[x])*R):=
 Nh (ys:=[e]) (xs:=[x]) (hs_eq (by rw[ake]) H) (by simpa using hl) (fun _ _ _ _=>trivial)
theorem alG {l:List cI} (hl:l.length≤1000000) (H:Hs bY aD σ R):∃v σ',Fj [sl 7 bU l] σ=some (v,σ')∧A.cell v=some v∧Hs bY aD σ' (Sl (fl bU) 7 v l*R):=
 MH (most:=140737488355328 / 80) (r:=fun _ _=>none) rfl (fun _ _=>rfl) (by omega) (fun _ _ _ _=>trivial) H
theorem ajC (n:ByteArray) (m:Int) (v:AV):(((A.cells 3 (.agg [.str n,.int .i64 m,v])).bind fun iA=>(A.splice 0 iA [bg,ah,AV.aq]).bind fun ig=>some ig).bind fun cs=>some (AV.sl 3 (chunks 3 1 cs)))=some (.sl 3 [[.str n,.int .i64 m,v]]):=rfl
theorem ajB (n:Int) (v:AV):(((A.cells 2 (.agg [.int .i64 n,v])).bind fun iA=>(A.splice 0 iA [ah,AV.aq]).bind fun ig=>some ig).bind fun cs=>some (AV.sl 2 (chunks 2 1 cs)))=some (.sl 2 [[.int .i64 n,v]]):=rfl
theorem amy {s:gJ} (hb:Gw s) (H:Hs bY aD σ R) (un pl u:AV):∃v W,A.loop ((fun dI kQ=>
   (A.lss (dI.getD 3 AV.undef) (AV.int .i64 (s.aR.aS.length:Int))).bind fun bF=>
   A.cond bF (
    (A.aW 3 (sl 3 bP s.aR.aS) (dI.getD 3 AV.undef)).bind fun bX=>
    ((A.deref bX kQ).bind fun iJ=>A.ay 0 3 iJ).bind fun cr=>
    (A.cells 3 cr).bind fun gB=>
    (A.splice 0 gB [bg,ah,AV.aq]).bind fun fk=>
    (A.aj 2 fk).bind fun x24=>
    (Fj [x24] kQ).bind fun jV=>
    ((A.cell jV.1).bind fun v=>some [v]).bind fun fW=>
    (A.splice 2 fW fk).bind fun jR=>
    (A.aj 2 jR).bind fun x28=>
    (A.bK x28).bind fun x29=>
    (A.loop (fun v30 jW=>
      (A.lss (v30.getD 4 AV.undef) x29).bind fun ep=>
      A.cond ep (
       ((A.lb (v30.getD 3 AV.undef)).bind fun _=>some (2)).bind fun yh=>
       ((A.lb (v30.getD 3 AV.undef)).bind fun gC=>A.aj yh gC).bind fun gX=>
       ((A.lb (v30.getD 3 AV.undef)).bind fun _=>some (2)).bind fun BC=>
       ((A.lb (v30.getD 3 AV.undef)).bind fun jS=>A.aj BC jS).bind fun fu=>
       (A.aW 7 fu (v30.getD 4 AV.undef)).bind fun dm=>
       (A.aA 6 dm).bind fun ef=>
       ((A.deref ef jW).bind fun l5=>A.aj 0 l5).bind fun fL=>
       (A.quiet ((A.jr (.s 3) zU) [fL] jW) jW).bind fun eO=>
       (A.aW 7 gX (v30.getD 4 AV.undef)).bind fun dU=>
       (A.aA 6 dU).bind fun fM=>
       ((A.cell eO).bind fun v=>some [v]).bind fun iz=>
       (A.storeAt fM iz jW).bind fun mT=>
       (A.add (v30.getD 4 AV.undef) aH).bind fun eP=>
       some (AX.normal,[(v30.getD 0 AV.undef),(v30.getD 1 AV.undef),(v30.getD 2 AV.undef),(v30.getD 3 AV.undef),eP],mT)) (
       some (AX.exit 2,[(v30.getD 0 AV.undef),(v30.getD 1 AV.undef),(v30.getD 2 AV.undef),(v30.getD 3 AV.undef),(v30.getD 4 AV.undef)],jW))) [(dI.getD 0 AV.undef),(dI.getD 1 AV.undef),(dI.getD 2 AV.undef),(AV.lbx jR),ah] jV.2).bind fun cV=>
    bif cV.1==AX.exit 2 then(
     ((A.lb (cV.2.1.getD 2 AV.undef)).bind fun _=>some (0)).bind fun ET=>
     ((A.lb (cV.2.1.getD 2 AV.undef)).bind fun _=>some (ET)).bind fun EU=>
     ((A.lb (cV.2.1.getD 2 AV.undef)).bind fun oc=>A.aj EU oc).bind fun gY=>
     ((A.lb (cV.2.1.getD 3 AV.undef)).bind fun gM=>A.ay 0 3 gM).bind fun gG=>
     (((A.cells 3 gG).bind fun iA=>(A.splice 0 iA [bg,ah,AV.aq]).bind fun ig=>some ig).bind fun cs=>some (AV.sl 3 (chunks 3 1 cs))).bind fun eW=>
     (A.append 3 (140737488355328 / 48) gY eW cV.2.2).bind fun yp=>
     ((A.lb (cV.2.1.getD 2 AV.undef)).bind fun _=>some (0)).bind fun EV=>
     ((A.lb (cV.2.1.getD 2 AV.undef)).bind fun _=>some (EV)).bind fun EW=>
     (A.lb (cV.2.1.getD 2 AV.undef)).bind fun sK=>
     ((A.cell yp.1).bind fun v=>some [v]).bind fun uP=>
     (A.splice EW uP sK).bind fun mV=>
     (A.add (dI.getD 3 AV.undef) aH).bind fun gH=>
     some (AX.normal,[(cV.2.1.getD 0 AV.undef),(cV.2.1.getD 1 AV.undef),(AV.lbx mV),gH],yp.2))else
    none) (
    some (AX.exit 0,[(dI.getD 0 AV.undef),(dI.getD 1 AV.undef),(dI.getD 2 AV.undef),(dI.getD 3 AV.undef)],kQ)))) [.lbx (bl s),u,.lbx [.aq,un,.aq,.aq,pl],.int .i64 0] σ=some (.exit 0,[.lbx (bl s),u,.lbx [v,un,.aq,.aq,pl],.int .i64 (s.aR.aS.length:Int)],W)∧Hs bY aD W (Sl vG 3 v s.aR.aS*R):=by
 suffices h:∃q,A.loop ((fun dI kQ=>
   (A.lss (dI.getD 3 AV.undef) (AV.int .i64 (s.aR.aS.length:Int))).bind fun bF=>
   A.cond bF (
    (A.aW 3 (sl 3 bP s.aR.aS) (dI.getD 3 AV.undef)).bind fun bX=>
    ((A.deref bX kQ).bind fun iJ=>A.ay 0 3 iJ).bind fun cr=>
    (A.cells 3 cr).bind fun gB=>
    (A.splice 0 gB [bg,ah,AV.aq]).bind fun fk=>
    (A.aj 2 fk).bind fun x24=>
    (Fj [x24] kQ).bind fun jV=>
    ((A.cell jV.1).bind fun v=>some [v]).bind fun fW=>
    (A.splice 2 fW fk).bind fun jR=>
    (A.aj 2 jR).bind fun x28=>
    (A.bK x28).bind fun x29=>
    (A.loop (fun v30 jW=>
      (A.lss (v30.getD 4 AV.undef) x29).bind fun ep=>
      A.cond ep (
       ((A.lb (v30.getD 3 AV.undef)).bind fun _=>some (2)).bind fun yh=>
       ((A.lb (v30.getD 3 AV.undef)).bind fun gC=>A.aj yh gC).bind fun gX=>
       ((A.lb (v30.getD 3 AV.undef)).bind fun _=>some (2)).bind fun BC=>
       ((A.lb (v30.getD 3 AV.undef)).bind fun jS=>A.aj BC jS).bind fun fu=>
       (A.aW 7 fu (v30.getD 4 AV.undef)).bind fun dm=>
       (A.aA 6 dm).bind fun ef=>
       ((A.deref ef jW).bind fun l5=>A.aj 0 l5).bind fun fL=>
       (A.quiet ((A.jr (.s 3) zU) [fL] jW) jW).bind fun eO=>
       (A.aW 7 gX (v30.getD 4 AV.undef)).bind fun dU=>
       (A.aA 6 dU).bind fun fM=>
       ((A.cell eO).bind fun v=>some [v]).bind fun iz=>
       (A.storeAt fM iz jW).bind fun mT=>
       (A.add (v30.getD 4 AV.undef) aH).bind fun eP=>
       some (AX.normal,[(v30.getD 0 AV.undef),(v30.getD 1 AV.undef),(v30.getD 2 AV.undef),(v30.getD 3 AV.undef),eP],mT)) (
       some (AX.exit 2,[(v30.getD 0 AV.undef),(v30.getD 1 AV.undef),(v30.getD 2 AV.undef),(v30.getD 3 AV.undef),(v30.getD 4 AV.undef)],jW))) [(dI.getD 0 AV.undef),(dI.getD 1 AV.undef),(dI.getD 2 AV.undef),(AV.lbx jR),ah] jV.2).bind fun cV=>
    bif cV.1==AX.exit 2 then(
     ((A.lb (cV.2.1.getD 2 AV.undef)).bind fun _=>some (0)).bind fun ET=>
     ((A.lb (cV.2.1.getD 2 AV.undef)).bind fun _=>some (ET)).bind fun EU=>
     ((A.lb (cV.2.1.getD 2 AV.undef)).bind fun oc=>A.aj EU oc).bind fun gY=>
     ((A.lb (cV.2.1.getD 3 AV.undef)).bind fun gM=>A.ay 0 3 gM).bind fun gG=>
     (((A.cells 3 gG).bind fun iA=>(A.splice 0 iA [bg,ah,AV.aq]).bind fun ig=>some ig).bind fun cs=>some (AV.sl 3 (chunks 3 1 cs))).bind fun eW=>
     (A.append 3 (140737488355328 / 48) gY eW cV.2.2).bind fun yp=>
     ((A.lb (cV.2.1.getD 2 AV.undef)).bind fun _=>some (0)).bind fun EV=>
     ((A.lb (cV.2.1.getD 2 AV.undef)).bind fun _=>some (EV)).bind fun EW=>
     (A.lb (cV.2.1.getD 2 AV.undef)).bind fun sK=>
     ((A.cell yp.1).bind fun v=>some [v]).bind fun uP=>
     (A.splice EW uP sK).bind fun mV=>
     (A.add (dI.getD 3 AV.undef) aH).bind fun gH=>
     some (AX.normal,[(cV.2.1.getD 0 AV.undef),(cV.2.1.getD 1 AV.undef),(AV.lbx mV),gH],yp.2))else
    none) (
    some (AX.exit 0,[(dI.getD 0 AV.undef),(dI.getD 1 AV.undef),(dI.getD 2 AV.undef),(dI.getD 3 AV.undef)],kQ)))) [.lbx (bl s),u,.lbx [.aq,un,.aq,.aq,pl],.int .i64 0] σ=some q∧∃v W,q=(.exit 0,[.lbx (bl s),u,.lbx [v,un,.aq,.aq,pl],.int .i64 (s.aR.aS.length:Int)],W)∧Hs bY aD W (Sl vG 3 v s.aR.aS*R) by
  obtain⟨q,e,v,W,rfl,K⟩:=h
  exact⟨v,W,e,K⟩
 refine nO (fun z v w=>∃(i:Nat) (vo:AV),i≤s.aR.aS.length∧v=[.lbx (bl s),u,.lbx [vo,un,.aq,.aq,pl],.int .i64 (i:Int)]∧z=s.aR.aS.length-i∧Hs bY aD w (Sl vG 3 vo (s.aR.aS.take i)*R)) ?_ (n:=s.aR.aS.length) ⟨0,.aq,Nat.zero_le _,rfl,rfl,yA H (.inl rfl)⟩
 rintro z v w ⟨i,vo,hi,rfl,hz,K⟩
 by_cases h:i<s.aR.aS.length
 ·obtain⟨x,cG⟩:∃x,x=s.aR.aS[i]:=⟨_,rfl⟩
  have hx:s.aR.aS[i]? =some x:=by rw[cG];exact List.getElem?_eq_getElem h
  have hpb:=hb.par x (List.mem_of_getElem? hx)
  have hlb:=hb.gq
  have step:∃jy w',((fun dI kQ=>
   (A.lss (dI.getD 3 AV.undef) (AV.int .i64 (s.aR.aS.length:Int))).bind fun bF=>
   A.cond bF (
    (A.aW 3 (sl 3 bP s.aR.aS) (dI.getD 3 AV.undef)).bind fun bX=>
    ((A.deref bX kQ).bind fun iJ=>A.ay 0 3 iJ).bind fun cr=>
    (A.cells 3 cr).bind fun gB=>
    (A.splice 0 gB [bg,ah,AV.aq]).bind fun fk=>
    (A.aj 2 fk).bind fun x24=>
    (Fj [x24] kQ).bind fun jV=>
    ((A.cell jV.1).bind fun v=>some [v]).bind fun fW=>
    (A.splice 2 fW fk).bind fun jR=>
    (A.aj 2 jR).bind fun x28=>
    (A.bK x28).bind fun x29=>
    (A.loop (fun v30 jW=>
      (A.lss (v30.getD 4 AV.undef) x29).bind fun ep=>
      A.cond ep (
       ((A.lb (v30.getD 3 AV.undef)).bind fun _=>some (2)).bind fun yh=>
       ((A.lb (v30.getD 3 AV.undef)).bind fun gC=>A.aj yh gC).bind fun gX=>
       ((A.lb (v30.getD 3 AV.undef)).bind fun _=>some (2)).bind fun BC=>
       ((A.lb (v30.getD 3 AV.undef)).bind fun jS=>A.aj BC jS).bind fun fu=>
       (A.aW 7 fu (v30.getD 4 AV.undef)).bind fun dm=>
       (A.aA 6 dm).bind fun ef=>
       ((A.deref ef jW).bind fun l5=>A.aj 0 l5).bind fun fL=>
       (A.quiet ((A.jr (.s 3) zU) [fL] jW) jW).bind fun eO=>
       (A.aW 7 gX (v30.getD 4 AV.undef)).bind fun dU=>
       (A.aA 6 dU).bind fun fM=>
       ((A.cell eO).bind fun v=>some [v]).bind fun iz=>
       (A.storeAt fM iz jW).bind fun mT=>
       (A.add (v30.getD 4 AV.undef) aH).bind fun eP=>
       some (AX.normal,[(v30.getD 0 AV.undef),(v30.getD 1 AV.undef),(v30.getD 2 AV.undef),(v30.getD 3 AV.undef),eP],mT)) (
       some (AX.exit 2,[(v30.getD 0 AV.undef),(v30.getD 1 AV.undef),(v30.getD 2 AV.undef),(v30.getD 3 AV.undef),(v30.getD 4 AV.undef)],jW))) [(dI.getD 0 AV.undef),(dI.getD 1 AV.undef),(dI.getD 2 AV.undef),(AV.lbx jR),ah] jV.2).bind fun cV=>
    bif cV.1==AX.exit 2 then(
     ((A.lb (cV.2.1.getD 2 AV.undef)).bind fun _=>some (0)).bind fun ET=>
     ((A.lb (cV.2.1.getD 2 AV.undef)).bind fun _=>some (ET)).bind fun EU=>
     ((A.lb (cV.2.1.getD 2 AV.undef)).bind fun oc=>A.aj EU oc).bind fun gY=>
     ((A.lb (cV.2.1.getD 3 AV.undef)).bind fun gM=>A.ay 0 3 gM).bind fun gG=>
     (((A.cells 3 gG).bind fun iA=>(A.splice 0 iA [bg,ah,AV.aq]).bind fun ig=>some ig).bind fun cs=>some (AV.sl 3 (chunks 3 1 cs))).bind fun eW=>
     (A.append 3 (140737488355328 / 48) gY eW cV.2.2).bind fun yp=>
     ((A.lb (cV.2.1.getD 2 AV.undef)).bind fun _=>some (0)).bind fun EV=>
     ((A.lb (cV.2.1.getD 2 AV.undef)).bind fun _=>some (EV)).bind fun EW=>
     (A.lb (cV.2.1.getD 2 AV.undef)).bind fun sK=>
     ((A.cell yp.1).bind fun v=>some [v]).bind fun uP=>
     (A.splice EW uP sK).bind fun mV=>
     (A.add (dI.getD 3 AV.undef) aH).bind fun gH=>
     some (AX.normal,[(cV.2.1.getD 0 AV.undef),(cV.2.1.getD 1 AV.undef),(AV.lbx mV),gH],yp.2))else
    none) (
    some (AX.exit 0,[(dI.getD 0 AV.undef),(dI.getD 1 AV.undef),(dI.getD 2 AV.undef),(dI.getD 3 AV.undef)],kQ)))) [.lbx (bl s),u,.lbx [vo,un,.aq,.aq,pl],.int .i64 (i:Int)] w=some (.normal,[.lbx (bl s),u,.lbx [jy,un,.aq,.aq,pl],.int .i64 ((i+1:Nat):Int)],w')∧Hs bY aD w' (Sl vG 3 jy (s.aR.aS.take i++[x])*R):=by
   simp only[List.getD_cons_zero,List.getD_cons_succ]
   rw[jM hx,bS,cA,jk hx,bS,oq,bS,show A.ay 0 3 (bP x)=some (.agg (bP x))from rfl,bS,show A.cells 3 (.agg (bP x))=some (bP x)from rfl,bS,show A.splice 0 (bP x) [bg,ah,AV.aq]=some (bP x)from rfl,bS,qD,bS]
   obtain⟨pv,w1,c1,c2,c3⟩:=alG hpb.1 K
   have xZ:=ZW c3
   rw[c1,bS]
   simp only
   rw[show((A.cell pv).bind fun v=>some [v])=some [pv]from by rw[c2];rfl,bS,show A.splice 2 [pv] (bP x)=some [.str x.name,.int .i64 x.size,pv]from rfl,bS,show A.aj 2 [.str x.name,.int .i64 x.size,pv]=some pv from c2,bS,xZ.len,bS]
   refine Jg (aj6 hpb.2 hpb.1 xZ _ _ _) ?_
   simp only[nG,List.getD_cons_zero,List.getD_cons_succ,ij,bS]
   have JD:=AB K
   rw[show A.aj 0 [vo,un,.aq,.aq,pl]=some vo from JD,bS,show A.ay 0 3 [.str x.name,.int .i64 x.size,pv]=some (.agg [.str x.name,.int .i64 x.size,pv])from rfl,bS,ajC,bS]
   obtain⟨jy,w2,f1,f2⟩:=MG (most:=140737488355328 / 48) (E:=vG) (l:=s.aR.aS.take i) (v:=vo) (e:=[.str x.name,.int .i64 x.size,pv]) (x:=x) (R:=R) (by rw[List.length_take];omega) (hs_eq (by ac_rfl) (abg.2 ⟨pv,rfl,c3⟩))
   rw[f1,bS]
   simp only
   rw[show((A.cell jy).bind fun v=>some [v])=some [jy]from by rw[AB f2];rfl,bS,show A.splice 0 [jy] [vo,un,.aq,.aq,pl]=some [jy,un,.aq,.aq,pl]from rfl,bS,gK hx (by unfold aU;omega),bS]
   exact⟨jy,w2,rfl,f2⟩
  obtain⟨jy,w',s1,s2⟩:=step
  refine .inl ⟨s.aR.aS.length-(i+1),_,_,by omega,s1,i+1,jy,h,rfl,rfl,?_⟩
  rw[List.take_add_one,hx]
  exact s2
 ·have:i=s.aR.aS.length:=by omega
  subst this
  rw[List.take_length]at K
  refine .inr ⟨(.exit 0,[.lbx (bl s),u,.lbx [vo,un,.aq,.aq,pl],.int .i64 (s.aR.aS.length:Int)],w),?_,by simp,vo,w,rfl,K⟩
  simp only[List.getD_cons_zero,List.getD_cons_succ]
  rw[j0,bS,cz]
theorem amz {s:gJ} (hb:Gw s) (H:Hs bY aD σ R) (vl un pl u:AV) (hvl:A.cell vl=some vl):∃v W,A.loop ((fun v72 sY=>
    (A.lss (v72.getD 3 AV.undef) (AV.int .i64 (s.bJ.length:Int))).bind fun eu=>
    A.cond eu (
     (A.aW 3 (sl 3 dP s.bJ) (v72.getD 3 AV.undef)).bind fun iD=>
     ((A.deref iD sY).bind fun l7=>A.ay 0 3 l7).bind fun jg=>
     (A.cells 3 jg).bind fun Bk=>
     (A.splice 0 Bk [ah,bg,AV.aq]).bind fun uQ=>
     (A.aj 2 uQ).bind fun oC=>
     ((A.jr (.s 3) Fg) [oC] sY).bind fun yt=>
     ((A.cell yt.1).bind fun v=>some [v]).bind fun kI=>
     (A.splice 2 kI uQ).bind fun jc=>
     ((A.lb (v72.getD 2 AV.undef)).bind fun _=>some (2)).bind fun EZ=>
     ((A.lb (v72.getD 2 AV.undef)).bind fun xU=>A.aj EZ xU).bind fun mo=>
     (A.ay 0 3 jc).bind fun iF=>
     (((A.cells 3 iF).bind fun l8=>(A.splice 0 l8 [ah,bg,AV.aq]).bind fun l9=>some l9).bind fun cs=>some (AV.sl 3 (chunks 3 1 cs))).bind fun x91=>
     (A.append 3 (140737488355328 / 48) mo x91 yt.2).bind fun yx=>
     ((A.lb (v72.getD 2 AV.undef)).bind fun _=>some (2)).bind fun E1=>
     (A.lb (v72.getD 2 AV.undef)).bind fun xV=>
     ((A.cell yx.1).bind fun v=>some [v]).bind fun oo=>
     (A.splice E1 oo xV).bind fun iU=>
     (A.add (v72.getD 3 AV.undef) aH).bind fun yC=>
     some (AX.normal,[(v72.getD 0 AV.undef),(v72.getD 1 AV.undef),(AV.lbx iU),yC],yx.2)) (
     some (AX.exit 4,[(v72.getD 0 AV.undef),(v72.getD 1 AV.undef),(v72.getD 2 AV.undef),(v72.getD 3 AV.undef)],sY)))) [.lbx (bl s),u,.lbx [vl,un,.aq,.aq,pl],.int .i64 0] σ=some (.exit 4,[.lbx (bl s),u,.lbx [vl,un,v,.aq,pl],.int .i64 (s.bJ.length:Int)],W)∧Hs bY aD W (Sl (fl dP) 3 v s.bJ*R):=by
 suffices h:∃q,A.loop ((fun v72 sY=>
    (A.lss (v72.getD 3 AV.undef) (AV.int .i64 (s.bJ.length:Int))).bind fun eu=>
    A.cond eu (
     (A.aW 3 (sl 3 dP s.bJ) (v72.getD 3 AV.undef)).bind fun iD=>
     ((A.deref iD sY).bind fun l7=>A.ay 0 3 l7).bind fun jg=>
     (A.cells 3 jg).bind fun Bk=>
     (A.splice 0 Bk [ah,bg,AV.aq]).bind fun uQ=>
     (A.aj 2 uQ).bind fun oC=>
     ((A.jr (.s 3) Fg) [oC] sY).bind fun yt=>
     ((A.cell yt.1).bind fun v=>some [v]).bind fun kI=>
     (A.splice 2 kI uQ).bind fun jc=>
     ((A.lb (v72.getD 2 AV.undef)).bind fun _=>some (2)).bind fun EZ=>
     ((A.lb (v72.getD 2 AV.undef)).bind fun xU=>A.aj EZ xU).bind fun mo=>
     (A.ay 0 3 jc).bind fun iF=>
     (((A.cells 3 iF).bind fun l8=>(A.splice 0 l8 [ah,bg,AV.aq]).bind fun l9=>some l9).bind fun cs=>some (AV.sl 3 (chunks 3 1 cs))).bind fun x91=>
     (A.append 3 (140737488355328 / 48) mo x91 yt.2).bind fun yx=>
     ((A.lb (v72.getD 2 AV.undef)).bind fun _=>some (2)).bind fun E1=>
     (A.lb (v72.getD 2 AV.undef)).bind fun xV=>
     ((A.cell yx.1).bind fun v=>some [v]).bind fun oo=>
     (A.splice E1 oo xV).bind fun iU=>
     (A.add (v72.getD 3 AV.undef) aH).bind fun yC=>
     some (AX.normal,[(v72.getD 0 AV.undef),(v72.getD 1 AV.undef),(AV.lbx iU),yC],yx.2)) (
     some (AX.exit 4,[(v72.getD 0 AV.undef),(v72.getD 1 AV.undef),(v72.getD 2 AV.undef),(v72.getD 3 AV.undef)],sY)))) [.lbx (bl s),u,.lbx [vl,un,.aq,.aq,pl],.int .i64 0] σ=some q∧∃v W,q=(.exit 4,[.lbx (bl s),u,.lbx [vl,un,v,.aq,pl],.int .i64 (s.bJ.length:Int)],W)∧Hs bY aD W (Sl (fl dP) 3 v s.bJ*R) by
  obtain⟨q,e,v,W,rfl,K⟩:=h
  exact⟨v,W,e,K⟩
 refine nO (fun z v w=>∃(i:Nat) (vo:AV),i≤s.bJ.length∧v=[.lbx (bl s),u,.lbx [vl,un,vo,.aq,pl],.int .i64 (i:Int)]∧z=s.bJ.length-i∧Hs bY aD w (Sl (fl dP) 3 vo (s.bJ.take i)*R)) ?_ (n:=s.bJ.length) ⟨0,.aq,Nat.zero_le _,rfl,rfl,yA H (.inl rfl)⟩
 rintro z v w ⟨i,vo,hi,rfl,hz,K⟩
 by_cases h:i<s.bJ.length
 ·obtain⟨x,cG⟩:∃x,x=s.bJ[i]:=⟨_,rfl⟩
  have hx:s.bJ[i]? =some x:=by rw[cG];exact List.getElem?_eq_getElem h
  have hpb:=hb.pre.2 x (List.mem_of_getElem? hx)
  have hlb:=hb.pre.1
  have step:∃jy w',((fun v72 sY=>
    (A.lss (v72.getD 3 AV.undef) (AV.int .i64 (s.bJ.length:Int))).bind fun eu=>
    A.cond eu (
     (A.aW 3 (sl 3 dP s.bJ) (v72.getD 3 AV.undef)).bind fun iD=>
     ((A.deref iD sY).bind fun l7=>A.ay 0 3 l7).bind fun jg=>
     (A.cells 3 jg).bind fun Bk=>
     (A.splice 0 Bk [ah,bg,AV.aq]).bind fun uQ=>
     (A.aj 2 uQ).bind fun oC=>
     ((A.jr (.s 3) Fg) [oC] sY).bind fun yt=>
     ((A.cell yt.1).bind fun v=>some [v]).bind fun kI=>
     (A.splice 2 kI uQ).bind fun jc=>
     ((A.lb (v72.getD 2 AV.undef)).bind fun _=>some (2)).bind fun EZ=>
     ((A.lb (v72.getD 2 AV.undef)).bind fun xU=>A.aj EZ xU).bind fun mo=>
     (A.ay 0 3 jc).bind fun iF=>
     (((A.cells 3 iF).bind fun l8=>(A.splice 0 l8 [ah,bg,AV.aq]).bind fun l9=>some l9).bind fun cs=>some (AV.sl 3 (chunks 3 1 cs))).bind fun x91=>
     (A.append 3 (140737488355328 / 48) mo x91 yt.2).bind fun yx=>
     ((A.lb (v72.getD 2 AV.undef)).bind fun _=>some (2)).bind fun E1=>
     (A.lb (v72.getD 2 AV.undef)).bind fun xV=>
     ((A.cell yx.1).bind fun v=>some [v]).bind fun oo=>
     (A.splice E1 oo xV).bind fun iU=>
     (A.add (v72.getD 3 AV.undef) aH).bind fun yC=>
     some (AX.normal,[(v72.getD 0 AV.undef),(v72.getD 1 AV.undef),(AV.lbx iU),yC],yx.2)) (
     some (AX.exit 4,[(v72.getD 0 AV.undef),(v72.getD 1 AV.undef),(v72.getD 2 AV.undef),(v72.getD 3 AV.undef)],sY)))) [.lbx (bl s),u,.lbx [vl,un,vo,.aq,pl],.int .i64 (i:Int)] w=some (.normal,[.lbx (bl s),u,.lbx [vl,un,jy,.aq,pl],.int .i64 ((i+1:Nat):Int)],w')∧Hs bY aD w' (Sl (fl dP) 3 jy (s.bJ.take i++[x])*R):=by
   simp only[List.getD_cons_zero,List.getD_cons_succ]
   rw[jM hx,bS,cA,jk hx,bS,oq,bS,show A.ay 0 3 (dP x)=some (.agg (dP x))from rfl,bS,show A.cells 3 (.agg (dP x))=some (dP x)from rfl,bS,show A.splice 0 (dP x) [ah,bg,AV.aq]=some (dP x)from rfl,bS,show A.aj 2 (dP x)=some (sl 3 rR x.kD)from rfl,bS,FO (most:=140737488355328 / 32) (m:=Fg) (r0:=Oz) Wm rfl (fun _ _=>rfl) (by omega) w,bS]
   simp only[ij,bS]
   have JD:=AB K
   rw[show((A.cell (sl 3 rR x.kD)).bind fun v=>some [v])=some [sl 3 rR x.kD]from rfl,bS,show A.splice 2 [sl 3 rR x.kD] (dP x)=some (dP x)from rfl,bS,show A.aj 2 [vl,un,vo,.aq,pl]=some vo from JD,bS,show A.ay 0 3 (dP x)=some (.agg (dP x))from rfl,bS,show(((A.cells 3 (.agg (dP x))).bind fun iA=>(A.splice 0 iA [ah,bg,AV.aq]).bind fun ig=>some ig).bind fun cs=>some (AV.sl 3 (chunks 3 1 cs)))=some (.sl 3 [dP x])from rfl,bS]
   obtain⟨jy,w2,f1,f2⟩:=MG (most:=140737488355328 / 48) (E:=fl dP) (l:=s.bJ.take i) (v:=vo) (e:=dP x) (x:=x) (R:=R) (by rw[List.length_take];omega) (hs_eq (by ac_rfl) (nR.2 ⟨(rfl:dP x=dP x),K⟩))
   rw[f1,bS]
   simp only
   rw[show((A.cell jy).bind fun v=>some [v])=some [jy]from by rw[AB f2];rfl,bS,show A.splice 2 [jy] [vl,un,vo,.aq,pl]=some [vl,un,jy,.aq,pl]from rfl,bS,gK hx (by unfold aU;omega),bS]
   exact⟨jy,w2,rfl,f2⟩
  obtain⟨jy,w',s1,s2⟩:=step
  refine .inl ⟨s.bJ.length-(i+1),_,_,by omega,s1,i+1,jy,h,rfl,rfl,?_⟩
  rw[List.take_add_one,hx]
  exact s2
 ·have:i=s.bJ.length:=by omega
  subst this
  rw[List.take_length]at K
  refine .inr ⟨(.exit 4,[.lbx (bl s),u,.lbx [vl,un,vo,.aq,pl],.int .i64 (s.bJ.length:Int)],w),?_,by simp,vo,w,rfl,K⟩
  simp only[List.getD_cons_zero,List.getD_cons_succ]
  rw[j0,bS,cz]
theorem alF {l:List aY} (hl:l.length≤1000000) (H:Hs bY aD σ R):∃v σ',Dd [sl 11 aX l] σ=some (v,σ')∧A.cell v=some v∧Hs bY aD σ' (Sl (fl aX) 11 v l*R):=aob (by omega) H
theorem amA {s:gJ} (hb:Gw s) (H:Hs bY aD σ R) (vl un vp pl u:AV):∃v W,A.loop ((fun iS sC=>
     (A.lss (iS.getD 2 AV.undef) (AV.int .i64 (s.lists.length:Int))).bind fun nY=>
     A.cond nY (
      (A.aW 2 (sl 2 dR s.lists) (iS.getD 2 AV.undef)).bind fun nZ=>
      ((A.deref nZ sC).bind fun xk=>A.ay 0 2 xk).bind fun n4=>
      (A.cells 2 n4).bind fun DW=>
      (A.splice 0 DW [ah,AV.aq]).bind fun lT=>
      (A.aj 1 lT).bind fun x112=>
      (Dd [x112] sC).bind fun lW=>
      ((A.cell lW.1).bind fun v=>some [v]).bind fun DY=>
      (A.splice 1 DY lT).bind fun p5=>
      (A.aj 1 p5).bind fun Ek=>
      (A.bK Ek).bind fun qi=>
      (A.loop (fun dA fS=>
        (A.lss (dA.getD 3 AV.undef) qi).bind fun xO=>
        A.cond xO (
         ((A.lb (dA.getD 2 AV.undef)).bind fun _=>some (1)).bind fun A7=>
         ((A.lb (dA.getD 2 AV.undef)).bind fun nT=>A.aj A7 nT).bind fun sD=>
         (A.aW 11 sD (dA.getD 3 AV.undef)).bind fun jJ=>
         (A.aN jJ).bind fun xP=>
         (A.aA 10 xP).bind fun uJ=>
         ((A.deref uJ fS).bind fun lU=>A.aj 0 lU).bind fun mF=>
         (A.quiet ((A.jr (.s 8) Dc) [mF] fS) fS).bind fun qj=>
         (A.aN jJ).bind fun uK=>
         (A.aA 6 uK).bind fun lY=>
         (A.aA 1 lY).bind fun n5=>
         ((A.deref n5 fS).bind fun nU=>A.aj 0 nU).bind fun sE=>
         (A.quiet ((A.jr (.s 2) Db) [sE] fS) fS).bind fun lQ=>
         (A.aN jJ).bind fun sF=>
         (A.aA 10 sF).bind fun lZ=>
         ((A.cell qj).bind fun v=>some [v]).bind fun xw=>
         (A.storeAt lZ xw fS).bind fun xx=>
         (A.aN jJ).bind fun uL=>
         (A.aA 6 uL).bind fun xS=>
         (A.aA 1 xS).bind fun mQ=>
         ((A.cell lQ).bind fun v=>some [v]).bind fun AT=>
         (A.storeAt mQ AT xx).bind fun AU=>
         (A.add (dA.getD 3 AV.undef) aH).bind fun Be=>
         some (AX.normal,[(dA.getD 0 AV.undef),(dA.getD 1 AV.undef),(dA.getD 2 AV.undef),Be],AU)) (
         some (AX.exit 8,[(dA.getD 0 AV.undef),(dA.getD 1 AV.undef),(dA.getD 2 AV.undef),(dA.getD 3 AV.undef)],fS))) [(iS.getD 0 AV.undef),(iS.getD 1 AV.undef),(AV.lbx p5),ah] lW.2).bind fun iR=>
      bif iR.1==AX.exit 8 then(
       ((A.lb (iR.2.1.getD 1 AV.undef)).bind fun _=>some (3)).bind fun Ef=>
       ((A.lb (iR.2.1.getD 1 AV.undef)).bind fun xy=>A.aj Ef xy).bind fun x150=>
       ((A.lb (iR.2.1.getD 2 AV.undef)).bind fun xz=>A.ay 0 2 xz).bind fun x152=>
       (((A.cells 2 x152).bind fun uy=>(A.splice 0 uy [ah,AV.aq]).bind fun D1=>some D1).bind fun cs=>some (AV.sl 2 (chunks 2 1 cs))).bind fun Bf=>
       (A.append 2 (140737488355328 / 32) x150 Bf iR.2.2).bind fun xI=>
       ((A.lb (iR.2.1.getD 1 AV.undef)).bind fun _=>some (3)).bind fun Eg=>
       (A.lb (iR.2.1.getD 1 AV.undef)).bind fun xB=>
       ((A.cell xI.1).bind fun v=>some [v]).bind fun tE=>
       (A.splice Eg tE xB).bind fun xA=>
       (A.add (iS.getD 2 AV.undef) aH).bind fun El=>
       some (AX.normal,[(iR.2.1.getD 0 AV.undef),(AV.lbx xA),El],xI.2))else
      none) (
      some (AX.exit 6,[(iS.getD 0 AV.undef),(iS.getD 1 AV.undef),(iS.getD 2 AV.undef)],sC)))) [u,.lbx [vl,un,vp,.aq,pl],.int .i64 0] σ=some (.exit 6,[u,.lbx [vl,un,vp,v,pl],.int .i64 (s.lists.length:Int)],W)∧Hs bY aD W (Sl vF 2 v s.lists*R):=by
 suffices h:∃q,A.loop ((fun iS sC=>
     (A.lss (iS.getD 2 AV.undef) (AV.int .i64 (s.lists.length:Int))).bind fun nY=>
     A.cond nY (
      (A.aW 2 (sl 2 dR s.lists) (iS.getD 2 AV.undef)).bind fun nZ=>
      ((A.deref nZ sC).bind fun xk=>A.ay 0 2 xk).bind fun n4=>
      (A.cells 2 n4).bind fun DW=>
      (A.splice 0 DW [ah,AV.aq]).bind fun lT=>
      (A.aj 1 lT).bind fun x112=>
      (Dd [x112] sC).bind fun lW=>
      ((A.cell lW.1).bind fun v=>some [v]).bind fun DY=>
      (A.splice 1 DY lT).bind fun p5=>
      (A.aj 1 p5).bind fun Ek=>
      (A.bK Ek).bind fun qi=>
      (A.loop (fun dA fS=>
        (A.lss (dA.getD 3 AV.undef) qi).bind fun xO=>
        A.cond xO (
         ((A.lb (dA.getD 2 AV.undef)).bind fun _=>some (1)).bind fun A7=>
         ((A.lb (dA.getD 2 AV.undef)).bind fun nT=>A.aj A7 nT).bind fun sD=>
         (A.aW 11 sD (dA.getD 3 AV.undef)).bind fun jJ=>
         (A.aN jJ).bind fun xP=>
         (A.aA 10 xP).bind fun uJ=>
         ((A.deref uJ fS).bind fun lU=>A.aj 0 lU).bind fun mF=>
         (A.quiet ((A.jr (.s 8) Dc) [mF] fS) fS).bind fun qj=>
         (A.aN jJ).bind fun uK=>
         (A.aA 6 uK).bind fun lY=>
         (A.aA 1 lY).bind fun n5=>
         ((A.deref n5 fS).bind fun nU=>A.aj 0 nU).bind fun sE=>
         (A.quiet ((A.jr (.s 2) Db) [sE] fS) fS).bind fun lQ=>
         (A.aN jJ).bind fun sF=>
         (A.aA 10 sF).bind fun lZ=>
         ((A.cell qj).bind fun v=>some [v]).bind fun xw=>
         (A.storeAt lZ xw fS).bind fun xx=>
         (A.aN jJ).bind fun uL=>
         (A.aA 6 uL).bind fun xS=>
         (A.aA 1 xS).bind fun mQ=>
         ((A.cell lQ).bind fun v=>some [v]).bind fun AT=>
         (A.storeAt mQ AT xx).bind fun AU=>
         (A.add (dA.getD 3 AV.undef) aH).bind fun Be=>
         some (AX.normal,[(dA.getD 0 AV.undef),(dA.getD 1 AV.undef),(dA.getD 2 AV.undef),Be],AU)) (
         some (AX.exit 8,[(dA.getD 0 AV.undef),(dA.getD 1 AV.undef),(dA.getD 2 AV.undef),(dA.getD 3 AV.undef)],fS))) [(iS.getD 0 AV.undef),(iS.getD 1 AV.undef),(AV.lbx p5),ah] lW.2).bind fun iR=>
      bif iR.1==AX.exit 8 then(
       ((A.lb (iR.2.1.getD 1 AV.undef)).bind fun _=>some (3)).bind fun Ef=>
       ((A.lb (iR.2.1.getD 1 AV.undef)).bind fun xy=>A.aj Ef xy).bind fun x150=>
       ((A.lb (iR.2.1.getD 2 AV.undef)).bind fun xz=>A.ay 0 2 xz).bind fun x152=>
       (((A.cells 2 x152).bind fun uy=>(A.splice 0 uy [ah,AV.aq]).bind fun D1=>some D1).bind fun cs=>some (AV.sl 2 (chunks 2 1 cs))).bind fun Bf=>
       (A.append 2 (140737488355328 / 32) x150 Bf iR.2.2).bind fun xI=>
       ((A.lb (iR.2.1.getD 1 AV.undef)).bind fun _=>some (3)).bind fun Eg=>
       (A.lb (iR.2.1.getD 1 AV.undef)).bind fun xB=>
       ((A.cell xI.1).bind fun v=>some [v]).bind fun tE=>
       (A.splice Eg tE xB).bind fun xA=>
       (A.add (iS.getD 2 AV.undef) aH).bind fun El=>
       some (AX.normal,[(iR.2.1.getD 0 AV.undef),(AV.lbx xA),El],xI.2))else
      none) (
      some (AX.exit 6,[(iS.getD 0 AV.undef),(iS.getD 1 AV.undef),(iS.getD 2 AV.undef)],sC)))) [u,.lbx [vl,un,vp,.aq,pl],.int .i64 0] σ=some q∧∃v W,q=(.exit 6,[u,.lbx [vl,un,vp,v,pl],.int .i64 (s.lists.length:Int)],W)∧Hs bY aD W (Sl vF 2 v s.lists*R) by
  obtain⟨q,e,v,W,rfl,K⟩:=h
  exact⟨v,W,e,K⟩
 refine nO (fun z v w=>∃(i:Nat) (vo:AV),i≤s.lists.length∧v=[u,.lbx [vl,un,vp,vo,pl],.int .i64 (i:Int)]∧z=s.lists.length-i∧Hs bY aD w (Sl vF 2 vo (s.lists.take i)*R)) ?_ (n:=s.lists.length) ⟨0,.aq,Nat.zero_le _,rfl,rfl,yA H (.inl rfl)⟩
 rintro z v w ⟨i,vo,hi,rfl,hz,K⟩
 by_cases h:i<s.lists.length
 ·obtain⟨x,cG⟩:∃x,x=s.lists[i]:=⟨_,rfl⟩
  have hx:s.lists[i]? =some x:=by rw[cG];exact List.getElem?_eq_getElem h
  have hpb:=hb.bZ x (List.mem_of_getElem? hx)
  have hlb:=hb.Of
  have step:∃jy w',((fun iS sC=>
     (A.lss (iS.getD 2 AV.undef) (AV.int .i64 (s.lists.length:Int))).bind fun nY=>
     A.cond nY (
      (A.aW 2 (sl 2 dR s.lists) (iS.getD 2 AV.undef)).bind fun nZ=>
      ((A.deref nZ sC).bind fun xk=>A.ay 0 2 xk).bind fun n4=>
      (A.cells 2 n4).bind fun DW=>
      (A.splice 0 DW [ah,AV.aq]).bind fun lT=>
      (A.aj 1 lT).bind fun x112=>
      (Dd [x112] sC).bind fun lW=>
      ((A.cell lW.1).bind fun v=>some [v]).bind fun DY=>
      (A.splice 1 DY lT).bind fun p5=>
      (A.aj 1 p5).bind fun Ek=>
      (A.bK Ek).bind fun qi=>
      (A.loop (fun dA fS=>
        (A.lss (dA.getD 3 AV.undef) qi).bind fun xO=>
        A.cond xO (
         ((A.lb (dA.getD 2 AV.undef)).bind fun _=>some (1)).bind fun A7=>
         ((A.lb (dA.getD 2 AV.undef)).bind fun nT=>A.aj A7 nT).bind fun sD=>
         (A.aW 11 sD (dA.getD 3 AV.undef)).bind fun jJ=>
         (A.aN jJ).bind fun xP=>
         (A.aA 10 xP).bind fun uJ=>
         ((A.deref uJ fS).bind fun lU=>A.aj 0 lU).bind fun mF=>
         (A.quiet ((A.jr (.s 8) Dc) [mF] fS) fS).bind fun qj=>
         (A.aN jJ).bind fun uK=>
         (A.aA 6 uK).bind fun lY=>
         (A.aA 1 lY).bind fun n5=>
         ((A.deref n5 fS).bind fun nU=>A.aj 0 nU).bind fun sE=>
         (A.quiet ((A.jr (.s 2) Db) [sE] fS) fS).bind fun lQ=>
         (A.aN jJ).bind fun sF=>
         (A.aA 10 sF).bind fun lZ=>
         ((A.cell qj).bind fun v=>some [v]).bind fun xw=>
         (A.storeAt lZ xw fS).bind fun xx=>
         (A.aN jJ).bind fun uL=>
         (A.aA 6 uL).bind fun xS=>
         (A.aA 1 xS).bind fun mQ=>
         ((A.cell lQ).bind fun v=>some [v]).bind fun AT=>
         (A.storeAt mQ AT xx).bind fun AU=>
         (A.add (dA.getD 3 AV.undef) aH).bind fun Be=>
         some (AX.normal,[(dA.getD 0 AV.undef),(dA.getD 1 AV.undef),(dA.getD 2 AV.undef),Be],AU)) (
         some (AX.exit 8,[(dA.getD 0 AV.undef),(dA.getD 1 AV.undef),(dA.getD 2 AV.undef),(dA.getD 3 AV.undef)],fS))) [(iS.getD 0 AV.undef),(iS.getD 1 AV.undef),(AV.lbx p5),ah] lW.2).bind fun iR=>
      bif iR.1==AX.exit 8 then(
       ((A.lb (iR.2.1.getD 1 AV.undef)).bind fun _=>some (3)).bind fun Ef=>
       ((A.lb (iR.2.1.getD 1 AV.undef)).bind fun xy=>A.aj Ef xy).bind fun x150=>
       ((A.lb (iR.2.1.getD 2 AV.undef)).bind fun xz=>A.ay 0 2 xz).bind fun x152=>
       (((A.cells 2 x152).bind fun uy=>(A.splice 0 uy [ah,AV.aq]).bind fun D1=>some D1).bind fun cs=>some (AV.sl 2 (chunks 2 1 cs))).bind fun Bf=>
       (A.append 2 (140737488355328 / 32) x150 Bf iR.2.2).bind fun xI=>
       ((A.lb (iR.2.1.getD 1 AV.undef)).bind fun _=>some (3)).bind fun Eg=>
       (A.lb (iR.2.1.getD 1 AV.undef)).bind fun xB=>
       ((A.cell xI.1).bind fun v=>some [v]).bind fun tE=>
       (A.splice Eg tE xB).bind fun xA=>
       (A.add (iS.getD 2 AV.undef) aH).bind fun El=>
       some (AX.normal,[(iR.2.1.getD 0 AV.undef),(AV.lbx xA),El],xI.2))else
      none) (
      some (AX.exit 6,[(iS.getD 0 AV.undef),(iS.getD 1 AV.undef),(iS.getD 2 AV.undef)],sC)))) [u,.lbx [vl,un,vp,vo,pl],.int .i64 (i:Int)] w=some (.normal,[u,.lbx [vl,un,vp,jy,pl],.int .i64 ((i+1:Nat):Int)],w')∧Hs bY aD w' (Sl vF 2 jy (s.lists.take i++[x])*R):=by
   simp only[List.getD_cons_zero,List.getD_cons_succ]
   rw[jM hx,bS,cA,jk hx,bS,oq,bS,show A.ay 0 2 (dR x)=some (.agg (dR x))from rfl,bS,show A.cells 2 (.agg (dR x))=some (dR x)from rfl,bS,show A.splice 0 (dR x) [ah,AV.aq]=some (dR x)from rfl,bS,Qr,bS]
   obtain⟨pv,w1,c1,c2,c3⟩:=alF hpb.1 K
   have xZ:=ZW c3
   rw[c1,bS]
   simp only
   rw[show((A.cell pv).bind fun v=>some [v])=some [pv]from by rw[c2];rfl,bS,show A.splice 1 [pv] (dR x)=some [.int .i64 x.number,pv]from rfl,bS,show A.aj 1 [.int .i64 x.number,pv]=some pv from c2,bS,xZ.len,bS]
   refine Jg (aj7 hpb.2 hpb.1 xZ _ _) ?_
   simp only[nG,List.getD_cons_zero,List.getD_cons_succ,ij,bS]
   have JD:=AB K
   rw[show A.aj 3 [vl,un,vp,vo,pl]=some vo from JD,bS,show A.ay 0 2 [.int .i64 x.number,pv]=some (.agg [.int .i64 x.number,pv])from rfl,bS,ajB,bS]
   obtain⟨jy,w2,f1,f2⟩:=MG (most:=140737488355328 / 32) (E:=vF) (l:=s.lists.take i) (v:=vo) (e:=[.int .i64 x.number,pv]) (x:=x) (R:=R) (by rw[List.length_take];omega) (hs_eq (by ac_rfl) (abe.2 ⟨pv,rfl,c3⟩))
   rw[f1,bS]
   simp only
   rw[show((A.cell jy).bind fun v=>some [v])=some [jy]from by rw[AB f2];rfl,bS,show A.splice 3 [jy] [vl,un,vp,vo,pl]=some [vl,un,vp,jy,pl]from rfl,bS,gK hx (by unfold aU;omega),bS]
   exact⟨jy,w2,rfl,f2⟩
  obtain⟨jy,w',s1,s2⟩:=step
  refine .inl ⟨s.lists.length-(i+1),_,_,by omega,s1,i+1,jy,h,rfl,rfl,?_⟩
  rw[List.take_add_one,hx]
  exact s2
 ·have:i=s.lists.length:=by omega
  subst this
  rw[List.take_length]at K
  refine .inr ⟨(.exit 6,[u,.lbx [vl,un,vp,vo,pl],.int .i64 (s.lists.length:Int)],w),?_,by simp,vo,w,rfl,K⟩
  simp only[List.getD_cons_zero,List.getD_cons_succ]
  rw[j0,bS,cz]
end
theorem aiC {s:gJ} (hb:Gw s) (σ:Heap):Ll [.agg (bl s)] σ=some (.agg (bl s),σ):=by
 suffices h:∃v,A.nn (.a [(.e 3 [.k,.k,(.e 7 oV)]),(.s 4),(.e 3 [.k,.k,(.s 3)]),(.e 2 [.k,(.e 11 tK)]),(.s 3)]) v=.agg (bl s)∧PJ (.agg (bl s)) σ=some (v,σ) by
  obtain⟨v,h1,h2⟩:=h
  exact Ga rfl (ff (mA rfl) rfl) h1 h2
 unfold PJ
 have hu:=hb.un
 have hpl:=hb.pl
 rw[show A.cells 5 (.agg (bl s))=some (bl s)from rfl,bS,show A.aj 4 (bl s)=some (sl 3 cC s.bH)from rfl,bS,FO (most:=140737488355328 / 24) (m:=Ox) (r0:=Oy) PL rfl (fun _ _=>rfl) (by omega) σ,bS]
 simp only
 rw[show((((A.cell (sl 3 cC s.bH)).bind fun v=>some [v]).bind fun c4=>(A.splice 4 c4 ur).bind fun c5=>some c5).bind fun cs=>some (AV.agg cs))=some (.agg [AV.aq,AV.aq,AV.aq,AV.aq,sl 3 cC s.bH])from rfl,bS,show A.cells 5 (.agg [AV.aq,AV.aq,AV.aq,AV.aq,sl 3 cC s.bH])=some [AV.aq,AV.aq,AV.aq,AV.aq,sl 3 cC s.bH]from rfl,bS,show A.splice 0 [AV.aq,AV.aq,AV.aq,AV.aq,sl 3 cC s.bH] ur=some [AV.aq,AV.aq,AV.aq,AV.aq,sl 3 cC s.bH]from rfl,bS,show A.aj 1 (bl s)=some (sl 4 bB s.aR.units)from rfl,bS,FO (most:=140737488355328 / 40) (m:=OB) (r0:=OE) Re rfl (fun _ _=>rfl) (by omega) σ,bS]
 simp only
 rw[show((A.cell (sl 4 bB s.aR.units)).bind fun v=>some [v])=some [sl 4 bB s.aR.units]from rfl,bS,show A.splice 1 [sl 4 bB s.aR.units] [AV.aq,AV.aq,AV.aq,AV.aq,sl 3 cC s.bH]=some [AV.aq,sl 4 bB s.aR.units,AV.aq,AV.aq,sl 3 cC s.bH]from rfl,bS,Wu,bS,gf,bS]
 obtain⟨v1,W1,l1,K1⟩:=amy hb (R:=emp) (Gn (B:=bY) σ) (sl 4 bB s.aR.units) (sl 3 cC s.bH) (.lbx ur)
 refine S7 l1 ?_
 simp only[nG,List.getD_cons_zero,List.getD_cons_succ,ij,bS]
 rw[show A.aj 2 (bl s)=some (sl 3 dP s.bJ)from rfl,bS,gf,bS]
 obtain⟨v2,W2,l2,K2⟩:=amz hb K1 v1 (sl 4 bB s.aR.units) (sl 3 cC s.bH) (.lbx ur) (AB K1)
 refine S7 l2 ?_
 simp only[nG,List.getD_cons_zero,List.getD_cons_succ,ij,bS]
 rw[show A.aj 3 (bl s)=some (sl 2 dR s.lists)from rfl,bS,gf,bS]
 obtain⟨v3,W3,l3,K3⟩:=amA hb K2 v1 (sl 4 bB s.aR.units) v2 (sl 3 cC s.bH) (.lbx ur)
 refine S7 l3 ?_
 simp only[nG,List.getD_cons_zero,List.getD_cons_succ,ij,bS]
 rw[show A.ay 0 5 [v1,sl 4 bB s.aR.units,v2,v3,sl 3 cC s.bH]=some (.agg [v1,sl 4 bB s.aR.units,v2,v3,sl 3 cC s.bH])from rfl,bS,show A.cells 5 (.agg [v1,sl 4 bB s.aR.units,v2,v3,sl 3 cC s.bH])=some [v1,sl 4 bB s.aR.units,v2,v3,sl 3 cC s.bH]from rfl,bS,show A.splice 0 [v1,sl 4 bB s.aR.units,v2,v3,sl 3 cC s.bH] ur=some [v1,sl 4 bB s.aR.units,v2,v3,sl 3 cC s.bH]from rfl,bS,show A.ay 0 5 [v1,sl 4 bB s.aR.units,v2,v3,sl 3 cC s.bH]=some (.agg [v1,sl 4 bB s.aR.units,v2,v3,sl 3 cC s.bH])from rfl,bS]
 have J1:=hs_eq (show _=Sl vG 3 v1 s.aR.aS*(Sl vF 2 v3 s.lists*(Sl (fl dP) 3 v2 s.bJ*emp)) by ac_rfl) K3
 have J2:=hs_eq (show _=Sl (fl dP) 3 v2 s.bJ*(Sl vF 2 v3 s.lists*(Sl vG 3 v1 s.aR.aS*emp)) by ac_rfl) K3
 obtain⟨v1',a1,a2⟩:=ajx J1 (Nat.le_refl _) 6
 obtain⟨v2',b1,b2⟩:=MO J2 WR (Nat.le_refl _) 7
 obtain⟨v3',c1,c2⟩:=ajf K3 (Nat.le_refl _) 6
 refine⟨.agg [v1',sl 4 bB s.aR.units,v2',v3',sl 3 cC s.bH],?_,IJ K3 ?_ ?_⟩
 ·have J8:A.nn (.e 3 [.k,.k,(.s 3)]) v2'=sl 3 dP s.bJ:=by
   rcases b2 with⟨h,rfl|rfl⟩|rfl
   ·rw[h];rfl
   ·rw[h];rfl
   ·exact uD (fun _=>rfl) _
  show AV.agg (A.bT [(.e 3 [.k,.k,(.e 7 Nx)]),(.s 4),(.e 3 [.k,.k,(.s 3)]),(.e 2 [.k,(.e 11 GB)]),(.s 3)] _)=_
  simp only[A.bT,a2,J8,c2]
  rfl
 ·simp only[A.bw,A.eG,a1,b1,c1,pW Re _ W3 σ.length 8,pW PL _ W3 σ.length 8,Option.bind_some,Option.map_some]
 ·intro e
  have n1:v1'=v1:=by
   rcases Af J1 with⟨_,rfl|rfl,_⟩|⟨id,g,seg,rfl,hl,K⟩
   ·simp [A.bw]at a1;exact a1.symm
   ·simp [A.bw]at a1;exact a1.symm
   ·obtain⟨k1,k2⟩:=iW K
    have:=(List.getElem?_eq_some_iff.1 k2).1
    subst e;omega
  have n2:v2'=v2:=by
   rcases Af J2 with⟨_,rfl|rfl,_⟩|⟨id,g,seg,rfl,hl,K⟩
   ·simp [A.bw]at b1;exact b1.symm
   ·simp [A.bw]at b1;exact b1.symm
   ·obtain⟨k1,k2⟩:=iW K
    have:=(List.getElem?_eq_some_iff.1 k2).1
    subst e;omega
  have n3:v3'=v3:=by
   rcases Af K3 with⟨_,rfl|rfl,_⟩|⟨id,g,seg,rfl,hl,K⟩
   ·simp [A.bw]at c1;exact c1.symm
   ·simp [A.bw]at c1;exact c1.symm
   ·obtain⟨k1,k2⟩:=iW K
    have:=(List.getElem?_eq_some_iff.1 k2).1
    subst e;omega
  rw[n1,n2,n3]
end
end Go.Proofs.YtfcnnphidnjleaaGreat
