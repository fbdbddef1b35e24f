/- Parts of the proof of PlayPausesStandStill, in order. -/
import Derived.Orders
import Derived.Below
import Derived.WalkKit
import Derived.Laws.StructEq
import Derived.Laws.Append
import Derived.Laws.AppendOwn
import Derived.Test.YtooknfkholjpbaaGreatRows
import Derived.KernelRfl
import Derived.Lib.Bytealg
import Derived.Sort.Defs
import Derived.Lib.BitFns
import Derived.Test.YtooknfkholjpbaaGreatShelf
import Derived.Laws.Externs
import Derived.Lib.Overlaps
import Derived.IntWalk
import Derived.Sort.Statements
import Derived.Shelf.SlSortCmp.WholeK
import Derived.Shelf.SlSortCmp.NoneTotal
import Derived.Sort.AssemblyPlain
import Derived.Lib.Strings
import Derived.Test.YtooknfkholjpbaaGreatKPlayPausesStandStill4
namespace Go.Proofs.YtooknfkholjpbaaGreat
set_option linter.unusedVariables false
set_option linter.unusedSimpArgs false
set_option linter.unusedSectionVars false
section
set_option maxRecDepth 100000
open HP
theorem akR {s:List Sh} {ro:Sh} {r:AV→AV→AV→Heap→Option (AV×Heap)} {x y z v v':AV} {σ:Heap} (h:[x,y,z].any A.own=false) (e1:A.bW s [x,y,z]=[x,y,z]) (e2:A.nn ro v=v') (e:r x y z σ=some (v,σ)):A.wrap true s ro (A.lG r) [x,y,z] σ=some (v',σ):=by
 refine wrap_eq h ?_ e2
 rw[e1]
 exact e
theorem BJ {x y X Y:Int} (hx:0≤x) (hx2:x≤X) (hy:0≤y) (hy2:y≤Y):0≤x*y∧x*y≤X*Y:=⟨Int.mul_nonneg hx hy,Int.mul_le_mul hx2 hy2 hy (by omega)⟩
def mj (l:List lD) (p q:Int):Nat→Nat→Nat
 |0,i=>i
 |f+1,i=>if i+2<l.length∧(l.getD (i+1) dP).time*q≤1000*p then mj l p q f (i+1)else i
def SK (l:List lD) (p q:Int):Int:=(l.getD (mj l p q l.length 0) dP).way*((l.getD (mj l p q l.length 0+1) dP).time-(l.getD (mj l p q l.length 0) dP).time)*q+((l.getD (mj l p q l.length 0+1) dP).way-(l.getD (mj l p q l.length 0) dP).way)*(1000*p-(l.getD (mj l p q l.length 0) dP).time*q)
def SJ (l:List lD) (p q:Int):Int:=(l.getD (mj l p q l.length 0+1) dP).time-(l.getD (mj l p q l.length 0) dP).time
def nj (c:oQ) (p q:Nat):Nat×Nat:=
 if c.kind=2 then(p*p,q*q)else if c.kind=3 then(p*(2*q-p),q*q)else if c.kind=4 then(p*p*(3*q-2*p),q*q*q)else if c.kind=5 then(if p<q then(0,1)else(1,1))
 else if c.kind=6 then((SK c.points p q).toNat,(1000*SJ c.points p q).toNat*q)else(p,q)
structure Z6 (l : List lD) : Prop where
 two:2≤l.length
 len:l.length≤20
 bd:∀i,i<l.length→0≤(l.getD i dP).time∧(l.getD i dP).time≤1000∧0≤(l.getD i dP).way∧(l.getD i dP).way≤1000
 fst:(l.getD 0 dP).time=0
 lst:(l.getD (l.length-1) dP).time=1000
 ord:∀i,i+1<l.length→(l.getD i dP).time<(l.getD (i+1) dP).time∧(l.getD i dP).way≤(l.getD (i+1) dP).way
theorem alz {c:oQ} (h:oR c=0) (h6:c.kind=6):Z6 c.points:=by
 unfold oR at h
 split at h
 ·cases h
 try rw[if_pos h6]at h
 split at h
 ·cases h
 split at h
 ·cases h
 rename_i h2 IV
 unfold SC at h
 split at h
 ·cases h
 rename_i hb
 split at h
 ·cases h
 rename_i hf
 split at h
 ·cases h
 rename_i hl
 split at h
 ·cases h
 rename_i ho
 have hb':∀p∈c.points,Du p=false:=by
  intro p hp
  cases q:Du p
  ·rfl
  ·exact absurd (List.any_eq_true.2 ⟨p,hp,q⟩) hb
 have hf:=Decidable.not_not.1 hf
 have hl:=Decidable.not_not.1 hl
 refine⟨by omega,by omega,fun i hi=>?_,hf.1,hl.1,fun i hi=>?_⟩
 ·have e:=Bz hi
  have:=hb' _ (List.mem_of_getElem? e)
  unfold Du aR at this
  simp only[Bool.or_eq_false_iff,Bool.not_eq_false',decide_eq_true_eq]at this
  omega
 ·have h1:¬DN c.points (i+1)=true:=fun q=>ho (List.any_eq_true.2 ⟨i+1,by rw[List.mem_range'];exact⟨i,by omega,by omega⟩,q⟩)
  unfold DN at h1
  simp only[decide_eq_true_eq,Nat.add_sub_cancel]at h1
  omega
theorem Yi {l:List lD} {p q:Int}:∀(f i:Nat),i+f=l.length→i+1<l.length→(l.getD i dP).time*q≤1000*p→mj l p q f i+1<l.length∧(l.getD (mj l p q f i) dP).time*q≤1000*p∧(1000*p<(l.getD (mj l p q f i+1) dP).time*q∨mj l p q f i+2=l.length)
 |0,i,h1,h2,_=>by omega
 |f+1,i,h1,h2,h3=>by
  rw[mj]
  split
  ·rename_i h
   exact Yi f (i+1) (by omega) (by omega) h.2
  ·rename_i h
   refine⟨h2,h3,?_⟩
   by_cases h4:i+2<l.length
   ·exact .inl (Int.lt_of_not_ge fun q=>h ⟨h4,q⟩)
   ·exact .inr (by omega)
theorem ai7 {l : List lD} (hl : Z6 l) {p q : Int} (hp : 0 ≤ p) (hp2 : p ≤ 36000000) (hq : 0 < q) (vK : q ≤ 36000000) (σ : Heap) : ∃ r, A.loop ((fun v64 gm =>
        (A.add (v64.getD 2 AV.undef) (AV.int .i64 2)).bind fun jy=>
        (A.bG (sl 2 gV l)).bind fun gJ=>
        (A.lss jy gJ).bind fun fk=>
        (A.guard fk true (some (AV.int .i64 p)) an).bind fun eT=>
        (A.guard fk true (A.mul (AV.int .i64 1000) eT) an).bind fun mP=>
        (A.guard fk true (some (sl 2 gV l)) an).bind fun oa=>
        (A.guard fk true (some (v64.getD 2 AV.undef)) an).bind fun ij=>
        (A.guard fk true (A.add ij aG) an).bind fun iq=>
        (A.guard fk true (A.aU 2 oa iq) an).bind fun eC=>
        (A.guard fk true (A.aA 0 eC) an).bind fun jf=>
        (A.guard fk true ((A.deref jf gm).bind fun lS=>A.aj 0 lS) an).bind fun jA=>
        (A.guard fk true (some (AV.int .i64 q)) an).bind fun jS=>
        (A.guard fk true (A.mul jA jS) an).bind fun fT=>
        (A.guard fk true (A.geq mP fT) an).bind fun p6=>
        (A.pick fk p6 aM).bind fun p7=>
        A.cond p7 (
         (A.add (v64.getD 2 AV.undef) aG).bind fun rq=>
         some (AX.normal,[(v64.getD 0 AV.undef),(v64.getD 1 AV.undef),rq],gm)) (
         some (AX.exit 1,[(v64.getD 0 AV.undef),(v64.getD 1 AV.undef),(v64.getD 2 AV.undef)],gm)))) [.lbx [(AV.int .u64 0),(AV.int .u64 0)],.lbx [(AV.int .u64 0),(AV.int .u64 0)],.int .i64 0] σ=some r∧r=(.exit 1,[.lbx [(AV.int .u64 0),(AV.int .u64 0)],.lbx [(AV.int .u64 0),(AV.int .u64 0)],.int .i64 (mj l p q l.length 0:Nat)],σ):=by
 have IV:=hl.len
 refine mT (fun z v w=>∃i:Nat,v=[.lbx [(AV.int .u64 0),(AV.int .u64 0)],.lbx [(AV.int .u64 0),(AV.int .u64 0)],.int .i64 (i:Int)]∧w=σ∧z=l.length-i∧i≤l.length∧mj l p q (l.length-i) i=mj l p q l.length 0) ?_ (n:=l.length) ⟨0,rfl,rfl,rfl,Nat.zero_le _,rfl⟩
 rintro z v w ⟨i,rfl,rfl,hz,hi,hT⟩
 simp only[List.getD_cons_zero,List.getD_cons_succ]
 rw[show A.add (.int .i64 (i:Int)) (.int .i64 2)=some (.int .i64 ((i+2:Nat):Int))from Bs (b:=2) (by omega),bS,fE,bS,kO,bS]
 by_cases h1:i+2<l.length
 ·obtain⟨b1,b2,_,_⟩:=hl.bd (i+1) (by omega)
  have m1:=BJ b1 b2 (Int.le_of_lt hq) vK
  have ex:=Bz (l:=l) (i:=i+1) (by omega)
  rw[decide_eq_true (by omega)]
  simp only[gT,bS]
  rw[wG,wrap64 (by unfold aN;omega),bS,show A.add (.int .i64 (i:Int)) (.int .i64 1)=some (.int .i64 ((i+1:Nat):Int))from Bs (b:=1) (by omega),bS,iO ex,bS,show A.aA 0 (.rp (gV (l.getD (i+1) dP)))=some (.rp (gV (l.getD (i+1) dP)))from rfl,bS,nv,bS,show A.aj 0 (gV (l.getD (i+1) dP))=some (.int .i64 (l.getD (i+1) dP).time)from rfl,bS,wG,wrap64 (by unfold aN;omega),bS,rR,bS]
  simp only[lz,bS]
  rw[show l.length-i=(l.length-(i+1))+1 by omega,mj]at hT
  by_cases h2:(l.getD (i+1) dP).time*q≤1000*p
  ·rw[decide_eq_true h2,cQ]
   rw[if_pos ⟨h1,h2⟩]at hT
   exact .inl ⟨l.length-(i+1),_,_,by omega,rfl,i+1,rfl,rfl,rfl,by omega,hT⟩
  ·rw[decide_eq_false h2,cB]
   rw[if_neg (fun q=>h2 q.2)]at hT
   exact .inr ⟨_,rfl,by simp,by rw[hT]⟩
 ·rw[decide_eq_false (by omega)]
  simp only[ux,bS,mM]
  rw[cB]
  refine .inr ⟨_,rfl,by simp,?_⟩
  have:mj l p q (l.length-i) i=i:=by
   cases hf:l.length-i with
   |zero=>rfl
   |succ f=>rw[mj,if_neg (fun q=>h1 q.1)]
  rw[←hT,this]
theorem AT {α:Type} {X:Option α} {v:α} (h:∃b,X=some b∧b=v):X=some v:=by obtain⟨b,h,rfl⟩:=h;exact h
theorem aaD {c:oQ} (hc:oR c=0) {p q:Nat} (hp:0<p) (hpq:p<q) (hq:q≤36000000) (σ:Heap):KF [.agg (lP c),.int .i64 (p:Int),.int .i64 (q:Int)] σ=some (.aH [.agg (wd (nj c p q).1),.agg (wd (nj c p q).2)],σ)∧(nj c p q).1≤(nj c p q).2∧0<(nj c p q).2∧(nj c p q).2<100000000000000000000000000:=by
 have q2:q*q≤36000000*36000000:=Nat.mul_le_mul hq hq
 have q3:q*q*q≤36000000*36000000*36000000:=Nat.mul_le_mul q2 hq
 have TX:0<q*q:=Nat.mul_pos (by omega) (by omega)
 have q3p:0<q*q*q:=Nat.mul_pos TX (by omega)
 have pp:p*p≤q*q:=Nat.mul_le_mul (by omega) (by omega)
 have head:∀{v:AV},A.nn .k v=v→True:=fun _=>trivial
 have go:(KM (.agg (lP c)) (.int .i64 (p:Int)) (.int .i64 (q:Int)) σ=some (.aH [.agg (wd (nj c p q).1),.agg (wd (nj c p q).2)],σ))→KF [.agg (lP c),.int .i64 (p:Int),.int .i64 (q:Int)] σ=some (.aH [.agg (wd (nj c p q).1),.agg (wd (nj c p q).2)],σ):=fun h=>akR rfl (iV (qJ rfl) rfl) (iQ _) h
 suffices KM (.agg (lP c)) (.int .i64 (p:Int)) (.int .i64 (q:Int)) σ=some (.aH [.agg (wd (nj c p q).1),.agg (wd (nj c p q).2)],σ)∧(nj c p q).1≤(nj c p q).2∧0<(nj c p q).2∧(nj c p q).2<100000000000000000000000000 from⟨go this.1,this.2⟩
 clear go head
 unfold KM nj
 rw[show A.cells 2 (.agg (lP c))=some (lP c)from rfl,bS,yP (by omega),bS,wo (by omega) (by omega) (by omega),bS,nD,bS,oT,bS,show A.aj 0 (lP c)=some (.int .i64 c.kind)from rfl,bS,iH,bS]
 by_cases k2:c.kind=2
 ·rw[decide_eq_true k2,cQ,if_pos k2,quiet_of (yP (by omega) σ),bS,quiet_of (wo (by omega) (by omega) (by omega) σ),bS,mV,bS,nD,bS,oT,bS,nD,bS,oT,bS,mV,bS,mV,bS]
  exact⟨bC _ _,pp,TX,by omega⟩
 rw[decide_eq_false k2,cB,if_neg k2,iH,bS]
 by_cases k3:c.kind=3
 ·have hm:p*(2*q-p)≤q*q:=by
   obtain⟨t,rfl⟩:∃t,q=p+t:=⟨q-p,by omega⟩
   rw[show 2*(p+t) -p=p+2*t by omega,Nat.mul_add,Nat.add_mul,Nat.mul_add,Nat.mul_add]
   have e1:p*(2*t)=p*t+p*t:=by rw[←Nat.mul_add];congr 1;omega
   have e2:t*p=p*t:=Nat.mul_comm _ _
   rw[e1,e2];omega
  rw[decide_eq_true k3,cQ,if_pos k3,quiet_of (yP (by omega) σ),bS,Fh (by omega),bS,PX (by omega) (by omega),bS,quiet_of (wo (by omega) (by omega) (by omega) σ),bS,mV,bS,nD,bS,oT,bS,nD,bS,oT,bS,mV,bS,mV,bS]
  exact⟨bC _ _,hm,TX,by omega⟩
 rw[decide_eq_false k3,cB,if_neg k3,iH,bS]
 by_cases k4:c.kind=4
 ·have hm:p*p*(3*q-2*p)≤q*q*q:=by
   obtain⟨t,rfl⟩:∃t,q=p+t:=⟨q-p,by omega⟩
   rw[show 3*(p+t) -2*p=p+3*t by omega]
   have e1:(p+t)*(p+t)*(p+t)=p*p*(p+3*t)+(3*p*(t*t)+t*t*t):=by
    simp only[Nat.add_mul,Nat.mul_add]
    have a1:p*p*(3*t)=p*p*t+p*p*t+p*p*t:=by rw[show 3*t=t+t+t by omega,Nat.mul_add,Nat.mul_add]
    have a2:p*t*p=p*p*t:=by rw[Nat.mul_right_comm]
    have a3:t*p*p=p*p*t:=by rw[Nat.mul_comm t p,Nat.mul_right_comm]
    have a4:t*p*t=p*(t*t):=by rw[Nat.mul_comm t p,Nat.mul_assoc]
    have a5:p*t*t=p*(t*t):=Nat.mul_assoc _ _ _
    have a6:t*t*p=p*(t*t):=Nat.mul_comm _ _
    have a7:3*p*(t*t)=p*(t*t)+p*(t*t)+p*(t*t):=by rw[show 3*p=p+p+p by omega,Nat.add_mul,Nat.add_mul]
    rw[a1,a2,a3,a4,a5,a6,a7];omega
   rw[e1];omega
  rw[decide_eq_true k4,cQ,if_pos k4,quiet_of (yP (by omega) σ),bS,quiet_of (wo (by omega) (by omega) (by omega) σ),bS,show A.mul (.int .i64 3) (.int .i64 (q:Int))=some (.int .i64 ((3*q:Nat):Int))from ahq (a:=3) (by omega),bS,Fh (by omega),bS,PX (by omega) (by omega),bS,quiet_of (wo (by omega) (by omega) (by omega) σ),bS,mV,bS,quiet_of (wo (by omega) (by omega) (by omega) σ),bS,nD,bS,oT,bS,nD,bS,oT,bS,mV,bS,mV,bS]
  exact⟨bC _ _,hm,q3p,by omega⟩
 rw[decide_eq_false k4,cB,if_neg k4,iH,bS]
 by_cases k5:c.kind=5
 ·rw[decide_eq_true k5,cQ,if_pos k5,kO,bS,decide_eq_true (by omega),cQ,if_pos hpq,show oo [.int .i64 0] σ=some (.agg (wd 0),σ)from yP (n:=0) (by omega) σ,bS]
  simp only
  rw[show oo [.int .i64 1] σ=some (.agg (wd 1),σ)from yP (n:=1) (by omega) σ,bS]
  simp only
  rw[nD,bS,oT,bS,nD,bS,oT,bS,mV,bS,mV,bS]
  exact⟨bC _ _,by omega,by omega,by omega⟩
 rw[decide_eq_false k5,cB,if_neg k5,iH,bS]
 by_cases k6:c.kind=6
 ·rw[decide_eq_true k6,cQ,if_pos k6,show A.aj 1 (lP c)=some (sl 2 gV c.points)from rfl,bS]
  have hl:=alz hc k6
  have IV:=hl.len
  obtain⟨s1,s2,s3⟩:=Yi (l:=c.points) (p:=(p:Int)) (q:=(q:Int)) c.points.length 0 (by omega) (by have:=hl.two;omega) (by rw[hl.fst];omega)
  generalize hI:mj c.points (p:Int) (q:Int) c.points.length 0=i at s1 s2 s3
  obtain⟨a1,a2,a3,a4⟩:=hl.bd i (by omega)
  obtain⟨b1,b2,b3,b4⟩:=hl.bd (i+1) s1
  obtain⟨o1,o2⟩:=hl.ord i s1
  have exA:=Bz (l:=c.points) (i:=i) (by omega)
  have exB:=Bz (l:=c.points) (i:=i+1) s1
  have eN:SK c.points (p:Int) (q:Int)=(c.points.getD i dP).way*((c.points.getD (i+1) dP).time-(c.points.getD i dP).time)*(q:Int)+((c.points.getD (i+1) dP).way-(c.points.getD i dP).way)*(1000*(p:Int) -(c.points.getD i dP).time*(q:Int)):=by unfold SK;rw[hI]
  have eL:SJ c.points (p:Int) (q:Int)=(c.points.getD (i+1) dP).time-(c.points.getD i dP).time:=by unfold SJ;rw[hI]
  have hbt:1000*(p:Int)≤(c.points.getD (i+1) dP).time*(q:Int):=by
   rcases s3 with s3|s3
   ·omega
   ·have:=hl.lst
    rw[show c.points.length-1=i+1 by omega]at this
    rw[this];omega
  rw[eN,eL]
  generalize hA:c.points.getD i dP=pa at exA a1 a2 a3 a4 o1 o2 s2
  generalize hB:c.points.getD (i+1) dP=pb at exB b1 b2 b3 b4 o1 o2 hbt
  obtain⟨T,hT⟩:∃T,T=pb.time-pa.time:=⟨_,rfl⟩
  obtain⟨D,hD⟩:∃D,D=pb.way-pa.way:=⟨_,rfl⟩
  have m1:=BJ a1 a2 (show(0:Int)≤(q:Int) by omega) (show(q:Int)≤36000000 by omega)
  obtain⟨U,hU⟩:∃U,U=1000*(p:Int) -pa.time*(q:Int):=⟨_,rfl⟩
  have m2:=BJ a3 a4 (show 0≤T by omega) (show T≤1000 by omega)
  have m3:=BJ m2.1 m2.2 (show(0:Int)≤(q:Int) by omega) (show(q:Int)≤36000000 by omega)
  have m4:=BJ (show 0≤D by omega) (show D≤1000 by omega) (show 0≤U by omega) (show U≤36000000000 by omega)
  have m5:=BJ (show 0≤T by omega) (show T≤1000 by omega) (show(0:Int)≤(q:Int) by omega) (show(q:Int)≤36000000 by omega)
  have hUT:U≤T*(q:Int):=by rw[hT,Int.sub_mul];omega
  have m6:D*U≤D*(T*(q:Int)):=Int.mul_le_mul_of_nonneg_left hUT (by omega)
  have m7:pb.way*(T*(q:Int))≤1000*(T*(q:Int)):=Int.mul_le_mul_of_nonneg_right b4 m5.1
  have m8:pa.way*T*(q:Int)+D*(T*(q:Int))=pb.way*(T*(q:Int)):=by rw[hD,Int.sub_mul,Int.mul_assoc];omega
  rw[←hT,←hD,←hU]
  have t1:0<T:=by omega
  have t2:0<T*(q:Int):=Int.mul_pos t1 (by omega)
  have pZ:(((1000*T).toNat*q:Nat):Int)=1000*(T*(q:Int)):=by rw[Int.natCast_mul,Int.toNat_of_nonneg (by omega),Int.mul_assoc]
  refine⟨AT (FL (ai7 hl (p:=(p:Int)) (q:=(q:Int)) (by omega) (by omega) (by omega) (by omega) σ) ?_),by show(_:Nat)≤_;omega,by show 0<(_:Nat);omega,by show(_:Nat)<_;omega⟩
  rintro r rfl
  simp only[mJ,List.getD_cons_zero,List.getD_cons_succ]
  rw[hI,iO exA,bS,nv,bS,C2,bS,show A.add (.int .i64 (i:Int)) (.int .i64 1)=some (.int .i64 ((i+1:Nat):Int))from Bs (b:=1) (by omega),bS,iO exB,bS,nv,bS,C2,bS,CY,bS,C4 _ _ rfl,bS,CY,bS,C4 _ _ rfl,bS]
  rw[show A.aj 0 (gV pb)=some (.int .i64 pb.time)from rfl,bS,show A.aj 0 (gV pa)=some (.int .i64 pa.time)from rfl,bS,pE,wrap64 (by unfold aN;omega),←hT,bS,show A.aj 1 (gV pa)=some (.int .i64 pa.way)from rfl,bS,wG,wrap64 (by unfold aN;omega),bS,wG,wrap64 (by unfold aN;omega),bS,show A.aj 1 (gV pb)=some (.int .i64 pb.way)from rfl,bS,bS,pE,wrap64 (by unfold aN;omega),←hD,bS,wG,wrap64 (by unfold aN;omega),bS,bS,wG,wrap64 (by unfold aN;omega),bS,pE,wrap64 (by unfold aN;omega),←hU,bS,wG,wrap64 (by unfold aN;omega),bS,kN,wrap64 (by unfold aN;omega),bS]
  have of1:∀w,oo [.int .i64 (pa.way*T*(q:Int)+D*U)] w=some (.agg (wd (pa.way*T*(q:Int)+D*U).toNat),w):=fun w=>by
   have:=yP (n:=(pa.way*T*(q:Int)+D*U).toNat) (by omega) w
   rwa[Int.toNat_of_nonneg (by omega)]at this
  have of2:∀w,oo [.int .i64 (1000*T)] w=some (.agg (wd (1000*T).toNat),w):=fun w=>by
   have:=yP (n:=(1000*T).toNat) (by omega) w
   rwa[Int.toNat_of_nonneg (by omega)]at this
  rw[of1,bS,wG,wrap64 (by unfold aN;omega),bS]
  simp only
  rw[of2,bS]
  simp only
  rw[wo (by omega) (by omega) (by omega),bS]
  simp only
  rw[show A.lb (.lbx [(AV.int .u64 0),(AV.int .u64 0)])=some [(AV.int .u64 0),(AV.int .u64 0)]from rfl,bS,nD,bS,oT,bS,bS,nD,bS,oT,bS,mV,bS,mV,bS]
  exact⟨_,bC _ _,rfl⟩
 ·rw[decide_eq_false k6,cB,if_neg k6,yP (by omega),bS,yP (by omega),bS,nD,bS,oT,bS,nD,bS,oT,bS,mV,bS,mV,bS]
  exact⟨bC _ _,by omega,by omega,by omega⟩
end
section
set_option maxRecDepth 100000
open HP
structure rK (f : gB) : Prop where
 a:0≤f.dA∧f.dA≤65535
 b:0≤f.to∧f.to≤65535
 s:0≤f.start∧f.start≤36000000
 d:0≤f.delay∧f.delay≤36000000
 t:0≤f.time∧f.time≤36000000
 e:f.start+f.delay+f.time≤36000000
 c:oR f.fu=0
noncomputable def El (f:gB) (t:Int):Int:=
 if f.start+f.delay+f.time≤t then f.to
 else if t≤f.start+f.delay then f.dA
 else DS f.dA f.to (nj f.fu (t-(f.start+f.delay)).toNat f.time.toNat).1 (nj f.fu (t-(f.start+f.delay)).toNat f.time.toNat).2
theorem Fu {s:List Sh} {ro:Sh} {r:AV→AV→Heap→Option (AV×Heap)} {x y z v v':AV} {σ:Heap} (h:[x,y].any A.own=false) (e1:A.bW s [x,y]=[x,y]) (e2:A.nn ro v=v') (e:r x y σ=some (v,σ)):A.wrap true s ro (A.cR r) [x,y] σ=some (v',σ):=by
 refine wrap_eq h ?_ e2
 rw[e1]
 exact e
theorem amG {f:gB} (h:rK f) (t:Int) (σ:Heap):Pu [.agg (fG f),.int .i64 t] σ=some (.int .i64 (El f t),σ):=by
 obtain⟨a1,a2⟩:=h.a
 obtain⟨b1,b2⟩:=h.b
 obtain⟨s1,s2⟩:=h.s
 obtain⟨d1,d2⟩:=h.d
 obtain⟨t1,t2⟩:=h.t
 have he:=h.e
 refine Fu (z:=.int .i64 0) rfl (iV (qJ rfl) rfl) (iQ _) ?_
 unfold V7 El
 rw[C7,bS,KT,bS,Px,bS,kN,wrap64 (by unfold aN;omega),bS,V2,bS,kN,wrap64 (by unfold aN;omega),bS,rR,bS]
 by_cases h1:f.start+f.delay+f.time≤t
 ·rw[decide_eq_true h1,cQ,if_pos h1,V1,bS]
  exact bC _ _
 rw[decide_eq_false h1,cB,if_neg h1,Ia,bS]
 by_cases h2:t≤f.start+f.delay
 ·rw[decide_eq_true h2,cQ,if_pos h2,V0,bS]
  exact bC _ _
 rw[decide_eq_false h2,cB,if_neg h2,ady,bS,pE,wrap64 (by unfold aN;omega),bS,bS]
 obtain⟨w,l1,l2,l3⟩:=aaD h.c (p:=(t-(f.start+f.delay)).toNat) (q:=f.time.toNat) (by omega) (by omega) (by omega) σ
 rw[Int.toNat_of_nonneg (by omega),Int.toNat_of_nonneg (by omega)]at w
 rw[w,bS]
 simp only
 generalize nj f.fu (t-(f.start+f.delay)).toNat f.time.toNat=nd at l1 l2 l3 ⊢
 rw[kU,bS,ext1,bS,nD,bS,oT,bS,nD,bS,oT,bS,V0,bS,V1,bS,mV,bS,mV,bS,ai9 a1 a2 b1 b2 l2 l1 l3,bS]
 exact bC _ _
end
section
set_option maxRecDepth 100000
open HP
theorem Ft {s:List Sh} {ro:Sh} {r:AV→Heap→Option (AV×Heap)} {x v v':AV} {σ:Heap} (h:[x].any A.own=false) (e1:A.bW s [x]=[x]) (e2:A.nn ro v=v') (e:r x σ=some (v,σ)):A.wrap true s ro (A.cD r) [x] σ=some (v',σ):=by
 refine wrap_eq h ?_ e2
 rw[e1]
 exact e
theorem CG {n lo hi:Int} (h1:lo≤n) (h2:n≤hi):aR n lo hi=true:=by unfold aR;exact decide_eq_true ⟨h1,h2⟩
theorem pL (cs:List AV):A.aL (.rp cs)=some (.rp cs):=rfl
theorem kV (k:Nat) (cs:List AV):A.aA k (.rp cs)=some (.rp (cs.drop k)):=rfl
theorem WR {a b:Int} (h1:0≤a∧a≤65535) (h2:0≤b∧b≤65535):CR [a,b]=some 0:=by
 unfold CR
 rw[Bu (f:=fun _ n=>if(!(aR n 0 65535))=true then 1 else 0) (by show 2≤aW;decide) (fun i x _=>by show(if _ then _ else _)=_;by_cases h:(!(aR x 0 65535))=true<;>simp only[h,if_true,if_false]<;>rfl)]
 simp only[iE,CG h1.1 h1.2,CG h2.1 h2.2]
 rfl
theorem ak4 {f:gB} (h:rK f):GO f=some 0:=by
 obtain⟨s1,s2⟩:=h.s
 obtain⟨d1,d2⟩:=h.d
 obtain⟨t1,t2⟩:=h.t
 have he:=h.e
 unfold GO
 rw[WR h.a h.b,Option.bind_some,if_neg (fun q=>q rfl),CG s1 s2,CG d1 d2,CG t1 t2,show IntKind.i64.wrap (f.start+f.delay)=f.start+f.delay from wrap64 (by unfold aN;omega),wrap64 (by unfold aN;omega),CG (by omega) he,h.c]
 rfl
theorem alR {f:gB} (h:rK f) {t:Int} (ht:0≤t) (ht2:t≤36000000) (σ:Heap):Pt [.agg (fG f),.int .i64 t] σ=some (.aH [.int .i64 (El f t),.int .i64 0],σ):=by
 refine Fu (z:=.int .i64 0) rfl (iV (qJ rfl) rfl) (iQ _) ?_
 unfold V6
 rw[C7,bS,Fp,bS,acR (ak4 h),bS]
 simp only
 rw[GV (r:=true) (by unfold Ks;rw[CG ht ht2]),bS]
 simp only
 rw[aod,bS,uS,bS]
 simp only
 rw[show((((A.cell (.int .i64 0)).bind fun v=>some [v]).bind fun c7=>(A.splice 0 c7 [ah,ah]).bind fun c8=>((A.cell (.int .i64 (if false=true then 1 else 0))).bind fun v=>some [v]).bind fun c9=>(A.splice 1 c9 c8).bind fun dY=>some dY).bind fun cs=>some (AV.sl 1 (chunks 1 2 cs)))=some (sl 1 rT [0,0])from rfl,bS,C5 _ (by decide),bS]
 simp only
 rw[show((List.find? (fun n=>decide (¬n=0)) ([0,0]:List Int)).getD 0)=0 from rfl,aaL,bS,decide_eq_false (fun q=>q rfl),cB,bS,amG h,bS]
 exact bC _ _
noncomputable def uG (r:cq) (c:Int):Int:=El r.jN (if 36000000<c then 36000000 else c)
theorem HD {r:cq} (h:rK r.jN) {c:Int} (hc:0≤c) (σ:Heap):uK [.agg (fq r),.int .i64 c] σ=some (.int .i64 (uG r c),σ):=by
 refine Fu (z:=.int .i64 0) rfl (iV (qJ rfl) rfl) (iQ _) ?_
 unfold UI
 rw[yl,bS,adW,bS,show A.min (.int .i64 c) (.int .i64 36000000)=some (.int .i64 (if 36000000<c then 36000000 else c))from rfl,bS,alR h (by split<;>omega) (by split<;>omega),bS,kU,bS,ext1,bS]
 exact bC _ _
def dm (c:zC) (t:Int):Int:=if c.jL=true then c.shown else IntKind.i64.wrap (IntKind.i64.wrap (c.shown+t) -c.since)
theorem Mv (c:zC) (t:Int) (σ:Heap):vR [.agg (uU c),.int .i64 t] σ=some (.int .i64 (dm c t),σ):=by
 refine Me rfl ?_
 unfold UM dm
 rw[PO,bS,ae4,bS]
 cases c.jL
 ·rw[cB,if_neg (by decide),VB,bS,kN,bS,ae3,bS,pE,bS];exact bC _ _
 ·rw[cQ,if_pos rfl,VB,bS];exact bC _ _
def SE (r:cq):Int:=IntKind.i64.wrap (IntKind.i64.wrap (r.jN.start+r.jN.delay)+r.jN.time)
theorem al3 (r:cq) (σ:Heap):Ov [.agg (fq r)] σ=some (.int .i64 (SE r),σ):=by
 refine Ft rfl (iV (qJ rfl) rfl) (iQ _) ?_
 unfold US
 rw[yl,bS,af9,bS,aga,bS,kN,bS,agb,bS,kN,bS]
 exact bC _ _
def gK (b:bf):Int:=if b.follow<0∨b.clock.jL=true then -1 else IntKind.i64.wrap (IntKind.i64.wrap (b.clock.since+b.follow) -b.clock.shown)
theorem al2 (b:bf) (σ:Heap):Bm [.rp (aK b)] σ=some (.int .i64 (gK b),σ):=by
 refine Ft rfl rfl (iQ _) ?_
 unfold UH gK
 rw[pL,bS,kV,bS,Vo,bS,kO,bS]
 by_cases hf:b.follow<0
 ·rw[decide_eq_true hf]
  simp only[xD,bS,lz]
  rw[cQ,if_pos (.inl hf)]
  exact bC _ _
 rw[decide_eq_false hf]
 simp only[gF,bS,pL,kV,mM,List.drop_zero,aeM]
 cases hs:b.clock.jL
 ·rw[cB,if_neg (fun q=>q.elim hf (fun q=>by cases q))]
  simp only[aeL,show ∀(x:bf) {σ:Heap},((A.deref (.rp (aK x)) σ).bind fun c=>A.aj 0 c)=some (.int .i64 x.clock.shown)from fun _ _=>rfl,Vo,bS,kN,pE]
  exact bC _ _
 ·rw[cQ,if_pos (.inr rfl)]
  exact bC _ _
end
section
set_option maxRecDepth 100000
open HP
theorem gU (X:Option AV) (w:Bool) (d:Option AV):A.guard (.aH []) w X d=d:=by have h:A.guard (.aH []) w X d=d:=rfl;exact h.trans (Eq.refl d)
theorem wY (b:Bool):A.not (.bool b)=some (.bool (!b)):=rfl
section
variable {κ ν : Type} [DecidableEq κ] {ek : A.EK} {eK : κ → AV} {eV : ν → AV} {σ : Heap} {o : Option (List (κ × ν))}
theorem afI (hq:∀a b,A.dZ ek (eK a) (eK b)=some (decide (a=b))) (x:κ) (z:AV) (hok:A.jq ek (eK x)=true):A.Dh ek (nw eK eV o) (eK x) z σ=some (.aH [((cC x (o.getD [])).map eV).getD z,.bool (cC x (o.getD [])).isSome]):=by
 cases o with
 |none=>simp only[A.Dh,nw,hok,cond_true,A.entries,Option.bind_some,Option.getD_none,cC];rfl
 |some l=>simp only[A.Dh,nw,uw,hok,cond_true,A.entries,Option.bind_some,BI hq,Option.map_some,Option.getD_some,Option.isSome_map]
theorem ail (hq:∀a b,A.dZ ek (eK a) (eK b)=some (decide (a=b))) (x:κ) (z:AV) (hok:A.jq ek (eK x)=true):A.look ek (nw eK eV o) (eK x) z σ=some (((cC x (o.getD [])).map eV).getD z):=by
 cases o with
 |none=>simp only[A.look,nw,hok,cond_true,A.entries,Option.bind_some,Option.getD_none,cC];rfl
 |some l=>simp only[A.look,nw,uw,hok,cond_true,A.entries,Option.bind_some,BI hq,Option.map_some,Option.getD_some]
end
def amB:cq:=⟨⟨0,0,0,0,0,⟨0,[]⟩⟩,0,false⟩
def dH (b:bf) (k:aB) (c:Int):cq×Bool:=match cC k (b.runs.getD [])with
 |none=>(amB,false)
 |some r=>(r,!(r.ending&&decide (SE r≤c)))
abbrev ng:List AV:=[ah,ah,ah,ah,ah,ah,AV.au,ah,aM]
theorem Rh {ro:Sh} {r:AV→AV→AV→Heap→Option (AV×Heap)} {x y z v v':AV} {σ σ':Heap} (e2:A.nn ro v=v') (e:r x y z σ=some (v,σ')):A.wrap false [] ro (A.lG r) [x,y,z] σ=some (v',σ'):=by
 have:A.lG r [x,y,z] σ=some (v,σ'):=e
 simp only[A.wrap,Bool.false_and,cond_false,A.bW,this,Option.map_some,e2]
theorem XC {p q:AV} (b:bf) (k:aB) (c:Int) (σ:Heap) (h1:A.aL p=some p) (h2:A.aA 9 p=some q) (h3:((A.deref q σ).bind fun c=>A.aj 0 c)=some (nw (fun x=>AV.agg (aO x)) (fun x=>AV.agg (fq x)) b.runs)):p9 [p,.agg (aO k),.int .i64 c] σ=some (.aH [.agg (fq (dH b k c).1),.bool (dH b k c).2],σ):=by
 suffices ∃v,A.nn (.t [(.a [.k,.k,.k,.k,.k,.k,(.s 2),.k,.k]),.k]) v=.aH [.agg (fq (dH b k c).1),.bool (dH b k c).2]∧NY p (.agg (aO k)) (.int .i64 c) σ=some (v,σ) by
  obtain⟨v,h1,h2⟩:=this
  exact Rh h1 h2
 unfold NY dH
 rw[Da,bS,h1,bS,h2,bS,h3,bS,rJ,bS,afI qt k _ rfl,bS,kU,bS,ext1,bS]
 cases cC k (b.runs.getD [])with
 |none=>
  refine⟨.aH [.agg ng,.bool false],rfl,?_⟩
  simp only[Option.map_none,Option.getD_none,Option.isSome_none]
  rw[show A.cells 9 (.agg ng)=some ng from rfl,bS,show A.splice 0 ng ng=some ng from rfl,bS,show A.ay 0 9 ng=some (.agg ng)from rfl,bS]
  simp only[ux,gU,bS,mM,show A.cells 9 (.agg ng)=some ng from rfl,show A.splice 0 ng ng=some ng from rfl,show A.ay 0 9 ng=some (.agg ng)from rfl]
  exact bC _ _
 |some r=>
  refine⟨.aH [.agg (fq r),.bool (!(r.ending&&decide (SE r≤c)))],rfl,?_⟩
  simp only[Option.map_some,Option.getD_some,Option.isSome_some]
  rw[yl,bS,Bv _ _ rfl,bS,uP,bS]
  simp only[gT,bS,KU]
  cases he:r.ending
  ·simp only[ux,bS,mM,lz,wY,yl,uP,Bv r _ (show ng.length=9 from rfl)]
   exact bC _ _
  ·simp only[gT,bS,uP,quiet_of (al3 r σ),rR]
   simp only[bS,lz,wY,yl,uP,Bv r _ (show ng.length=9 from rfl)]
   exact bC _ _
theorem aic (b:bf) (k:aB) (c:Int) (σ:Heap):p9 [.rp (aK b),.agg (aO k),.int .i64 c] σ=some (.aH [.agg (fq (dH b k c).1),.bool (dH b k c).2],σ):=XC b k c σ rfl rfl (KB b)
def mn (a b:Int):Int:=if b<a then b else a
theorem M4 (a b:Int):A.min (.int .i64 a) (.int .i64 b)=some (.int .i64 (mn a b)):=rfl
def sY (f:gB):gB:=
 {f with start:=mn f.start 36000000,delay:=mn f.delay (IntKind.i64.wrap (36000000-mn f.start 36000000)),time:=mn f.time (IntKind.i64.wrap (IntKind.i64.wrap (36000000-mn f.start 36000000) -mn f.delay (IntKind.i64.wrap (36000000-mn f.start 36000000))))}
abbrev zM:List AV:=[ah,ah,ah,ah,ah,ah,AV.au]
theorem oW (n:Int):((A.cell (.int .i64 n)).bind fun v=>some [v])=some [.int .i64 n]:=rfl
theorem amy (f:gB) (n:Int):A.splice 2 [.int .i64 n] (fG f)=some (fG {f with start:=n}):=rfl
theorem aay (f:gB) (n:Int):A.splice 3 [.int .i64 n] (fG f)=some (fG {f with delay:=n}):=rfl
theorem H7 (f:gB) (n:Int):A.splice 4 [.int .i64 n] (fG f)=some (fG {f with time:=n}):=rfl
theorem Rj (f:gB) (σ:Heap):uN [.agg (fG f)] σ=some (.agg (fG (sY f)),σ):=by
 refine Ft rfl (iV (qJ rfl) rfl) (v:=.agg (fG (sY f))) rfl ?_
 unfold V8 sY
 rw[C7,bS,KT,bS,M4,bS,oW,bS,amy,bS,Px,bS,KT,bS,pE,bS,M4,bS,oW,bS,aay,bS,V2,bS,KT,bS,pE,bS,Px,bS,pE,bS,M4,bS,oW,bS,H7,bS,Fp,bS,C7,bS,LN _ _ rfl,bS,Fp,bS]
 exact bC _ _
end
section
set_option maxRecDepth 100000
open HP
def zh (a b:Int):Int:=(2*(a*b)+65535) / 131070
theorem ai3 {a b:Int} (h1:0≤a∧a≤65535) (h2:0≤b∧b≤65535):GZ a b=some (zh a b,0):=by
 have m:=BJ h1.1 h1.2 h2.1 h2.2
 unfold GZ
 rw[WR h1 h2,Option.bind_some,if_neg (fun q=>q rfl)]
 unfold G5 G4 zh
 rw[show IntKind.i64.wrap (a*b)=a*b from wrap64 (by unfold aN;omega),show IntKind.i64.wrap (2*(a*b))=2*(a*b)from wrap64 (by unfold aN;omega),show IntKind.i64.wrap (2*(a*b)+65535)=2*(a*b)+65535 from wrap64 (by unfold aN;omega),show IntKind.i64.wrap (2*65535)=131070 from wrap64 (by unfold aN;omega)]
 have q1:IF (2*(a*b)+65535) 131070=some ((2*(a*b)+65535) / 131070):=by
  unfold IF
  rw[if_neg (by decide),Int.tdiv_eq_ediv_of_nonneg (by omega),wrap64 (by unfold aN;omega)]
 have q2:IG (2*(a*b)+65535) 131070=some ((2*(a*b)+65535) % 131070):=by
  unfold IG
  rw[if_neg (by decide),Int.tmod_eq_emod_of_nonneg (by omega)]
 rw[q1,Option.bind_some,q2,Option.bind_some,if_neg (by omega)]
 rfl
theorem Y5 {a b:Int} (h1:0≤a∧a≤65535) (h2:0≤b∧b≤65535) (σ:Heap):CS [.int .i64 a,.int .i64 b] σ=some (.aH [.int .i64 (zh a b),.int .i64 0],σ):=adT (ai3 h1 h2)
theorem alF {a b:Int} (h1:0≤a∧a≤65535) (h2:0≤b∧b≤65535):0≤zh a b∧zh a b≤65535:=by
 have m:=BJ h1.1 h1.2 h2.1 h2.2
 unfold zh;omega
theorem akM {a b:Int} (ha:0≤a∧a≤65535) (hb:0≤b∧b≤65535) {n d:Nat} (hnd:n≤d) (hd:0<d):0≤DS a b n d∧DS a b n d≤65535:=by
 unfold DS
 have key:∀m:Nat,(2*m*n+d) / (2*d)≤m:=fun m=>by
  refine Nat.le_of_lt_succ ((Nat.div_lt_iff_lt_mul (by omega)).2 ?_)
  have:m*n≤m*d:=Nat.mul_le_mul_left _ hnd
  have e1:2*m*n=2*(m*n):=Nat.mul_assoc _ _ _
  have e2:(m+1)*(2*d)=2*(m*d)+2*d:=by rw[Nat.add_mul,Nat.mul_left_comm];omega
  rw[e1,e2];omega
 split
 ·have:=key (b-a).toNat
  generalize (2*(b-a).toNat*n+d) / (2*d)=q at this ⊢
  omega
 ·have k:=key (a-b).toNat
  have:(2*(a-b).toNat*n+d-1) / (2*d)≤(2*(a-b).toNat*n+d) / (2*d):=Nat.div_le_div_right (by omega)
  generalize (2*(a-b).toNat*n+d) / (2*d)=q at this k
  generalize (2*(a-b).toNat*n+d-1) / (2*d)=q' at this ⊢
  omega
theorem alk {f:gB} (h:rK f) (t:Int):0≤El f t∧El f t≤65535:=by
 obtain⟨a1,a2⟩:=h.a
 obtain⟨b1,b2⟩:=h.b
 obtain⟨s1,s2⟩:=h.s
 obtain⟨d1,d2⟩:=h.d
 obtain⟨t1,t2⟩:=h.t
 have he:=h.e
 unfold El
 split
 ·exact⟨b1,b2⟩
 split
 ·exact⟨a1,a2⟩
 obtain⟨_,l1,l2,_⟩:=aaD h.c (p:=(t-(f.start+f.delay)).toNat) (q:=f.time.toNat) (by omega) (by omega) (by omega) []
 exact akM ⟨a1,a2⟩ ⟨b1,b2⟩ l1 l2
theorem FM {r:cq} (h:rK r.jN) (c:Int):0≤uG r c∧uG r c≤65535:=alk h _
structure rP (b : bf) (t : Int) : Prop where
 runs:∀k r,cC k (b.runs.getD [])=some r→rK r.jN
 jg:0≤b.jg∧b.jg≤65535
 pX:0≤dm b.clock t
def eW (d:bF) (k:aB):Int×Int×Bool:=match cC k (d.params.getD [])with
 |none=>(0,0,false)
 |some p=>(p.group,p.default,p.snap)
abbrev Dp:List AV:=[br,ah,ah,ah,ah,aM,AV.au]
def jI (d:bF) (k:aB):List AV:=match cC k (d.params.getD [])with
 |none=>Dp
 |some p=>eU p
theorem XW (d:bF) (k:aB) (σ:Heap):A.look (.s [0,2]) (nw (fun x=>AV.agg (aO x)) (fun x=>AV.agg (eU x)) d.params) (.agg (aO k)) (.agg Dp) σ=some (.agg (jI d k)):=by
 rw[ail qt k _ rfl]
 unfold jI
 cases cC k (d.params.getD [])<;>rfl
theorem FG (d:bF) (k:aB):A.cells 7 (.agg (jI d k))=some (jI d k):=by unfold jI;cases cC k (d.params.getD [])<;>rfl
theorem ZY (d:bF) (k:aB):A.splice 0 (jI d k) Dp=some (jI d k):=by
 unfold jI
 cases cC k (d.params.getD [])
 ·rfl
 ·exact Ln _ _ rfl
theorem zI (d:bF) (k:aB):A.aj 1 (jI d k)=some (.int .i64 (eW d k).1):=by unfold jI eW;cases cC k (d.params.getD [])<;>rfl
theorem alw (d:bF) (k:aB):A.aj 4 (jI d k)=some (.int .i64 (eW d k).2.1):=by unfold jI eW;cases cC k (d.params.getD [])<;>rfl
theorem alx (d:bF) (k:aB):A.aj 5 (jI d k)=some (.bool (eW d k).2.2):=by unfold jI eW;cases cC k (d.params.getD [])<;>rfl
structure DW where
 out:Int
 owner:Int
 pri:Int
 lY:Int
noncomputable def Gb (g:Int) (b:bf) (r:cq) (c:Int):Int:=if g=1 then zh (uG r c) b.jg else uG r c
noncomputable def oS (g:Int) (k:aB) (t:Int) (s:DW) (b:bf):DW:=
 if(dH b k (dm b.clock t)).2=false∨b.priority<s.pri then s
 else if s.pri<b.priority∨(g=1∧s.out<Gb g b (dH b k (dm b.clock t)).1 (dm b.clock t))∨(¬g=1∧s.lY<(dH b k (dm b.clock t)).1.lY)then⟨Gb g b (dH b k (dm b.clock t)).1 (dm b.clock t),b.number,b.priority,(dH b k (dm b.clock t)).1.lY⟩
 else s
noncomputable def oK (d:bF) (bs:List bf) (k:aB) (t:Int):DW:=bs.foldl (oS (eW d k).1 k t) ⟨(eW d k).2.1,0,-1,0⟩
theorem hG (cs:List AV):A.lb (.lbx cs)=some cs:=rfl
theorem zD {b:bf} {t:Int} (h:rP b t) {k:aB} (hd:(dH b k (dm b.clock t)).2=true):rK (dH b k (dm b.clock t)).1.jN:=by
 have h:=h.runs k
 revert hd h
 unfold dH
 generalize cC k (b.runs.getD [])=o
 cases o with
 |none=>intro hd;cases hd
 |some r=>intro _ h;exact h r rfl
theorem ah6 (b:bf) (σ:Heap):((A.deref (.rp ((aK b).drop 0)) σ).bind fun c=>A.ay 0 3 c)=some (.agg (uU b.clock)):=rfl
theorem ae0 {d:bF} {s:bX} {k:aB} {t:Int} (hs:s.az.length≤aW) {i:Nat} {b:bf} (hb:s.az[i]? =some b) (ho:rP b t) (m:DW) (σ:Heap):((fun aX kS=>
   (A.lss (aX.getD 6 AV.undef) (AV.int .i64 (s.az.length:Int))).bind fun cW=>
   A.cond cW (
    (A.aL (AV.rp (rM s))).bind fun dg=>
    (A.aA 0 dg).bind fun bM=>
    ((A.deref bM kS).bind fun gq=>A.aj 0 gq).bind fun eP=>
    (A.aU 10 eP (aX.getD 6 AV.undef)).bind fun x24=>
    (A.aL x24).bind fun x25=>
    (A.aA 0 x25).bind fun fC=>
    ((A.deref fC kS).bind fun kD=>A.ay 0 3 kD).bind fun x28=>
    (vR [x28,(AV.int .i64 t)] kS).bind fun gj=>
    ((A.lb (aX.getD 0 AV.undef)).bind fun su=>A.ay 0 2 su).bind fun x31=>
    (p9 [x24,x31,gj.1] gj.2).bind fun r32=>
    (A.ext 0 r32.1).bind fun ey=>
    (A.ext 1 r32.1).bind fun x34=>
    (A.cells 9 ey).bind fun gX=>
    (A.splice 0 gX [ah,ah,ah,ah,ah,ah,AV.au,ah,aM]).bind fun gY=>
    (A.not x34).bind fun bU=>
    (A.guard bU false (some x24) an).bind fun x38=>
    (A.guard bU false (A.aL x38) an).bind fun ff=>
    (A.guard bU false (A.aA 4 ff) an).bind fun cZ=>
    (A.guard bU false ((A.deref cZ r32.2).bind fun uq=>A.aj 0 uq) an).bind fun ga=>
    (A.guard bU false (some (aX.getD 4 AV.undef)) an).bind fun fJ=>
    (A.guard bU false (A.lss ga fJ) an).bind fun eR=>
    (A.pick bU cL eR).bind fun ef=>
    A.cond ef (
     (A.add (aX.getD 6 AV.undef) aG).bind fun fK=>
     some (AX.normal,[(aX.getD 0 AV.undef),(aX.getD 1 AV.undef),(aX.getD 2 AV.undef),(aX.getD 3 AV.undef),(aX.getD 4 AV.undef),(aX.getD 5 AV.undef),fK],r32.2)) (
     (A.ay 0 9 gY).bind fun iJ=>
     (uK [iJ,gj.1] r32.2).bind fun kJ=>
     ((A.lb (aX.getD 1 AV.undef)).bind fun _=>some (1)).bind fun Jr=>
     ((A.lb (aX.getD 1 AV.undef)).bind fun nR=>A.aj Jr nR).bind fun gP=>
     (A.eql .i gP aG).bind fun eB=>
     (A.cond eB (
      (A.aL x24).bind fun gy=>
      (A.aA 7 gy).bind fun kL=>
      ((A.deref kL kJ.2).bind fun pR=>A.aj 0 pR).bind fun jJ=>
      (CS [kJ.1,jJ] kJ.2).bind fun xL=>
      (A.ext 0 xL.1).bind fun eG=>
      (A.ext 1 xL.1).bind fun gE=>
      some ([(aX.getD 0 AV.undef),(aX.getD 1 AV.undef),(AV.lbx gY),eG],xL.2)) (
      some ([(aX.getD 0 AV.undef),(aX.getD 1 AV.undef),(AV.lbx gY),kJ.1],kJ.2))).bind fun cg=>
     (A.aL x24).bind fun iT=>
     (A.aA 4 iT).bind fun eS=>
     ((A.deref eS cg.2).bind fun ur=>A.aj 0 ur).bind fun lC=>
     (A.gtr lC (aX.getD 4 AV.undef)).bind fun iK=>
     ((A.lb (cg.1.getD 1 AV.undef)).bind fun _=>some (1)).bind fun Js=>
          (A.guard iK false ((A.lb (cg.1.getD 1 AV.undef)).bind fun xy=>A.aj Js xy) an).bind fun gJ=>
     (A.guard iK false (A.eql .i gJ aG) an).bind fun fk=>
     (A.guard iK false (some fk) an).bind fun eT=>
     (A.guard eT true (some (cg.1.getD 3 AV.undef)) an).bind fun mP=>
     (A.guard eT true (some (aX.getD 2 AV.undef)) an).bind fun oa=>
     (A.guard eT true (A.gtr mP oa) an).bind fun ij=>
     (A.guard iK false (A.pick eT ij aM) an).bind fun iq=>
     (A.pick iK cL iq).bind fun eC=>
     ((A.lb (cg.1.getD 1 AV.undef)).bind fun _=>some (1)).bind fun Er=>
          (A.guard eC false ((A.lb (cg.1.getD 1 AV.undef)).bind fun lS=>A.aj Er lS) an).bind fun jA=>
     (A.guard eC false (A.neq .i jA aG) an).bind fun jS=>
     (A.guard eC false (some jS) an).bind fun fT=>
     ((A.lb (cg.1.getD 2 AV.undef)).bind fun _=>some (7)).bind fun Jt=>
          (A.guard fT true ((A.lb (cg.1.getD 2 AV.undef)).bind fun lp=>A.aj Jt lp) an).bind fun rq=>
     (A.guard fT true (some (aX.getD 5 AV.undef)) an).bind fun Bf=>
     (A.guard fT true (A.gtr rq Bf) an).bind fun iL=>
     (A.guard eC false (A.pick fT iL aM) an).bind fun jB=>
     (A.pick eC cL jB).bind fun mQ=>
     (A.cond mQ (
      (A.aL x24).bind fun Bg=>
      (A.aA 3 Bg).bind fun x90=>
      ((A.deref x90 cg.2).bind fun IQ=>A.aj 0 IQ).bind fun oc=>
      (A.aL x24).bind fun x93=>
      (A.aA 4 x93).bind fun ru=>
      ((A.deref ru cg.2).bind fun jt=>A.aj 0 jt).bind fun x96=>
      ((A.lb (cg.1.getD 2 AV.undef)).bind fun _=>some (7)).bind fun Ju=>
      ((A.lb (cg.1.getD 2 AV.undef)).bind fun pW=>A.aj Ju pW).bind fun x99=>
      some ([(cg.1.getD 0 AV.undef),(cg.1.getD 1 AV.undef),(cg.1.getD 3 AV.undef),oc,x96,x99],cg.2)) (
      some ([(cg.1.getD 0 AV.undef),(cg.1.getD 1 AV.undef),(aX.getD 2 AV.undef),(aX.getD 3 AV.undef),(aX.getD 4 AV.undef),(aX.getD 5 AV.undef)],cg.2))).bind fun lV=>
     (A.add (aX.getD 6 AV.undef) aG).bind fun nJ=>
     some (AX.normal,[(lV.1.getD 0 AV.undef),(lV.1.getD 1 AV.undef),(lV.1.getD 2 AV.undef),(lV.1.getD 3 AV.undef),(lV.1.getD 4 AV.undef),(lV.1.getD 5 AV.undef),nJ],lV.2))) (
    some (AX.exit 0,[(aX.getD 0 AV.undef),(aX.getD 1 AV.undef),(aX.getD 2 AV.undef),(aX.getD 3 AV.undef),(aX.getD 4 AV.undef),(aX.getD 5 AV.undef),(aX.getD 6 AV.undef)],kS)))) [.lbx (aO k),.lbx (jI d k),.int .i64 m.out,.int .i64 m.owner,.int .i64 m.pri,.int .i64 m.lY,.int .i64 (i:Int)] σ=some (.normal,[.lbx (aO k),.lbx (jI d k),.int .i64 (oS (eW d k).1 k t m b).out,.int .i64 (oS (eW d k).1 k t m b).owner,.int .i64 (oS (eW d k).1 k t m b).pri,.int .i64 (oS (eW d k).1 k t m b).lY,.int .i64 ((i+1:Nat):Int)],σ):=by
 simp only[List.getD_cons_zero,List.getD_cons_succ]
 rw[jF hb,bS,cQ,pL,bS,kV,bS,Vr,bS,iO hb,bS,pL,bS,kV,bS,ah6,bS,Mv,bS]
 simp only
 rw[hG,bS,rJ,bS,aic,bS]
 simp only
 rw[kU,bS,ext1,bS,yl,bS,Bv _ _ rfl,bS,wY,bS]
 unfold oS
 cases hd:(dH b k (dm b.clock t)).2
 ·rw[if_pos (.inl rfl)]
  simp only[Bool.not_false,xD,bS,lz]
  rw[cQ,gd hb hs,bS]
 have hok:=zD ho hd
 have hbd:=FM hok (dm b.clock t)
 simp only[Bool.not_true,gF,bS,pL,kV,G6,kO,mM]
 by_cases hp:b.priority<m.pri
 ·rw[decide_eq_true hp,cQ,gd hb hs,bS,if_pos (.inr hp)]
 rw[decide_eq_false hp,cB,if_neg (fun q=>q.elim (fun q=>by cases q) hp),uP,bS,HD hok ho.pX,bS]
 simp only
 rw[hG,bS,bS,bS,zI,bS,iH,bS]
 generalize hr:(dH b k (dm b.clock t)).1=r at hok hbd ⊢
 generalize hg:(eW d k).1=g
 unfold Gb
 by_cases h1:g=1
 ·rw[decide_eq_true h1,cQ]
  simp only[pL,bS,kV,aeN,Y5 hbd ho.jg,kU,ext1,if_pos h1]
  generalize zh (uG r (dm b.clock t)) b.jg=n
  by_cases h2:m.pri<b.priority
  ·simp only[decide_eq_true h2,FY,xD,gU,bS,lz,hG,List.getD_cons_zero,List.getD_cons_succ,cT,pL,kV,KA,G6,Hi,if_pos (Or.inl h2),gd hb hs]
  simp only[decide_eq_false h2,FY,gF,gT,bS,mM,lz,hG,zI,hg,iH,decide_eq_true h1,List.getD_cons_zero,List.getD_cons_succ]
  by_cases h3:m.out<n
  ·have hc:m.pri<b.priority∨(g=1∧m.out<n)∨(¬g=1∧m.lY<r.lY):=.inr (.inl ⟨h1,h3⟩)
   simp only[decide_eq_true h3,xD,gU,bS,lz,cT,pL,kV,KA,G6,hG,Hi,if_pos hc,gd hb hs,List.getD_cons_zero,List.getD_cons_succ]
  ·have hc:¬(m.pri<b.priority∨(g=1∧m.out<n)∨(¬g=1∧m.lY<r.lY)):=fun q=>q.elim h2 fun q=>q.elim (fun q=>h3 q.2) fun q=>q.1 h1
   simp only[decide_eq_false h3,gF,ux,gU,bS,mM,cF,hG,zI,hg,gC,decide_not,decide_eq_true h1,Bool.not_true,if_neg hc,gd hb hs,List.getD_cons_zero,List.getD_cons_succ]
 ·rw[decide_eq_false h1,cB]
  simp only[pL,bS,kV,if_neg h1]
  generalize uG r (dm b.clock t)=n
  by_cases h2:m.pri<b.priority
  ·simp only[decide_eq_true h2,FY,xD,gU,bS,lz,hG,List.getD_cons_zero,List.getD_cons_succ,cT,pL,kV,KA,G6,Hi,if_pos (Or.inl h2),gd hb hs]
  simp only[decide_eq_false h2,FY,gF,ux,gU,bS,mM,hG,zI,hg,iH,gC,decide_not,decide_eq_false h1,Bool.not_false,gT,List.getD_cons_zero,List.getD_cons_succ,Hi]
  by_cases h4:m.lY<r.lY
  ·have hc:m.pri<b.priority∨(g=1∧m.out<n)∨(¬g=1∧m.lY<r.lY):=.inr (.inr ⟨h1,h4⟩)
   simp only[decide_eq_true h4,lz,bS,cT,pL,kV,KA,G6,hG,Hi,if_pos hc,gd hb hs,List.getD_cons_zero,List.getD_cons_succ]
  ·have hc:¬(m.pri<b.priority∨(g=1∧m.out<n)∨(¬g=1∧m.lY<r.lY)):=fun q=>q.elim h2 fun q=>q.elim (fun q=>h1 q.1) fun q=>h4 q.2
   simp only[decide_eq_false h4,lz,bS,cF,if_neg hc,gd hb hs,List.getD_cons_zero,List.getD_cons_succ]
theorem aeZ {d:bF} {s:bX} {k:aB} {t:Int} (hs:s.az.length≤aW) (ho:∀b∈s.az,rP b t) (m:DW) (σ:Heap):∃q,A.loop ((fun aX kS=>
   (A.lss (aX.getD 6 AV.undef) (AV.int .i64 (s.az.length:Int))).bind fun cW=>
   A.cond cW (
    (A.aL (AV.rp (rM s))).bind fun dg=>
    (A.aA 0 dg).bind fun bM=>
    ((A.deref bM kS).bind fun gq=>A.aj 0 gq).bind fun eP=>
    (A.aU 10 eP (aX.getD 6 AV.undef)).bind fun x24=>
    (A.aL x24).bind fun x25=>
    (A.aA 0 x25).bind fun fC=>
    ((A.deref fC kS).bind fun kD=>A.ay 0 3 kD).bind fun x28=>
    (vR [x28,(AV.int .i64 t)] kS).bind fun gj=>
    ((A.lb (aX.getD 0 AV.undef)).bind fun su=>A.ay 0 2 su).bind fun x31=>
    (p9 [x24,x31,gj.1] gj.2).bind fun r32=>
    (A.ext 0 r32.1).bind fun ey=>
    (A.ext 1 r32.1).bind fun x34=>
    (A.cells 9 ey).bind fun gX=>
    (A.splice 0 gX [ah,ah,ah,ah,ah,ah,AV.au,ah,aM]).bind fun gY=>
    (A.not x34).bind fun bU=>
    (A.guard bU false (some x24) an).bind fun x38=>
    (A.guard bU false (A.aL x38) an).bind fun ff=>
    (A.guard bU false (A.aA 4 ff) an).bind fun cZ=>
    (A.guard bU false ((A.deref cZ r32.2).bind fun uq=>A.aj 0 uq) an).bind fun ga=>
    (A.guard bU false (some (aX.getD 4 AV.undef)) an).bind fun fJ=>
    (A.guard bU false (A.lss ga fJ) an).bind fun eR=>
    (A.pick bU cL eR).bind fun ef=>
    A.cond ef (
     (A.add (aX.getD 6 AV.undef) aG).bind fun fK=>
     some (AX.normal,[(aX.getD 0 AV.undef),(aX.getD 1 AV.undef),(aX.getD 2 AV.undef),(aX.getD 3 AV.undef),(aX.getD 4 AV.undef),(aX.getD 5 AV.undef),fK],r32.2)) (
     (A.ay 0 9 gY).bind fun iJ=>
     (uK [iJ,gj.1] r32.2).bind fun kJ=>
     ((A.lb (aX.getD 1 AV.undef)).bind fun _=>some (1)).bind fun Jr=>
     ((A.lb (aX.getD 1 AV.undef)).bind fun nR=>A.aj Jr nR).bind fun gP=>
     (A.eql .i gP aG).bind fun eB=>
     (A.cond eB (
      (A.aL x24).bind fun gy=>
      (A.aA 7 gy).bind fun kL=>
      ((A.deref kL kJ.2).bind fun pR=>A.aj 0 pR).bind fun jJ=>
      (CS [kJ.1,jJ] kJ.2).bind fun xL=>
      (A.ext 0 xL.1).bind fun eG=>
      (A.ext 1 xL.1).bind fun gE=>
      some ([(aX.getD 0 AV.undef),(aX.getD 1 AV.undef),(AV.lbx gY),eG],xL.2)) (
      some ([(aX.getD 0 AV.undef),(aX.getD 1 AV.undef),(AV.lbx gY),kJ.1],kJ.2))).bind fun cg=>
     (A.aL x24).bind fun iT=>
     (A.aA 4 iT).bind fun eS=>
     ((A.deref eS cg.2).bind fun ur=>A.aj 0 ur).bind fun lC=>
     (A.gtr lC (aX.getD 4 AV.undef)).bind fun iK=>
     ((A.lb (cg.1.getD 1 AV.undef)).bind fun _=>some (1)).bind fun Js=>
          (A.guard iK false ((A.lb (cg.1.getD 1 AV.undef)).bind fun xy=>A.aj Js xy) an).bind fun gJ=>
     (A.guard iK false (A.eql .i gJ aG) an).bind fun fk=>
     (A.guard iK false (some fk) an).bind fun eT=>
     (A.guard eT true (some (cg.1.getD 3 AV.undef)) an).bind fun mP=>
     (A.guard eT true (some (aX.getD 2 AV.undef)) an).bind fun oa=>
     (A.guard eT true (A.gtr mP oa) an).bind fun ij=>
     (A.guard iK false (A.pick eT ij aM) an).bind fun iq=>
     (A.pick iK cL iq).bind fun eC=>
     ((A.lb (cg.1.getD 1 AV.undef)).bind fun _=>some (1)).bind fun Er=>
          (A.guard eC false ((A.lb (cg.1.getD 1 AV.undef)).bind fun lS=>A.aj Er lS) an).bind fun jA=>
     (A.guard eC false (A.neq .i jA aG) an).bind fun jS=>
     (A.guard eC false (some jS) an).bind fun fT=>
     ((A.lb (cg.1.getD 2 AV.undef)).bind fun _=>some (7)).bind fun Jt=>
          (A.guard fT true ((A.lb (cg.1.getD 2 AV.undef)).bind fun lp=>A.aj Jt lp) an).bind fun rq=>
     (A.guard fT true (some (aX.getD 5 AV.undef)) an).bind fun Bf=>
     (A.guard fT true (A.gtr rq Bf) an).bind fun iL=>
     (A.guard eC false (A.pick fT iL aM) an).bind fun jB=>
     (A.pick eC cL jB).bind fun mQ=>
     (A.cond mQ (
      (A.aL x24).bind fun Bg=>
      (A.aA 3 Bg).bind fun x90=>
      ((A.deref x90 cg.2).bind fun IQ=>A.aj 0 IQ).bind fun oc=>
      (A.aL x24).bind fun x93=>
      (A.aA 4 x93).bind fun ru=>
      ((A.deref ru cg.2).bind fun jt=>A.aj 0 jt).bind fun x96=>
      ((A.lb (cg.1.getD 2 AV.undef)).bind fun _=>some (7)).bind fun Ju=>
      ((A.lb (cg.1.getD 2 AV.undef)).bind fun pW=>A.aj Ju pW).bind fun x99=>
      some ([(cg.1.getD 0 AV.undef),(cg.1.getD 1 AV.undef),(cg.1.getD 3 AV.undef),oc,x96,x99],cg.2)) (
      some ([(cg.1.getD 0 AV.undef),(cg.1.getD 1 AV.undef),(aX.getD 2 AV.undef),(aX.getD 3 AV.undef),(aX.getD 4 AV.undef),(aX.getD 5 AV.undef)],cg.2))).bind fun lV=>
     (A.add (aX.getD 6 AV.undef) aG).bind fun nJ=>
     some (AX.normal,[(lV.1.getD 0 AV.undef),(lV.1.getD 1 AV.undef),(lV.1.getD 2 AV.undef),(lV.1.getD 3 AV.undef),(lV.1.getD 4 AV.undef),(lV.1.getD 5 AV.undef),nJ],lV.2))) (
    some (AX.exit 0,[(aX.getD 0 AV.undef),(aX.getD 1 AV.undef),(aX.getD 2 AV.undef),(aX.getD 3 AV.undef),(aX.getD 4 AV.undef),(aX.getD 5 AV.undef),(aX.getD 6 AV.undef)],kS)))) [.lbx (aO k),.lbx (jI d k),.int .i64 m.out,.int .i64 m.owner,.int .i64 m.pri,.int .i64 m.lY,.int .i64 0] σ=some q∧∃u,q=(.exit 0,[.lbx (aO k),.lbx (jI d k),.int .i64 (s.az.foldl (oS (eW d k).1 k t) m).out,.int .i64 (s.az.foldl (oS (eW d k).1 k t) m).owner,.int .i64 (s.az.foldl (oS (eW d k).1 k t) m).pri,.int .i64 (s.az.foldl (oS (eW d k).1 k t) m).lY,u],σ):=by
 refine mT (fun z v w=>∃(i:Nat) (x:DW),v=[.lbx (aO k),.lbx (jI d k),.int .i64 x.out,.int .i64 x.owner,.int .i64 x.pri,.int .i64 x.lY,.int .i64 (i:Int)]∧w=σ∧z=s.az.length-i∧i≤s.az.length∧(s.az.drop i).foldl (oS (eW d k).1 k t) x=s.az.foldl (oS (eW d k).1 k t) m) ?_ (n:=s.az.length) ⟨0,m,rfl,rfl,rfl,Nat.zero_le _,rfl⟩
 rintro z v w ⟨i,x,rfl,rfl,hz,hi,hT⟩
 by_cases h:i<s.az.length
 ·have hb:s.az[i]? =some s.az[i]:=List.getElem?_eq_getElem h
  refine .inl ⟨s.az.length-(i+1),_,_,by omega,ae0 hs hb (ho _ (List.getElem_mem h)) x w,i+1,oS (eW d k).1 k t x s.az[i],rfl,rfl,rfl,by omega,?_⟩
  rw[List.drop_eq_getElem_cons h]at hT
  exact hT
 ·have:i=s.az.length:=by omega
  subst this
  rw[List.drop_length]at hT
  simp only[List.foldl_nil]at hT
  subst hT
  simp only[List.getD_cons_zero,List.getD_cons_succ]
  rw[jD,bS,cB]
  exact .inr ⟨_,rfl,by simp,_,rfl⟩
theorem Yo {s:List Sh} {ro:Sh} {r:AV→AV→AV→AV→Heap→Option (AV×Heap)} {x y z u v v':AV} {σ:Heap} (h:[x,y,z,u].any A.own=false) (e1:A.bW s [x,y,z,u]=[x,y,z,u]) (e2:A.nn ro v=v') (e:r x y z u σ=some (v,σ)):A.wrap true s ro (A.vB r) [x,y,z,u] σ=some (v',σ):=by
 refine wrap_eq h ?_ e2
 rw[e1]
 exact e
theorem X0 {d:bF} {s:bX} {k:aB} {t:Int} (hs:s.az.length≤aW) (ho:∀b∈s.az,rP b t) (σ:Heap):Bj [.rp (qA d),.rp (rM s),.agg (aO k),.int .i64 t] σ=some (.aH [.int .i64 (oK d s.az k t).out,.int .i64 (oK d s.az k t).owner],σ):=by
 refine Yo rfl rfl (iQ _) ?_
 unfold Uu
 rw[Da,bS,pL,bS,kV,bS,Vp,bS,rJ,bS,XW,bS,FG,bS,ZY,bS,alw,bS,pL,bS,kV,bS,Vr,bS,fE,bS]
 refine AT (FL (aeZ (d:=d) hs ho ⟨(eW d k).2.1,0,-1,0⟩ σ) ?_)
 rintro q ⟨u,rfl⟩
 simp only[mJ,List.getD_cons_zero,List.getD_cons_succ]
 exact⟨_,bC _ _,rfl⟩
end
section
set_option maxRecDepth 100000
open HP
def iy (l:List dR):Int:=match l.getLast? with
 |none=>0
 |some a=>a.time
theorem Zg (d:bF) (hl:d.actions.length≤aW) (σ:Heap):Bk [.rp (qA d)] σ=some (.int .i64 (iy d.actions),σ):=by
 refine Ft rfl rfl (iQ _) ?_
 unfold UF iy
 rw[pL,bS,kV,bS,Vq,bS,fE,bS,iH,bS]
 by_cases h:d.actions.length=0
 ·rw[decide_eq_true (by omega),cQ,List.eq_nil_of_length_eq_zero h]
  exact bC _ _
 ·have hx:d.actions[d.actions.length-1]? =some (d.actions[d.actions.length-1]'(by omega)):=List.getElem?_eq_getElem _
  rw[decide_eq_false (by omega),cB]
  simp only[pL,kV,bS,Vq,fE]
  rw[pE,wrap64 (by unfold aN;unfold aW at hl;omega),bS,show((d.actions.length:Int) -1)=((d.actions.length-1:Nat):Int) by omega,iO hx,bS,kV,bS,List.getLast?_eq_getElem?,hx]
  exact(congrArg (Option.bind · fun x=>A.fin σ x σ) (show((A.deref (.rp ((bE (d.actions[d.actions.length-1]'(by omega))).drop 0)) σ).bind fun c=>A.aj 0 c)=some (.int .i64 (d.actions[d.actions.length-1]'(by omega)).time)from rfl)).trans (bC _ _)
def sU (l:List dR) (t:Int):Int:=if aR t 0 36000000=true then(if decide (t<iy l)=true then 7 else 0)else 1
theorem XS (t:Int) (σ:Heap):GY [.int .i64 t] σ=some (.bool (aR t 0 36000000),σ):=by
 refine Ft rfl rfl (iQ _) ?_
 unfold U0
 rw[jT,bS]
 exact bC _ _
theorem aob (a b:Int):(((((A.cell (.int .i64 a)).bind fun v=>some [v]).bind fun c7=>(A.splice 0 c7 [ah,ah]).bind fun c8=>((A.cell (.int .i64 b)).bind fun v=>some [v]).bind fun c9=>(A.splice 1 c9 c8).bind fun dY=>some dY).bind fun cs=>some (AV.sl 1 (chunks 1 2 cs))))=some (sl 1 rT [a,b]):=rfl
theorem alJ (d:bF) (hl:d.actions.length≤aW) (t:Int) (σ:Heap):GQ [.rp (qA d),.int .i64 t] σ=some (.int .i64 (sU d.actions t),σ):=by
 refine Fu (z:=.au) rfl rfl (iQ _) ?_
 unfold UG sU
 rw[XS,bS]
 simp only
 rw[wY,bS,uS,bS]
 simp only
 rw[Zg d hl,bS]
 simp only
 rw[kO,bS,uS,bS]
 simp only
 generalize aR t 0 36000000=w
 generalize decide (t<iy d.actions)=e
 rw[aob,bS,C5 _ (by show 2≤aW;decide),bS]
 cases w<;>cases e<;>exact bC _ _
theorem ajS {d:bF} {s:bX} {k:aB} {t:Int} (hs:s.az.length≤aW) (ho:∀b∈s.az,rP b t) (hg:0≤s.mo∧s.mo≤65535) (hm:(eW d k).1=1→0≤(oK d s.az k t).out∧(oK d s.az k t).out≤65535) (σ:Heap):CO [.rp (qA d),.rp (rM s),.agg (aO k),.int .i64 t] σ=some (.int .i64 (if ¬(eW d k).1=1 then(oK d s.az k t).out else if s.black=true then 0 else zh (oK d s.az k t).out s.mo),σ):=by
 refine Yo rfl rfl (iQ _) ?_
 unfold UA
 rw[Da,bS,rJ,bS,X0 hs ho,bS]
 simp only
 rw[kU,bS,ext1,bS,pL,bS,kV,bS,Vp,bS,bS,XW,bS,FG,bS,zI,bS,gC,bS]
 by_cases h1:(eW d k).1=1
 ·rw[decide_eq_false (fun q=>q h1),cB,pL,bS,kV,bS,aeP,bS,if_neg (fun q=>q h1)]
  cases s.black
  ·rw[cB,bS,kV,bS,aeO,bS,Y5 (hm h1) hg,bS]
   simp only
   rw[kU,bS,ext1,bS]
   exact bC _ _
  ·rw[cQ]
   exact bC _ _
 ·rw[decide_eq_true h1,cQ,if_pos h1]
  exact bC _ _
end
section
set_option maxRecDepth 100000
open HP
def HL (g:Int) (x:bg) (dA to c:Int):gB:=⟨dA,to,c,x.delay,if g=1 then(if to<dA then x.down else x.up)else x.other,x.fu⟩
def Ml (x:bg) (k:aB) (f:gB):gB:=match x.dw.find? (fun m=>decide (m.key=k))with
 |none=>f
 |some m=>if m.yK=true then{f with delay:=m.delay,time:=m.time}else f
def FJ (snap:Bool) (f:gB):gB:=if snap=true then{f with time:=0}else f
def BU (d:bF) (x:bg) (k:aB) (dA to c:Int):gB:=sY (FJ (eW d k).2.2 (Ml x k (HL (eW d k).1 x dA to c)))
theorem aii (m:fF) (k:aB) (σ:Heap):EL [.agg (fH m),.rp (aO k)] σ=some (.bool (decide (m.key=k)),σ):=by
 refine Me rfl ?_
 unfold Un
 rw[show A.cells 8 (.agg (fH m))=some (fH m)from rfl,bS,show A.ay 0 2 (fH m)=some (.agg (aO m.key))from rfl,bS,nv,bS,rJ,bS,Zq,bS]
 exact bC _ _
theorem alN {ro:Sh} {r:AV→AV→AV→AV→AV→AV→Heap→Option (AV×Heap)} {x y z u p q v v':AV} {σ σ':Heap} (e2:A.nn ro v=v') (e:r x y z u p q σ=some (v,σ')):A.wrap false [] ro (A.DY r) [x,y,z,u,p,q] σ=some (v',σ'):=by
 have:A.DY r [x,y,z,u,p,q] σ=some (v,σ'):=e
 simp only[A.wrap,Bool.false_and,cond_false,A.bW,this,Option.map_some,e2]
theorem aiA (dA to c:Int) (x:bg):((((A.cell (.int .i64 dA)).bind fun v=>some [v]).bind fun c6=>(A.splice 0 c6 [ah,ah,ah,ah,ah,ah,AV.au]).bind fun c7=>((A.cell (.int .i64 to)).bind fun v=>some [v]).bind fun c8=>(A.splice 1 c8 c7).bind fun c9=>((A.cell (.int .i64 c)).bind fun v=>some [v]).bind fun dY=>(A.splice 2 dY c9).bind fun gh=>((A.cell (.int .i64 x.delay)).bind fun v=>some [v]).bind fun eo=>(A.splice 3 eo gh).bind fun iY=>((A.cell (.int .i64 x.other)).bind fun v=>some [v]).bind fun jP=>(A.splice 4 jP iY).bind fun lH=>(A.cells 2 (.agg (lP x.fu))).bind fun mE=>(A.splice 5 mE lH).bind fun mF=>some mF).bind fun cs=>some (AV.agg cs))=some (.agg (fG ⟨dA,to,c,x.delay,x.other,x.fu⟩)):=rfl
theorem Zr (g:gB) (σ:Heap):(((A.lb (.lbx (fG g))).bind fun i7=>A.ay 0 7 i7).bind fun iL=>(uN [iL] σ).bind fun xQ=>(A.lb (.lbx zM)).bind fun nV=>(A.cells 7 xQ.1).bind fun sw=>(A.splice 0 sw nV).bind fun AN=>(A.ay 0 7 AN).bind fun x90=>A.fin σ x90 xQ.2)=some (.agg (fG (sY g)),σ):=by
 rw[hG,bS,Fp,bS,Rj,bS]
 simp only
 rw[hG,bS,C7,bS,LN _ _ rfl,bS,Fp,bS]
 exact bC _ _
theorem Wz (d:bF) (k:aB) (f1:gB) (σ:Heap):((A.aj 5 (jI d k)).bind fun jA=>(A.cond jA (some ([(AV.lbx zM),(AV.lbx (fG {f1 with time:=0}))],σ)) (some ([(AV.lbx zM),(AV.lbx (fG f1))],σ))).bind fun ko=>((A.lb (ko.1.getD 1 AV.undef)).bind fun i7=>A.ay 0 7 i7).bind fun iL=>(uN [iL] ko.2).bind fun xQ=>(A.lb (ko.1.getD 0 AV.undef)).bind fun nV=>(A.cells 7 xQ.1).bind fun sw=>(A.splice 0 sw nV).bind fun AN=>(A.ay 0 7 AN).bind fun x90=>A.fin σ x90 xQ.2)=some (.agg (fG (sY (FJ (eW d k).2.2 f1))),σ):=by
 rw[alx,bS]
 unfold FJ
 cases(eW d k).2.2
 ·rw[cB,bS]
  simp only[List.getD_cons_zero,List.getD_cons_succ]
  exact Zr f1 σ
 ·rw[cQ,bS]
  simp only[List.getD_cons_zero,List.getD_cons_succ]
  exact Zr {f1 with time:=0} σ
theorem XH (d:bF) (k:aB) (f1:gB) (σ:Heap):((A.aj 5 (jI d k)).bind fun jA=>(A.cond jA (((A.cell ah).bind fun v=>some [v]).bind fun mH=>(A.splice 4 mH (fG f1)).bind fun lp=>some ([(AV.lbx zM),(AV.lbx lp)],σ)) (some ([(AV.lbx zM),(AV.lbx (fG f1))],σ))).bind fun ko=>((A.lb (ko.1.getD 1 AV.undef)).bind fun i7=>A.ay 0 7 i7).bind fun iL=>(uN [iL] ko.2).bind fun xQ=>(A.lb (ko.1.getD 0 AV.undef)).bind fun nV=>(A.cells 7 xQ.1).bind fun sw=>(A.splice 0 sw nV).bind fun AN=>(A.ay 0 7 AN).bind fun x90=>A.fin σ x90 xQ.2)=some (.agg (fG (sY (FJ (eW d k).2.2 f1))),σ):=by
 rw[oW,bS,H7,bS]
 exact Wz d k f1 σ
theorem ak9 {p q pm:AV} (d:bF) (x:bg) (hm:x.dw.length≤aW) (k:aB) (dA to c:Int) (σ:Heap) (h1:A.aL p=some p) (h2:A.aA 10 p=some q) (h3:((A.deref q σ).bind fun c=>A.aj 0 c)=some pm) (h4:A.look (.s [0,2]) pm (.agg (aO k)) (.agg Dp) σ=some (.agg (jI d k))):Bl [p,.agg (aZ x),.agg (aO k),.int .i64 dA,.int .i64 to,.int .i64 c] σ=some (.agg (fG (BU d x k dA to c)),σ):=by
 refine alN (v:=.agg (fG (BU d x k dA to c))) rfl ?_
 unfold Oe BU
 rw[LX,bS,Da,bS,bS,P0,bS,WZ,bS,OE,bS,aiA,bS,C7,bS,LN _ _ rfl,bS,h1,bS,h2,bS,h3,bS,nv,bS,rJ,bS,h4,bS,FG,bS,ZY,bS,zI,bS,iH,bS]
 have Tx:∀w,GG (A.tab (fun _ _=>none) [(349,EL)]) [sl 8 fH x.dw,.fn 349 [.rp (aO k)]] w=some (.int .i64 (jZ (fun m:fF=>decide (m.key=k)) x.dw),w):=fun w=>abB _ x.dw hm _ _ _ w fun m _=>aii m k w
 have A1:∀(f0:gB),(A.cond (.bool (decide ((eW d k).1=1))) ((A.aj 3 (aZ x)).bind fun ey=>((A.cell ey).bind fun v=>some [v]).bind fun sv=>(A.splice 4 sv (fG f0)).bind fun gX=>(A.lss (.int .i64 to) (.int .i64 dA)).bind fun gI=>(A.cond gI ((A.aj 4 (aZ x)).bind fun x38=>((A.cell x38).bind fun v=>some [v]).bind fun l7=>(A.splice 4 l7 gX).bind fun yT=>some ([(AV.lbx (aZ x)),(AV.lbx zM),(AV.lbx yT),(AV.lbx (jI d k))],σ)) (some ([(AV.lbx (aZ x)),(AV.lbx zM),(AV.lbx gX),(AV.lbx (jI d k))],σ))).bind fun mg=>some ([(mg.1.getD 0 AV.undef),(mg.1.getD 1 AV.undef),(mg.1.getD 2 AV.undef),(mg.1.getD 3 AV.undef)],mg.2)) (some ([(AV.lbx (aZ x)),(AV.lbx zM),(AV.lbx (fG f0)),(AV.lbx (jI d k))],σ)))=some ([(AV.lbx (aZ x)),(AV.lbx zM),(AV.lbx (fG {f0 with time:=if(eW d k).1=1 then(if to<dA then x.down else x.up)else f0.time})),(AV.lbx (jI d k))],σ):=by
  intro f0
  by_cases h1:(eW d k).1=1
  ·simp only[decide_eq_true h1,cT,WY,bS,oW,H7,kO,if_pos h1]
   by_cases h2:to<dA
   ·simp only[decide_eq_true h2,cT,P3,bS,oW,H7,if_pos h2,List.getD_cons_zero,List.getD_cons_succ]
   ·simp only[decide_eq_false h2,cF,bS,if_neg h2,List.getD_cons_zero,List.getD_cons_succ]
  ·simp only[decide_eq_false h1,cF,if_neg h1]
 rw[A1,bS]
 simp only[List.getD_cons_zero,List.getD_cons_succ,hG,bS,VZ,Tx,rR]
 unfold Ml
 change _=some (AV.agg (fG (sY (FJ (eW d k).2.2 (match x.dw.find? (fun m=>decide (m.key=k))with|none=>_|some m=>_)))),σ)
 rcases zk (fun m:fF=>decide (m.key=k)) x.dw with⟨e1,_,e2⟩|⟨j,m,e1,e2,e3,e4,_⟩
 ·rw[e1,e2]
  simp only[show decide ((0:Int)≤-1)=false from decide_eq_false (by decide),ux,gU,bS,mM,cF,List.getD_cons_zero,List.getD_cons_succ,hG]
  exact XH d k _ σ
 ·rw[e3,e4]
  simp only[decide_eq_true (show(0:Int)≤(j:Int) by omega),gT,bS,iO e1,kV,lz,show((A.deref (.rp ((fH m).drop 5)) σ).bind fun c=>A.aj 0 c)=some (.bool m.yK)from rfl]
  cases m.yK
  ·simp only[cF,bS,List.getD_cons_zero,List.getD_cons_succ,hG]
   exact XH d k _ σ
  ·simp only[cT,bS,show((A.deref (.rp ((fH m).drop 6)) σ).bind fun c=>A.aj 0 c)=some (.int .i64 m.delay)from rfl,show((A.deref (.rp ((fH m).drop 7)) σ).bind fun c=>A.aj 0 c)=some (.int .i64 m.time)from rfl,oW,aay,H7,List.getD_cons_zero,List.getD_cons_succ,hG]
   exact Wz d k ⟨dA,to,c,m.delay,m.time,x.fu⟩ σ
end
section
set_option maxRecDepth 100000
open HP
def dB (p:aB×cq):AV×AV:=(.agg (aO p.1),.agg (fq p.2))
theorem VD {α β:Type} (f:α→β):∀(l:List α) {L:List β},L.Perm (l.map f)→∃l':List α,l'.Perm l∧l'.map f=L
 |[],L,h=>⟨[],.refl _,by have:=List.Perm.eq_nil h;rw[this];rfl⟩
 |x::l,L,h=>by
  have hx:f x∈L:=h.mem_iff.2 (by simp)
  obtain⟨s,t,rfl⟩:=List.append_of_mem hx
  have h2:(s++t).Perm (l.map f):=(List.perm_cons (f x)).1 (List.perm_middle.symm.trans h)
  obtain⟨l',k1,k2⟩:=VD f l h2
  obtain⟨a,b,rfl,e1,e2⟩:=List.map_eq_append_iff.1 k2
  exact⟨a++x::b,List.perm_middle.trans (k1.cons x),by simp [e1,e2]⟩
theorem Qw (l:List (aB×cq)):∃l':List (aB×cq),l'.Perm l∧l'.map dB=A.yL (l.map dB):=VD dB l (PN (l.map dB))
noncomputable def Cd (l:List (aB×cq)):List (aB×cq):=Classical.choose (Qw l)
theorem PM (l:List (aB×cq)):(Cd l).Perm l:=(Classical.choose_spec (Qw l)).1
theorem Xw (l:List (aB×cq)):(Cd l).map dB=A.yL (l.map dB):=(Classical.choose_spec (Qw l)).2
theorem ah2 (l:List (aB×cq)):A.yL ((Cd l).map dB)=(Cd l).map dB:=by
 rw[Xw];exact Wt (PN _)
theorem ahZ {a b:aB} (h:AV.agg (aO a)=AV.agg (aO b)):a=b:=by
 injection h with h
 simp only[aO,List.cons.injEq,AV.int.injEq,AV.str.injEq,and_true,true_and]at h
 obtain⟨u,p⟩:=a;obtain⟨u',p'⟩:=b
 simp only at h
 rw[h.1,h.2]
theorem al0 {l:List (aB×cq)} (h:(l.map (·.1)).Nodup):FQ (l.map dB):=by
 refine⟨fun p hp=>?_,?_⟩
 ·obtain⟨q,_,rfl⟩:=List.mem_map.1 hp
  exact⟨q.1.unit,q.1.param,rfl⟩
 ·rw[List.map_map]
  have e:((·.1)∘dB)=(fun k:aB=>AV.agg (aO k))∘(fun p:aB×cq=>p.1):=rfl
  rw[e,←List.map_map]
  exact List.pairwise_map.2 (List.Pairwise.imp (fun q e=>q (ahZ e)) h)
def Ds (o:Option (List (aB×cq))):Prop:=∀l,o=some l→(l.map (·.1)).Nodup∧A.yL (l.map dB)=l.map dB
theorem Zl {l:List (aB×cq)} (h:(l.map (·.1)).Nodup):A.can (.fm (l.map dB))=.fm (A.yL (l.map dB)):=by
 unfold A.can
 exact if_pos (al0 h)
theorem ajo {o:Option (List (aB×cq))} (h:Ds o):A.can (nw (fun x=>AV.agg (aO x)) (fun x=>AV.agg (fq x)) o)=nw (fun x=>AV.agg (aO x)) (fun x=>AV.agg (fq x)) o:=by
 cases o with
 |none=>rfl
 |some l=>
  obtain⟨h1,h2⟩:=h l rfl
  show A.can (.fm (l.map dB))=.fm (l.map dB)
  rw[Zl h1,h2]
theorem agU {b:bf} (h:Ds b.runs):(aK b).map A.can=aK b:=by
 unfold aK
 simp only[List.map_cons,List.map_nil,ajo h]
 rfl
def Cp (d:bF) (e:bh):Int:=(wm d.setup.bH e.key e.value).1
noncomputable def F1 (d:bF) (s:bX) (b:bf) (k:aB) (t c:Int):Int:=if(dH b k c).2=true then uG (dH b k c).1 c else if ¬(eW d k).1=1 then(oK d s.az k t).out else 0
noncomputable def yH (d:bF) (s:bX) (b:bf) (x:bg) (t c:Int) (e:bh):cq:=
 if(dH b e.key c).2=true∧(dH b e.key c).1.ending=false∧(dH b e.key c).1.jN.to=Cp d e then(dH b e.key c).1
 else⟨BU d x e.key (F1 d s b e.key t c) (Cp d e) c,s.number,false⟩
noncomputable def sN (d:bF) (s:bX) (b:bf) (x:bg) (c:Int) (seen:List bh) (k:aB):Option cq:=
 if(dH b k c).2=false∨(lE seen k).isSome=true∨¬(eW d k).1=1 then none
 else some (if(dH b k c).1.ending=true then(dH b k c).1 else⟨sY ⟨uG (dH b k c).1 c,0,c,x.delay,x.down,x.fu⟩,s.number,true⟩)
def zV (b:bf) (x:bg):List bh:=(zw b.bD x.number).1
noncomputable def De (d:bF) (s:bX) (b:bf) (x:bg) (t:Int):List (aB×cq):=
 (zV b x).map (fun e=>(e.key,yH d s b x t (dm b.clock t) e))++(b.runs.getD []).filterMap (fun p=>(sN d s b x (dm b.clock t) (zV b x) p.1).map (fun r=>(p.1,r)))
noncomputable def lu (d:bF) (s:bX) (b:bf) (x:bg) (to t:Int):bf:=
 {b with clock:=⟨dm b.clock t,t,false⟩,bQ:=to,runs:=some (Cd (De d s b x t)),follow:=if 0≤x.follow∧to+1<(b.bD.length:Int)then IntKind.i64.wrap (dm b.clock t+x.follow)else -1}
abbrev Rc:Sh:=.p DV
abbrev QT:Sh:=.p [(.s 10),.k,.k,.k]
structure sk (p : AV) (d : bF) (σ : Heap) : Prop where
 nc:A.aL p=some p
 f2:∃q1 q2,A.aA 4 p=some q1∧A.aA 2 q1=some q2∧∀ex,((A.deref q2 (σ++ex)).bind fun c=>A.aj 0 c)=some (sl 3 dL d.setup.bH)
 f10:∃q pm,A.aA 10 p=some q∧∀ex,((A.deref q (σ++ex)).bind fun c=>A.aj 0 c)=some pm∧∀k,A.look (.s [0,2]) pm (.agg (aO k)) (.agg Dp) (σ++ex)=some (.agg (jI d k))
 lt:∀ex,Lt (σ++ex) Rc p (.rp (qA d))
theorem ag8 (l:List bf) (σ:Heap) (n d:Nat):A.jh σ n d (l.map aK)=some (l.map aK):=R5 CZ l σ n d
abbrev bl (v:AV) (s:bX):List AV:=[v,.int .i64 s.number,.int .i64 s.mo,.bool s.black]
theorem aiG {W:Heap} {ids aS g:Nat} {s:bX} (h1:W[ids]? =some (.box (bl (.os aS g 10 0 s.az.length) s))) (h2:W[aS]? =some (.arr g 10 (s.az.map aK))):Lt W QT (.op ids 0) (.rp (rM s)):=by
 refine⟨⟨.rp (rM s),?_,rfl,rfl⟩,rfl,fun h=>by cases h⟩
 have q:=HO (c:=aK) (sz:=10) (l:=s.az) CZ h2 (n:=0) (by omega) 6
 simp only[A.bw,Nat.not_lt_zero,if_false,h1,List.drop_zero,bl,A.tN,q,Option.bind_some,Option.map_some]
 rfl
theorem aiH {W:Heap} {pd ps:AV} {d:bF} {s:bX} {k:aB} {t:Int} (hd:Lt W Rc pd (.rp (qA d))) (hs':Lt W QT ps (.rp (rM s))) (hs:s.az.length≤aW) (ho:∀b∈s.az,rP b t):Bj [pd,ps,.agg (aO k),.int .i64 t] W=some (.aH [.int .i64 (oK d s.az k t).out,.int .i64 (oK d s.az k t).owner],W):=
 As (cM:=[pd,ps,.agg (aO k),.int .i64 t]) (ts:=[.rp (qA d),.rp (rM s),.agg (aO k),.int .i64 t]) ⟨hd,hs',MC (wq (zy k)) rfl,Q6 t,trivial⟩ (fun σ=>X0 (d:=d) hs ho σ) rfl
def Cg (p:aB×Bool):AV×AV:=(.agg (aO p.1),.bool p.2)
abbrev oI (σ:Heap) (m1:List (aB×cq)) (m2:List (aB×Bool)):Heap:=σ++[.map (m1.map dB),.map (m2.map Cg)]
theorem al8 (σ:Heap) (m1:List (aB×cq)) (m2:List (aB×Bool)):(oI σ m1 m2)[σ.length]? =some (.map (m1.map dB)):=by
 rw[List.getElem?_append_right (Nat.le_refl _),Nat.sub_self];rfl
theorem al9 (σ:Heap) (m1:List (aB×cq)) (m2:List (aB×Bool)):(oI σ m1 m2)[σ.length+1]? =some (.map (m2.map Cg)):=by
 rw[List.getElem?_append_right (by omega),show σ.length+1-σ.length=1 by omega];rfl
theorem Zz (σ:Heap) (m1:List (aB×cq)) (m2:List (aB×Bool)) (k:aB) (r:cq):A.ew (.s [0,2]) (.om σ.length) (.agg (aO k)) (.agg (fq r)) (oI σ m1 m2)=some (oI σ (dD k r m1) m2):=by
 rw[zz _ rfl (al8 σ m1 m2),show A.upd (.s [0,2]) (.agg (aO k)) (.agg (fq r)) (m1.map dB)=some ((dD k r m1).map dB)from Dn (eK:=fun k=>AV.agg (aO k)) (eV:=fun r=>AV.agg (fq r)) qt k r m1,Option.map_some,List.set_append_right _ _ (Nat.le_refl _),Nat.sub_self]
 rfl
theorem ale (σ:Heap) (m1:List (aB×cq)) (m2:List (aB×Bool)) (k:aB) (r:Bool):A.ew (.s [0,2]) (.om (σ.length+1)) (.agg (aO k)) (.bool r) (oI σ m1 m2)=some (oI σ m1 (dD k r m2)):=by
 rw[zz _ rfl (al9 σ m1 m2),show A.upd (.s [0,2]) (.agg (aO k)) (.bool r) (m2.map Cg)=some ((dD k r m2).map Cg)from Dn (eK:=fun k=>AV.agg (aO k)) (eV:=fun r=>AV.bool r) qt k r m2,Option.map_some,List.set_append_right _ _ (by omega),show σ.length+1-σ.length=1 by omega]
 rfl
structure Gk (p : AV) (b : bf) (σ : Heap) : Prop where
 nc:A.aL p=some p
 f:∀o,∃q,A.aA o p=some q∧∀ex,A.deref q (σ++ex)=some ((aK b).drop o)
theorem bRd {σ:Heap} {aS g ib:Nat} {l:List bf} {b:bf} (h:σ[aS]? =some (.arr g 10 (l.map aK))) (hb:l[ib]? =some b):Gk (.oe aS g ib 0) b σ:=by
 refine⟨rfl,fun o=>⟨.oe aS g ib o,by simp [A.aA],fun ex=>?_⟩⟩
 have hl:=(List.getElem?_eq_some_iff.1 h).1
 simp only[A.deref,List.getElem?_append_left hl,h,if_true,List.getElem?_map,hb,Option.map_some]
theorem Qc {σ:Heap} {p:AV} {b:bf} (h:Gk p b σ) (k:aB) (c:Int) (ex:Heap):p9 [p,.agg (aO k),.int .i64 c] (σ++ex)=some (.aH [.agg (fq (dH b k c).1),.bool (dH b k c).2],σ++ex):=by
 obtain⟨q,h2,h3⟩:=h.f 9
 refine XC b k c (σ++ex) h.nc h2 ?_
 rw[h3 ex]
 exact KB b (σ:=[])
theorem ak8 {σ:Heap} {p:AV} {d:bF} (h:sk p d σ) (x:bg) (hm:x.dw.length≤aW) (k:aB) (dA to c:Int) (ex:Heap):Bl [p,.agg (aZ x),.agg (aO k),.int .i64 dA,.int .i64 to,.int .i64 c] (σ++ex)=some (.agg (fG (BU d x k dA to c)),σ++ex):=by
 obtain⟨q,pm,h2,h3⟩:=h.f10
 exact ak9 d x hm k dA to c (σ++ex) h.nc h2 (h3 ex).1 ((h3 ex).2 k)
theorem QJ (f:gB) (n:Int) (b:Bool):(((A.cells 7 (.agg (fG f))).bind fun xA=>(A.splice 0 xA [ah,ah,ah,ah,ah,ah,AV.au,ah,aM]).bind fun pW=>((A.cell (.int .i64 n)).bind fun v=>some [v]).bind fun xB=>(A.splice 7 xB pW).bind fun wI=>((A.cell (AV.bool b)).bind fun v=>some [v]).bind fun pG=>(A.splice 8 pG wI).bind fun zY=>some zY).bind fun cs=>some (AV.agg cs))=some (.agg (fq ⟨f,n,b⟩)):=rfl
theorem go_step1 {d:bF} {s:bX} {σ:Heap} {pd bp:AV} {ids aS g:Nat} {b:bf} {x:bg} {t:Int} (hd:sk pd d σ) (h1:σ[ids]? =some (.box (bl (.os aS g 10 0 s.az.length) s))) (h2:σ[aS]? =some (.arr g 10 (s.az.map aK))) (hb:b∈s.az) (yV:Gk bp b σ) (hs:s.az.length≤aW) (ho:∀b∈s.az,rP b t) (hp:eZ zo d.setup.bH) (hx:x.dw.length≤aW) {seen:List bh} (A6:seen.length≤aW) {i:Nat} {e:bh} (he:seen[i]? =some e) (m1:List (aB×cq)) (m2:List (aB×Bool)):((fun jo xU=>
   (A.lss (jo.getD 1 AV.undef) (AV.int .i64 (seen.length:Int))).bind fun x32=>
   A.cond x32 (
    (A.aU 5 (sl 5 cI seen) (jo.getD 1 AV.undef)).bind fun ey=>
    ((A.deref ey xU).bind fun sv=>A.ay 0 5 sv).bind fun gn=>
    (A.cells 5 gn).bind fun gY=>
    (A.splice 0 gY [ah,br,ah,ah,ah]).bind fun fA=>
    (A.ay 0 2 fA).bind fun x38=>
    (A.ew (.s [0,2]) (AV.om (σ.length+1)) x38 cL xU).bind fun qR=>
    (A.aL pd).bind fun cZ=>
    (A.aA 4 cZ).bind fun dW=>
    (A.aA 2 dW).bind fun ga=>
    ((A.deref ga qR).bind fun pQ=>A.aj 0 pQ).bind fun eR=>
    (A.ay 0 2 fA).bind fun ef=>
    (A.ay 2 2 fA).bind fun fK=>
    (A.quiet (CW [eR,ef,fK] qR) qR).bind fun iJ=>
    (A.ext 0 iJ).bind fun ig=>
    (A.ext 1 iJ).bind fun eA=>
    (A.ay 0 2 fA).bind fun mO=>
    (p9 [bp,mO,(AV.int .i64 (dm b.clock t))] qR).bind fun kR=>
    (A.ext 0 kR.1).bind fun eB=>
    (A.ext 1 kR.1).bind fun gQ=>
    (A.cells 9 eB).bind fun vD=>
    (A.splice 0 vD [ah,ah,ah,ah,ah,ah,AV.au,ah,aM]).bind fun iA=>
    (A.guard gQ true (A.aj 8 iA) an).bind fun gz=>
    (A.guard gQ true (A.not gz) an).bind fun jJ=>
    (A.pick gQ jJ aM).bind fun gA=>
    (A.guard gA true (A.aj 1 iA) an).bind fun eG=>
    (A.guard gA true (some ig) an).bind fun gE=>
    (A.guard gA true (A.eql .i eG gE) an).bind fun iT=>
    (A.pick gA iT aM).bind fun eS=>
    A.cond eS (
     (A.ay 0 2 fA).bind fun fD=>
     (A.ay 0 9 iA).bind fun lC=>
     (A.ew (.s [0,2]) (AV.om σ.length) fD lC kR.2).bind fun IX=>
     (A.add (jo.getD 1 AV.undef) aG).bind fun fP=>
     some (AX.normal,[(jo.getD 0 AV.undef),fP],IX)) (
     (A.cond gQ (
      (A.ay 0 9 iA).bind fun gJ=>
      (uK [gJ,(AV.int .i64 (dm b.clock t))] kR.2).bind fun CC=>
      some ([(jo.getD 0 AV.undef),(AV.lbx fA),CC.1],CC.2)) (
      (A.aL pd).bind fun eT=>
      (A.aA 10 eT).bind fun mP=>
      ((A.deref mP kR.2).bind fun jG=>A.aj 0 jG).bind fun ij=>
      (A.ay 0 2 fA).bind fun iq=>
      (A.look (.s [0,2]) ij iq (AV.agg [br,ah,ah,ah,ah,aM,AV.au]) kR.2).bind fun eC=>
      ((A.cells 7 eC).bind fun D8=>A.aj 1 D8).bind fun xW=>
      (A.neq .i xW aG).bind fun jA=>
      (A.cond jA (
       (A.ay 0 2 fA).bind fun fT=>
       (Bj [pd,(AV.op ids 0),fT,(AV.int .i64 t)] kR.2).bind fun xO=>
       (A.ext 0 xO.1).bind fun p7=>
       (A.ext 1 xO.1).bind fun rq=>
       some ([(jo.getD 0 AV.undef),(AV.lbx fA),p7],xO.2)) (
       some ([(jo.getD 0 AV.undef),(AV.lbx fA),ah],kR.2))).bind fun ko=>
      some ([(ko.1.getD 0 AV.undef),(ko.1.getD 1 AV.undef),(ko.1.getD 2 AV.undef)],ko.2))).bind fun fc=>
     ((A.lb (fc.1.getD 1 AV.undef)).bind fun _=>some (0)).bind fun Es=>
     ((A.lb (fc.1.getD 1 AV.undef)).bind fun AM=>A.ay Es 2 AM).bind fun jB=>
     ((A.lb (fc.1.getD 0 AV.undef)).bind fun sw=>A.ay 0 11 sw).bind fun iM=>
     ((A.lb (fc.1.getD 1 AV.undef)).bind fun _=>some (0)).bind fun Eu=>
     ((A.lb (fc.1.getD 1 AV.undef)).bind fun nW=>A.ay Eu 2 nW).bind fun x91=>
     (A.quiet (Bl [pd,iM,x91,(fc.1.getD 2 AV.undef),ig,(AV.int .i64 (dm b.clock t))] fc.2) fc.2).bind fun oc=>
     (A.aL (AV.op ids 0)).bind fun x93=>
     (A.aA 1 x93).bind fun ru=>
     ((A.deref ru fc.2).bind fun jt=>A.aj 0 jt).bind fun x96=>
     (((A.cells 7 oc).bind fun xA=>(A.splice 0 xA [ah,ah,ah,ah,ah,ah,AV.au,ah,aM]).bind fun pW=>((A.cell x96).bind fun v=>some [v]).bind fun xB=>(A.splice 7 xB pW).bind fun wI=>((A.cell aM).bind fun v=>some [v]).bind fun pG=>(A.splice 8 pG wI).bind fun zY=>some zY).bind fun cs=>some (AV.agg cs)).bind fun vA=>
     (A.ew (.s [0,2]) (AV.om σ.length) jB vA fc.2).bind fun DH=>
     (A.add (jo.getD 1 AV.undef) aG).bind fun Az=>
     some (AX.normal,[(fc.1.getD 0 AV.undef),Az],DH))) (
    some (AX.exit 0,[(jo.getD 0 AV.undef),(jo.getD 1 AV.undef)],xU)))) [.lbx (aZ x),.int .i64 (i:Int)] (oI σ m1 m2)=some (.normal,[.lbx (aZ x),.int .i64 ((i+1:Nat):Int)],oI σ (dD e.key (yH d s b x t (dm b.clock t) e) m1) (dD e.key true m2)):=by
 obtain⟨c,hc⟩:∃c,c=dm b.clock t:=⟨_,rfl⟩
 have Cw:=ho b hb
 have Ap:=Cw.pX
 have Ee:(dH b e.key c).2=true→rK (dH b e.key c).1.jN:=fun q=>by rw[hc]at q ⊢;exact zD Cw q
 rw[←hc]at Ap
 rw[←hc]
 obtain⟨q1,q2,f1,f2,f3⟩:=hd.f2
 obtain⟨GB,pm,g1,g2⟩:=hd.f10
 have h1':∀ex,(σ++ex)[ids]? =some (.box (bl (.os aS g 10 0 s.az.length) s)):=fun ex=>by rw[List.getElem?_append_left (List.getElem?_eq_some_iff.1 h1).1];exact h1
 have h2':∀ex,(σ++ex)[aS]? =some (.arr g 10 (s.az.map aK)):=fun ex=>by rw[List.getElem?_append_left (List.getElem?_eq_some_iff.1 h2).1];exact h2
 simp only[List.getD_cons_zero,List.getD_cons_succ]
 rw[jF he,bS,cQ,iO he,bS,nv]
 simp only[bS,show A.ay 0 5 (cI e)=some (.agg (cI e))from rfl,show A.cells 5 (.agg (cI e))=some (cI e)from rfl,show A.splice 0 (cI e) [ah,br,ah,ah,ah]=some (cI e)from rfl,show A.ay 0 2 (cI e)=some (.agg (aO e.key))from rfl,show A.ay 2 2 (cI e)=some (.agg (uV e.value))from rfl]
 rw[ale,bS]
 simp only[hd.nc,bS,f1,f2,f3,quiet_of (Vc (Yr d.setup.bH hp e.key e.value)),kU,ext1]
 rw[Qc yV,bS]
 simp only[kU,ext1,bS,yl,Bv _ _ (show ng.length=9 from rfl)]
 have tail:∀(W:Heap) (dA:Int) (hW:W=oI σ m1 (dD e.key true m2)),((A.lb (AV.lbx (cI e))).bind fun _=>some 0).bind (fun Es=>((A.lb (AV.lbx (cI e))).bind fun AM=>A.ay Es 2 AM).bind fun jB=>((A.lb (.lbx (aZ x))).bind fun sw=>A.ay 0 11 sw).bind fun iM=>((A.lb (AV.lbx (cI e))).bind fun _=>some (0)).bind fun Eu=>((A.lb (AV.lbx (cI e))).bind fun nW=>A.ay Eu 2 nW).bind fun x91=>(A.quiet (Bl [pd,iM,x91,.int .i64 dA,.int .i64 (Cp d e),.int .i64 c] W) W).bind fun oc=>(A.aL (AV.op ids 0)).bind fun x93=>(A.aA 1 x93).bind fun ru=>((A.deref ru W).bind fun jt=>A.aj 0 jt).bind fun x96=>
   (((A.cells 7 oc).bind fun xA=>(A.splice 0 xA [ah,ah,ah,ah,ah,ah,AV.au,ah,aM]).bind fun pW=>((A.cell x96).bind fun v=>some [v]).bind fun xB=>(A.splice 7 xB pW).bind fun wI=>((A.cell aM).bind fun v=>some [v]).bind fun pG=>(A.splice 8 pG wI).bind fun zY=>some zY).bind fun cs=>some (AV.agg cs)).bind fun vA=>(A.ew (.s [0,2]) (AV.om σ.length) jB vA W).bind fun DH=>(A.add (AV.int .i64 (i:Int)) aG).bind fun Az=>some (AX.normal,[(.lbx (aZ x)),Az],DH))=some (.normal,[.lbx (aZ x),.int .i64 ((i+1:Nat):Int)],oI σ (dD e.key ⟨BU d x e.key dA (Cp d e) c,s.number,false⟩ m1) (dD e.key true m2)):=by
  intro W dA hW
  subst hW
  simp only[hG,bS,show A.ay 0 2 (cI e)=some (.agg (aO e.key))from rfl,show A.ay 0 11 (aZ x)=some (.agg (aZ x))from rfl,quiet_of (ak8 hd x hx e.key dA (Cp d e) c _)]
  rw[show A.aL (.op ids 0)=some (.op ids 0)from rfl,bS,show A.aA 1 (.op ids 0)=some (.op ids 1)from rfl,bS,show((A.deref (.op ids 1) (oI σ m1 (dD e.key true m2))).bind fun jt=>A.aj 0 jt)=some (.int .i64 s.number)from by simp only[A.deref,h1'];rfl,bS,QJ,bS,Zz,bS,gd he A6,bS]
 unfold yH
 by_cases lT:(dH b e.key c).2=true
 ·have hfo:=Ee lT
  rw[lT]
  cases I9:(dH b e.key c).1.ending
  case false=>
   simp only[gT,bS,KU,I9,wY,Bool.not_false,lz,af8,iH]
   by_cases hto:(dH b e.key c).1.jN.to=Cp d e
   ·rw[show(wm d.setup.bH e.key e.value).1=Cp d e from rfl,decide_eq_true hto,cQ,if_pos ⟨trivial,trivial,hto⟩]
    simp only[uP,bS]
    rw[Zz,bS,gd he A6,bS]
   ·rw[show(wm d.setup.bH e.key e.value).1=Cp d e from rfl,decide_eq_false hto,cB,if_neg (fun q=>hto q.2.2),cQ]
    simp only[uP,bS,HD hfo Ap,List.getD_cons_zero,List.getD_cons_succ]
    have:=tail _ (uG (dH b e.key c).1 c) rfl
    unfold F1
    rw[if_pos lT]
    exact this
  case true=>
   simp only[gT,ux,bS,KU,I9,wY,Bool.not_true,lz,mM]
   rw[cB,if_neg (fun q=>by cases q.2.1),cQ]
   simp only[uP,bS,HD hfo Ap,List.getD_cons_zero,List.getD_cons_succ]
   have:=tail _ (uG (dH b e.key c).1 c) rfl
   unfold F1
   rw[if_pos lT]
   exact this
 ·have DJ:(dH b e.key c).2=false:=by simpa using lT
  rw[DJ]
  simp only[ux,gU,bS,mM]
  rw[cB,if_neg (fun q=>by cases q.1),cB]
  simp only[hd.nc,bS,g1,g2,show A.ay 0 2 (cI e)=some (.agg (aO e.key))from rfl,FG,zI,gC]
  by_cases hg:(eW d e.key).1=1
  ·rw[decide_eq_false (fun q=>q hg),cB]
   simp only[bS,List.getD_cons_zero,List.getD_cons_succ]
   have:=tail _ 0 rfl
   unfold F1
   rw[if_neg lT,if_neg (fun q=>q hg)]
   exact this
  ·rw[decide_eq_true hg,cQ]
   simp only[bS,aiH (hd.lt _) (aiG (h1' _) (h2' _)) hs ho,kU,ext1,List.getD_cons_zero,List.getD_cons_succ]
   have:=tail _ (oK d s.az e.key t).out rfl
   unfold F1
   rw[if_neg lT,if_pos hg]
   exact this
end
section
set_option maxRecDepth 100000
open HP
theorem HU {κ ν:Type} [DecidableEq κ] {k:κ} {v:ν}:∀{l:List (κ×ν)},(∀p∈l,p.1≠k)→dD k v l=l++[(k,v)]
 |[],_=>rfl
 |(k',v')::r,h=>by
  rw[dD,if_neg (fun e=>h (k',v') (by simp) e.symm),HU fun p hp=>h p (by simp [hp])]
  rfl
theorem H9 {κ ν:Type} [DecidableEq κ] {k:κ} {v:ν}:∀{l:List (κ×ν)},cC k l=some v→(k,v)∈l
 |[],h=>by cases h
 |(k',v')::r,h=>by
  rw[cC]at h
  by_cases e:k=k'
  ·rw[if_pos e]at h;injection h with h;subst h;subst e;simp
  ·rw[if_neg e]at h;exact List.mem_cons_of_mem _ (H9 h)
theorem ahP {seen:List bh} (h:mw seen) {i:Nat} {e:bh} (he:seen[i]? =some e):∀a∈seen.take i,a.key≠e.key:=by
 have hp:(seen.take (i+1)).Pairwise fun a b=>fB a.key b.key=true:=List.Pairwise.sublist (List.take_sublist _ _) h
 rw[List.take_add_one,he]at hp
 intro a ha q
 have:=(List.pairwise_append.1 hp).2.2 a ha e (by simp)
 rw[q,BB]at this
 cases this
theorem go_loop1 {d:bF} {s:bX} {σ:Heap} {pd bp:AV} {ids aS g:Nat} {b:bf} {x:bg} {t:Int} (hd:sk pd d σ) (h1:σ[ids]? =some (.box (bl (.os aS g 10 0 s.az.length) s))) (h2:σ[aS]? =some (.arr g 10 (s.az.map aK))) (hb:b∈s.az) (yV:Gk bp b σ) (hs:s.az.length≤aW) (ho:∀b∈s.az,rP b t) (hp:eZ zo d.setup.bH) (hx:x.dw.length≤aW) {seen:List bh} (A6:seen.length≤aW) (uC:mw seen):A.loop ((fun jo xU=>
   (A.lss (jo.getD 1 AV.undef) (AV.int .i64 (seen.length:Int))).bind fun x32=>
   A.cond x32 (
    (A.aU 5 (sl 5 cI seen) (jo.getD 1 AV.undef)).bind fun ey=>
    ((A.deref ey xU).bind fun sv=>A.ay 0 5 sv).bind fun gn=>
    (A.cells 5 gn).bind fun gY=>
    (A.splice 0 gY [ah,br,ah,ah,ah]).bind fun fA=>
    (A.ay 0 2 fA).bind fun x38=>
    (A.ew (.s [0,2]) (AV.om (σ.length+1)) x38 cL xU).bind fun qR=>
    (A.aL pd).bind fun cZ=>
    (A.aA 4 cZ).bind fun dW=>
    (A.aA 2 dW).bind fun ga=>
    ((A.deref ga qR).bind fun pQ=>A.aj 0 pQ).bind fun eR=>
    (A.ay 0 2 fA).bind fun ef=>
    (A.ay 2 2 fA).bind fun fK=>
    (A.quiet (CW [eR,ef,fK] qR) qR).bind fun iJ=>
    (A.ext 0 iJ).bind fun ig=>
    (A.ext 1 iJ).bind fun eA=>
    (A.ay 0 2 fA).bind fun mO=>
    (p9 [bp,mO,(AV.int .i64 (dm b.clock t))] qR).bind fun kR=>
    (A.ext 0 kR.1).bind fun eB=>
    (A.ext 1 kR.1).bind fun gQ=>
    (A.cells 9 eB).bind fun vD=>
    (A.splice 0 vD [ah,ah,ah,ah,ah,ah,AV.au,ah,aM]).bind fun iA=>
    (A.guard gQ true (A.aj 8 iA) an).bind fun gz=>
    (A.guard gQ true (A.not gz) an).bind fun jJ=>
    (A.pick gQ jJ aM).bind fun gA=>
    (A.guard gA true (A.aj 1 iA) an).bind fun eG=>
    (A.guard gA true (some ig) an).bind fun gE=>
    (A.guard gA true (A.eql .i eG gE) an).bind fun iT=>
    (A.pick gA iT aM).bind fun eS=>
    A.cond eS (
     (A.ay 0 2 fA).bind fun fD=>
     (A.ay 0 9 iA).bind fun lC=>
     (A.ew (.s [0,2]) (AV.om σ.length) fD lC kR.2).bind fun IX=>
     (A.add (jo.getD 1 AV.undef) aG).bind fun fP=>
     some (AX.normal,[(jo.getD 0 AV.undef),fP],IX)) (
     (A.cond gQ (
      (A.ay 0 9 iA).bind fun gJ=>
      (uK [gJ,(AV.int .i64 (dm b.clock t))] kR.2).bind fun CC=>
      some ([(jo.getD 0 AV.undef),(AV.lbx fA),CC.1],CC.2)) (
      (A.aL pd).bind fun eT=>
      (A.aA 10 eT).bind fun mP=>
      ((A.deref mP kR.2).bind fun jG=>A.aj 0 jG).bind fun ij=>
      (A.ay 0 2 fA).bind fun iq=>
      (A.look (.s [0,2]) ij iq (AV.agg [br,ah,ah,ah,ah,aM,AV.au]) kR.2).bind fun eC=>
      ((A.cells 7 eC).bind fun D8=>A.aj 1 D8).bind fun xW=>
      (A.neq .i xW aG).bind fun jA=>
      (A.cond jA (
       (A.ay 0 2 fA).bind fun fT=>
       (Bj [pd,(AV.op ids 0),fT,(AV.int .i64 t)] kR.2).bind fun xO=>
       (A.ext 0 xO.1).bind fun p7=>
       (A.ext 1 xO.1).bind fun rq=>
       some ([(jo.getD 0 AV.undef),(AV.lbx fA),p7],xO.2)) (
       some ([(jo.getD 0 AV.undef),(AV.lbx fA),ah],kR.2))).bind fun ko=>
      some ([(ko.1.getD 0 AV.undef),(ko.1.getD 1 AV.undef),(ko.1.getD 2 AV.undef)],ko.2))).bind fun fc=>
     ((A.lb (fc.1.getD 1 AV.undef)).bind fun _=>some (0)).bind fun Es=>
     ((A.lb (fc.1.getD 1 AV.undef)).bind fun AM=>A.ay Es 2 AM).bind fun jB=>
     ((A.lb (fc.1.getD 0 AV.undef)).bind fun sw=>A.ay 0 11 sw).bind fun iM=>
     ((A.lb (fc.1.getD 1 AV.undef)).bind fun _=>some (0)).bind fun Eu=>
     ((A.lb (fc.1.getD 1 AV.undef)).bind fun nW=>A.ay Eu 2 nW).bind fun x91=>
     (A.quiet (Bl [pd,iM,x91,(fc.1.getD 2 AV.undef),ig,(AV.int .i64 (dm b.clock t))] fc.2) fc.2).bind fun oc=>
     (A.aL (AV.op ids 0)).bind fun x93=>
     (A.aA 1 x93).bind fun ru=>
     ((A.deref ru fc.2).bind fun jt=>A.aj 0 jt).bind fun x96=>
     (((A.cells 7 oc).bind fun xA=>(A.splice 0 xA [ah,ah,ah,ah,ah,ah,AV.au,ah,aM]).bind fun pW=>((A.cell x96).bind fun v=>some [v]).bind fun xB=>(A.splice 7 xB pW).bind fun wI=>((A.cell aM).bind fun v=>some [v]).bind fun pG=>(A.splice 8 pG wI).bind fun zY=>some zY).bind fun cs=>some (AV.agg cs)).bind fun vA=>
     (A.ew (.s [0,2]) (AV.om σ.length) jB vA fc.2).bind fun DH=>
     (A.add (jo.getD 1 AV.undef) aG).bind fun Az=>
     some (AX.normal,[(fc.1.getD 0 AV.undef),Az],DH))) (
    some (AX.exit 0,[(jo.getD 0 AV.undef),(jo.getD 1 AV.undef)],xU)))) [.lbx (aZ x),.int .i64 0] (oI σ [] [])=some (.exit 0,[.lbx (aZ x),.int .i64 (seen.length:Int)],oI σ (seen.map (fun e=>(e.key,yH d s b x t (dm b.clock t) e))) (seen.map (fun e=>(e.key,true)))):=by
 refine AT (mT (Q:=fun q=>q=(.exit 0,[.lbx (aZ x),.int .i64 (seen.length:Int)],oI σ (seen.map (fun e=>(e.key,yH d s b x t (dm b.clock t) e))) (seen.map (fun e=>(e.key,true))))) (fun z v w=>∃i:Nat,i≤seen.length∧v=[.lbx (aZ x),.int .i64 (i:Int)]∧w=oI σ ((seen.take i).map (fun e=>(e.key,yH d s b x t (dm b.clock t) e))) ((seen.take i).map (fun e=>(e.key,true)))∧z=seen.length-i) ?_ (n:=seen.length) ⟨0,Nat.zero_le _,rfl,rfl,rfl⟩)
 rintro z v w ⟨i,hi,rfl,rfl,hz⟩
 by_cases h:i<seen.length
 ·have he:seen[i]? =some seen[i]:=List.getElem?_eq_getElem h
  have hk:=ahP uC he
  refine .inl ⟨seen.length-(i+1),_,_,by omega,go_step1 hd h1 h2 hb yV hs ho hp hx A6 he _ _,i+1,h,rfl,?_,rfl⟩
  rw[HU (fun p hp=>by obtain⟨a,ha,rfl⟩:=List.mem_map.1 hp;exact hk a ha),HU (fun p hp=>by obtain⟨a,ha,rfl⟩:=List.mem_map.1 hp;exact hk a ha),List.take_add_one,he]
  simp only[List.map_append,Option.toList_some,List.map_cons,List.map_nil]
 ·have:i=seen.length:=by omega
  subst this
  refine .inr ⟨_,?_,by simp,rfl⟩
  simp only[List.getD_cons_zero,List.getD_cons_succ]
  rw[jD,bS,cB,List.take_length]
abbrev sy (σ:Heap) (m1:List (aB×cq)) (m2:List (aB×Bool)) (c l:List (AV×AV)):Heap:=σ++[.map (m1.map dB),.map (m2.map Cg),.it c l]
theorem Zy (σ:Heap) (m1:List (aB×cq)) (m2:List (aB×Bool)) (c l:List (AV×AV)):(sy σ m1 m2 c l)[σ.length+2]? =some (.it c l):=by
 rw[List.getElem?_append_right (by omega),show σ.length+2-σ.length=2 by omega];rfl
theorem ajT (σ:Heap) (m1:List (aB×cq)) (m2:List (aB×Bool)) (c l c' l':List (AV×AV)):(sy σ m1 m2 c l).set (σ.length+2) (.it c' l')=sy σ m1 m2 c' l':=by
 rw[List.set_append_right _ _ (by omega),show σ.length+2-σ.length=2 by omega];rfl
theorem ald (σ:Heap) (m1:List (aB×cq)) (m2:List (aB×Bool)) (c l:List (AV×AV)) (k:aB) (r:cq):A.ew (.s [0,2]) (.om σ.length) (.agg (aO k)) (.agg (fq r)) (sy σ m1 m2 c l)=some (sy σ (dD k r m1) m2 c l):=by
 rw[zz _ rfl (show(sy σ m1 m2 c l)[σ.length]? =some (.map (m1.map dB)) by rw[List.getElem?_append_right (Nat.le_refl _),Nat.sub_self];rfl),show A.upd (.s [0,2]) (.agg (aO k)) (.agg (fq r)) (m1.map dB)=some ((dD k r m1).map dB)from Dn (eK:=fun k=>AV.agg (aO k)) (eV:=fun r=>AV.agg (fq r)) qt k r m1,Option.map_some,List.set_append_right _ _ (Nat.le_refl _),Nat.sub_self]
 rfl
theorem alc (σ:Heap) (m1:List (aB×cq)) (m2:List (aB×Bool)) (c l:List (AV×AV)) (k:aB):A.look (.s [0,2]) (.om (σ.length+1)) (.agg (aO k)) (.bool false) (sy σ m1 m2 c l)=some (.bool ((cC k m2).getD false)):=by
 have h:(sy σ m1 m2 c l)[σ.length+1]? =some (.map (m2.map Cg)):=by rw[List.getElem?_append_right (by omega),show σ.length+1-σ.length=1 by omega];rfl
 simp only[A.look,show A.jq (.s [0,2]) (.agg (aO k))=true from rfl,cond_true,A.entries,h,Option.bind_some,show A.find (.s [0,2]) (.agg (aO k)) (m2.map Cg)=some ((cC k m2).map AV.bool)from BI (eK:=fun k=>AV.agg (aO k)) (eV:=fun r=>AV.bool r) qt k m2,Option.map_some]
 cases cC k m2<;>rfl
theorem ajc (seen:List bh) (k:aB):(cC k (seen.map (fun e=>(e.key,true)))).getD false=(lE seen k).isSome:=by
 induction seen with
 |nil=>rfl
 |cons e l ih=>
  rw[List.map_cons,cC]
  unfold lE at ih ⊢
  rw[List.find?_cons]
  by_cases h:k=e.key
  ·rw[if_pos h,decide_eq_true h.symm];rfl
  ·rw[if_neg h,decide_eq_false (fun q=>h q.symm)];exact ih
theorem aiC (dA c:Int) (x:bg):((((A.cell (.int .i64 dA)).bind fun v=>some [v]).bind fun sX=>(A.splice 0 sX [ah,ah,ah,ah,ah,ah,AV.au]).bind fun wO=>((A.cell (.int .i64 c)).bind fun v=>some [v]).bind fun wP=>(A.splice 2 wP wO).bind fun Ih=>((A.cell (.int .i64 x.delay)).bind fun v=>some [v]).bind fun RR=>(A.splice 3 RR Ih).bind fun Ii=>((A.cell (.int .i64 x.down)).bind fun v=>some [v]).bind fun RS=>(A.splice 4 RS Ii).bind fun Ij=>(A.cells 2 (.agg (lP x.fu))).bind fun DC=>(A.splice 5 DC Ij).bind fun Al=>some Al).bind fun cs=>some (AV.agg cs))=some (.agg (fG ⟨dA,0,c,x.delay,x.down,x.fu⟩)):=rfl
theorem V9 (o:Option (List (aB×cq))):A.BL (nw (fun x=>AV.agg (aO x)) (fun x=>AV.agg (fq x)) o)=some ((o.getD []).map dB):=by cases o<;>rfl
theorem HJ {W:Heap} {aS g ib o:Nat} {rows:List (List AV)} {row row' new:List AV} (h:W[aS]? =some (.arr g 10 rows)) (hr:rows[ib]? =some row) (hs:A.splice o new row=some row'):A.storeAt (.oe aS g ib o) new W=some (W.set aS (.arr g 10 (rows.set ib row'))):=by
 simp only[A.storeAt,h,if_true,hr,Option.bind_some,hs,Option.map_some]
theorem WG {W:Heap} {n:Nat} {B:aJ}:∀{τ:Heap} {i:Nat} {ex:Heap} {b:aJ},τ[i]? =some b→B≠b→A.ve W n τ (τ.set i B++ex)=(A.Ch W n B).map (fun B'=>τ.set i B')
 |[],i,ex,b,h,_=>by cases h
 |a::τ,0,ex,b,h,hn=>by
  injection h with h
  subst h
  rw[List.set_cons_zero,List.cons_append]
  simp only[A.ve,if_neg hn]
  have key:∀τ:Heap,A.ve W n τ (τ++ex)=some τ:=by
   intro τ
   induction τ with
   |nil=>simp [A.ve]
   |cons y τ ih=>simp only[List.cons_append,A.ve,if_true,Option.bind_some,ih,Option.map_some]
  rw[key]
  cases A.Ch W n B<;>rfl
 |a::τ,i+1,ex,b,h,hn=>by
  rw[List.set_cons_succ,List.cons_append]
  simp only[A.ve,if_true,Option.bind_some]
  rw[WG (i:=i) (b:=b) h hn]
  cases A.Ch W n B<;>rfl
theorem ala {W:Heap} {n:Nat} {l:List (aB×cq)} (h:W[n]? =some (.map (l.map dB))) (d:Nat):A.bw W n (d+1) (.om n)=some (.fm (l.map dB)):=by
 simp only[A.bw,Nat.lt_irrefl,if_false,h]
 rw[L4 d (fun p hp=>by obtain⟨q,_,rfl⟩:=List.mem_map.1 hp;exact⟨wq (zy _),wq (XP _)⟩)]
 rfl
theorem WH {W:Heap} {n d:Nat} {row' aaw:List AV} (hrow:A.eO W n d row'=some aaw):∀{l:List bf} {ib:Nat},A.jh W n d ((l.map aK).set ib row')=some ((l.map aK).set ib aaw)
 |[],ib=>by simp [A.jh]
 |b::l,0=>by
  simp only[List.map_cons,List.set_cons_zero,A.jh,hrow,Option.bind_some,ag8 l W n d,Option.map_some]
 |b::l,ib+1=>by
  simp only[List.map_cons,List.set_cons_succ,A.jh,CZ b W n d,Option.bind_some,WH hrow (l:=l),Option.map_some]
theorem Pp {σ:Heap} {ex:Heap} {aS g ib:Nat} {l:List bf} {b b':bf} {m R:List (aB×cq)} (h2:σ[aS]? =some (.arr g 10 (l.map aK))) (hb:l[ib]? =some b) (hcan:∀b∈l,Ds b.runs) (hR:b'.runs=some (Cd R)) (hm:m.Perm R) (hnd:(m.map (·.1)).Nodup) (hex:ex[0]? =some (.map (m.map dB))):
  A.Ao σ (.aH []) ((σ++ex).set aS (.arr g 10 ((l.map aK).set ib [.int .i64 b'.clock.shown,.int .i64 b'.clock.since,.bool b'.clock.jL,.int .i64 b'.number,.int .i64 b'.priority,sl 11 aZ b'.bD,.int .i64 b'.bQ,.int .i64 b'.jg,.int .i64 b'.follow,.om σ.length])))=some (.aH [],σ.set aS (.arr g 10 ((l.set ib b').map aK))):=by
 have hl:=(List.getElem?_eq_some_iff.1 h2).1
 have hib:=(List.getElem?_eq_some_iff.1 hb).1
 obtain⟨row,hrow⟩:∃row:List AV,row=[.int .i64 b'.clock.shown,.int .i64 b'.clock.since,.bool b'.clock.jL,.int .i64 b'.number,.int .i64 b'.priority,sl 11 aZ b'.bD,.int .i64 b'.bQ,.int .i64 b'.jg,.int .i64 b'.follow,.om σ.length]:=⟨_,rfl⟩
 rw[←hrow]
 rw[List.set_append_left _ _ hl]
 obtain⟨W,hW⟩:∃W,W=σ.set aS (.arr g 10 ((l.map aK).set ib row))++ex:=⟨_,rfl⟩
 have hWn:W[σ.length]? =some (.map (m.map dB)):=by
  rw[hW,List.getElem?_append_right (by simp),List.length_set,Nat.sub_self];exact hex
 have hne:aJ.arr g 10 ((l.map aK).set ib row)≠.arr g 10 (l.map aK):=by
  intro q
  injection q with _ _ q
  have q2:((l.map aK).set ib row)[ib]? =(l.map aK)[ib]? :=by rw[q]
  rw[List.getElem?_set_self (by simpa using hib),List.getElem?_map,hb,Option.map_some]at q2
  injection q2 with q2
  rw[hrow]at q2
  unfold aK at q2
  simp only[List.cons.injEq,and_true]at q2
  have:=q2.2.2.2.2.2.2.2.2.2
  revert this
  cases b.runs<;>intro this<;>cases this
 have hfr:A.eO W σ.length 8 row=some [.int .i64 b'.clock.shown,.int .i64 b'.clock.since,.bool b'.clock.jL,.int .i64 b'.number,.int .i64 b'.priority,sl 11 aZ b'.bD,.int .i64 b'.bQ,.int .i64 b'.jg,.int .i64 b'.follow,.fm (m.map dB)]:=by
  rw[hrow]
  simp only[A.eO,dM _ _ W σ.length 8,By _ W σ.length 8,oZ L5 _ W σ.length 8,ala hWn 7,Option.bind_some,Option.map_some]
 have hB:A.Ch W σ.length (.arr g 10 ((l.map aK).set ib row))=some (.arr g 10 ((l.set ib b').map aK)):=by
  simp only[A.Ch,WH hfr,Option.map_some]
  congr 2
  rw[List.map_set,List.map_set,List.map_map]
  have e1:l.map ((fun x=>x.map A.can)∘aK)=l.map aK:=List.map_congr_left fun b hb=>agU (hcan b hb)
  rw[e1]
  congr 1
  unfold aK
  rw[hR]
  simp only[List.map_cons,List.map_nil,Zl hnd,Wt (hm.map dB),←Xw]
  rfl
 unfold A.Ao
 rw[←hW]
 conv=>lhs;arg 1;rw[hW]
 rw[WG h2 hne,←hW,hB]
 simp only[Option.map_some,Option.bind_some]
 have:A.bw W σ.length 8 (.aH [])=some (.aH []):=by simp [A.bw,A.eO]
 rw[this]
 rfl
end
section
set_option maxRecDepth 100000
open HP
theorem alM {ro:Sh} {r:AV→AV→AV→AV→AV→Heap→Option (AV×Heap)} {x y z u p v v':AV} {σ σ':Heap} (e2:A.nn ro v=v') (e:r x y z u p σ=some (v,σ')):A.wrap false [] ro (A.DX r) [x,y,z,u,p] σ=some (v',σ'):=by
 have:A.DX r [x,y,z,u,p] σ=some (v,σ'):=e
 simp only[A.wrap,Bool.false_and,cond_false,A.bW,this,Option.map_some,e2]
abbrev yQ (c t:Int) (b:bf) (bQ follow:Int) (rv:AV):List AV:=[.int .i64 c,.int .i64 t,.bool false,.int .i64 b.number,.int .i64 b.priority,sl 11 aZ b.bD,.int .i64 bQ,.int .i64 b.jg,.int .i64 follow,rv]
theorem Lp {d:bF} {s:bX} {b:bf} {x:bg} {c:Int} {seen:List bh}:∀(l:List (aB×cq)),∀p∈l.filterMap (fun p=>(sN d s b x c seen p.1).map (fun r=>(p.1,r))),(lE seen p.1).isSome=false∧p.1∈l.map (·.1):=by
 intro l p hp
 obtain⟨q,hq,h⟩:=List.mem_filterMap.1 hp
 obtain⟨r,hr,rfl⟩:=Option.map_eq_some_iff.1 h
 refine⟨?_,List.mem_map.2 ⟨q,hq,rfl⟩⟩
 unfold sN at hr
 split at hr
 ·cases hr
 ·rename_i h
  simp only[not_or]at h
  simpa using h.2.1
theorem PG {d:bF} {s:bX} {b:bf} {x:bg} {c:Int} {seen:List bh}:∀{l:List (aB×cq)},(l.map (·.1)).Nodup→((l.filterMap (fun p=>(sN d s b x c seen p.1).map (fun r=>(p.1,r)))).map (·.1)).Nodup
 |[],_=>by simp
 |p::l,h=>by
  rw[List.map_cons,List.nodup_cons]at h
  rw[List.filterMap_cons]
  cases hs:sN d s b x c seen p.1 with
  |none=>simp only[Option.map_none];exact PG h.2
  |some r=>
   simp only[Option.map_some,List.map_cons,List.nodup_cons]
   refine⟨fun q=>?_,PG h.2⟩
   obtain⟨z,hz,Jo⟩:=List.mem_map.1 q
   have:=(Lp l z hz).2
   rw[Jo]at this
   exact h.1 this
theorem Xa {seen:List bh} {k:aB} (h:(lE seen k).isSome=false):∀e∈seen,e.key≠k:=by
 intro e he q
 unfold lE at h
 rw[Option.isSome_eq_false_iff,Option.isNone_iff_eq_none,List.find?_eq_none]at h
 exact h e he (by simpa using q)
theorem agu {seen:List bh} (h:mw seen):(seen.map (·.key)).Nodup:=by
 unfold mw at h
 rw[List.nodup_iff_pairwise_ne,List.pairwise_map]
 exact h.imp fun{a b} q e=>by rw[e,BB]at q;cases q
theorem go_nodup {d:bF} {s:bX} {b:bf} {x:bg} {t c:Int} {seen:List bh} (uC:mw seen) {l:List (aB×cq)} (hl:(l.map (·.1)).Nodup):((seen.map (fun e=>(e.key,yH d s b x t c e))++l.filterMap (fun p=>(sN d s b x c seen p.1).map (fun r=>(p.1,r)))).map (·.1)).Nodup:=by
 rw[List.map_append,List.map_map,List.nodup_append]
 refine⟨agu uC,PG hl,fun a ha b' hb' q=>?_⟩
 subst q
 obtain⟨e,he,rfl⟩:=List.mem_map.1 ha
 obtain⟨z,hz,Jo⟩:=List.mem_map.1 hb'
 exact Xa (Lp l z hz).1 e he (by rw[Jo];rfl)
theorem Zx {d:bF} {s:bX} {σ:Heap} {pd:AV} {ids aS g ib to:Nat} {b:bf} {x:bg} {t:Int} (hd:sk pd d σ) (h1:σ[ids]? =some (.box (bl (.os aS g 10 0 s.az.length) s))) (h2:σ[aS]? =some (.arr g 10 (s.az.map aK))) (hb:s.az[ib]? =some b) (TL:b.bD[to]? =some x) (hs:s.az.length≤aW) (ho:∀b∈s.az,rP b t) (hp:eZ zo d.setup.bH) (Nc:eZ BY b.bD) (uC:mw (zV b x)) (A6:(zV b x).length≤aW) (hcan:∀b∈s.az,Ds b.runs):
  sK [pd,.op ids 0,.int .i64 (ib:Int),.int .i64 (to:Int),.int .i64 t] σ=some (.aH [],σ.set aS (.arr g 10 ((s.az.set ib (lu d s b x to t)).map aK))):=by
 refine alM (iQ _) ?_
 have vH:b∈s.az:=List.mem_of_getElem? hb
 have hxm:x∈b.bD:=List.mem_of_getElem? TL
 have hox:=Nc.2 x hxm
 have hxi:aN x.number:=hox.1
 have an8:x.dw.length≤aW:=(VA hox).1
 have yV:Gk (.oe aS g ib 0) b σ:=bRd h2 hb
 have hlb:=(List.getElem?_eq_some_iff.1 hb).1
 have hlt:=(List.getElem?_eq_some_iff.1 h2).1
 have hls:=(List.getElem?_eq_some_iff.1 h1).1
 have Cw:=ho b vH
 have Ap:=Cw.pX
 have fR:b.bD.length≤aW:=Nc.1
 have hto:=(List.getElem?_eq_some_iff.1 TL).1
 have Eg:((b.runs.getD []).map (·.1)).Nodup:=by
  cases hr:b.runs with
  |none=>simp
  |some l=>exact(hcan b vH l hr).1
 have Ee:∀k,(dH b k (dm b.clock t)).2=true→rK (dH b k (dm b.clock t)).1.jN:=fun k q=>zD Cw q
 have rd:∀o ex,A.deref (.oe aS g ib o) (σ++ex)=some ((aK b).drop o):=fun o ex=>by
  obtain⟨q,e1,e2⟩:=yV.f o
  have:q=.oe aS g ib o:=by simp [A.aA]at e1;exact e1.symm
  rw[←this];exact e2 ex
 have Nt:∀o,A.deref (.oe aS g ib o) σ=some ((aK b).drop o):=fun o=>by have:=rd o [];rwa[List.append_nil]at this
 unfold Of
 rw[show A.aL (.op ids 0)=some (.op ids 0)from rfl,bS,show A.aA 0 (.op ids 0)=some (.op ids 0)from rfl,bS,show((A.deref (.op ids 0) σ).bind fun c=>A.aj 0 c)=some (.os aS g 10 0 s.az.length)from by simp only[A.deref,h1];rfl,bS,show A.aU 10 (.os aS g 10 0 s.az.length) (.int .i64 (ib:Int))=some (.oe aS g ib 0)from by
  have:((ib:Int)<(s.az.length:Int)):=by omega
  simp [A.aU,A.idx,this],bS]
 simp only[show A.aL (.oe aS g ib 0)=some (.oe aS g ib 0)from rfl,bS,show ∀o,A.aA o (.oe aS g ib 0)=some (.oe aS g ib o)from fun o=>by simp [A.aA],Nt]
 rw[show A.aj 0 ((aK b).drop 5)=some (sl 11 aZ b.bD)from rfl,bS,iO TL,bS,nv,bS,show A.ay 0 11 (aZ x)=some (.agg (aZ x))from rfl,bS,LX,bS,HH _ _ rfl,bS,show A.ay 0 3 ((aK b).drop 0)=some (.agg (uU b.clock))from rfl,bS,Mv,bS]
 simp only[Nt,bS]
 rw[show A.aj 0 ((aK b).drop 5)=some (sl 11 aZ b.bD)from rfl,bS,PZ,bS,quiet_of (ajg Nc hxi σ),bS,kU,bS,ext1,bS,show(zw b.bD x.number).1=zV b x from rfl,fE,bS]
 rw[show(σ++[aJ.map []])++[aJ.map []]=oI σ [] []from by rw[List.append_assoc];rfl,show(σ++[aJ.map []]).length=σ.length+1 from by simp]
 refine(congrArg (fun z=>Option.bind z _) (go_loop1 hd h1 h2 vH yV hs ho hp an8 A6 uC)).trans ?_
 rw[bS]
 simp only[mJ,rd,bS]
 rw[show A.aj 0 ((aK b).drop 9)=some (nw (fun x=>AV.agg (aO x)) (fun x=>AV.agg (fq x)) b.runs)from KB b (σ:=[]),bS,V9,bS]
 obtain⟨seen,Rq⟩:∃seen,seen=zV b x:=⟨_,rfl⟩
 obtain⟨c,hc⟩:∃c,c=dm b.clock t:=⟨_,rfl⟩
 have Cz:De d s b x t=seen.map (fun e=>(e.key,yH d s b x t c e))++(b.runs.getD []).filterMap (fun p=>(sN d s b x c seen p.1).map (fun r=>(p.1,r))):=by rw[Rq,hc];rfl
 rw[←Rq]at uC A6
 rw[←hc]at Ap Ee
 rw[←Rq,←hc]
 obtain⟨es,xG⟩:∃es,es=b.runs.getD []:=⟨_,rfl⟩
 rw[←xG]at Eg Cz
 rw[←xG]
 obtain⟨m1,hm1⟩:∃m1,m1=seen.map (fun e=>(e.key,yH d s b x t c e)):=⟨_,rfl⟩
 obtain⟨m2,hm2⟩:∃m2,m2=seen.map (fun e=>(e.key,true)):=⟨_,rfl⟩
 rw[←hm1]at Cz
 rw[←hm1,←hm2]
 have hWl:(oI σ m1 m2).length=σ.length+2:=by simp
 rw[hWl,show oI σ m1 m2++[aJ.it [] (es.map dB)]=sy σ m1 m2 [] (es.map dB)from by rw[List.append_assoc];rfl]
 obtain⟨st,hst⟩:∃st,st=fun p:aB×cq=>(sN d s b x c seen p.1).map (fun r=>(p.1,r)):=⟨_,rfl⟩
 rw[←hst]at Cz
 refine PE (α:=aB×cq) (enc:=dB) (it:=σ.length+2) (es:=es) _ _ (fun _ _ _=>rfl) (fun dn lf w W=>w=[.lbx (aZ x)]∧∃cu,W=sy σ (m1++dn.filterMap st) m2 cu (lf.map dB)) ?_ ?_ ?_ ?_
 ·rintro dn lf w W ⟨rfl,cu,rfl⟩
  exact⟨cu,Zy _ _ _ _ _⟩
 ·rintro dn lf w W j p zQ ⟨rfl,cu,rfl⟩ hj
  rw[ajT]
  have hpk:∀q∈m1++dn.filterMap st,st p≠none→q.1≠p.1:=by
   intro q hq hsp e
   have hpn:(lE seen p.1).isSome=false:=by
    have:p.1∈[p].map (·.1):=by simp
    obtain⟨r,hr⟩:=Option.ne_none_iff_exists'.1 hsp
    rw[hst]at hr
    have:=(Lp (d:=d) (s:=s) (b:=b) (x:=x) (c:=c) (seen:=seen) [p] r (List.mem_filterMap.2 ⟨p,by simp,hr⟩)).1
    obtain⟨r',_,hr'⟩:=Option.map_eq_some_iff.1 hr
    rw[←hr']at this
    exact this
   rcases List.mem_append.1 hq with hq|hq
   ·rw[hm1]at hq
    obtain⟨e',he',rfl⟩:=List.mem_map.1 hq
    exact Xa hpn e' he' e
   ·rw[hst]at hq
    have hk:=(Lp dn q hq).2
    rw[e]at hk
    have hnd:((dn++lf).map (·.1)).Nodup:=(zQ.map (·.1)).nodup_iff.2 Eg
    rw[List.map_append,List.nodup_append]at hnd
    exact hnd.2.2 p.1 hk p.1 (List.mem_map.2 ⟨p,List.mem_of_getElem? hj,rfl⟩) rfl
  obtain⟨W,hW⟩:∃W,W=sy σ (m1++dn.filterMap st) m2 [dB p] ((lf.eraseIdx j).map dB):=⟨_,rfl⟩
  rw[←hW]
  have Iw:A.uW (.op (σ.length+2) 0) W=some (.aH [.agg (aO p.1),.agg (fq p.2)]):=by
   rw[hW];simp only[A.uW,Zy];rfl
  refine⟨[.lbx (aZ x)],sy σ (m1++(dn++[p]).filterMap st) m2 [dB p] ((lf.eraseIdx j).map dB),fun K=>?_,rfl,_,rfl⟩
  rw[Iw,bS,kU,bS,Da,bS,HI _ _ rfl,bS,rJ,bS]
  have R9:∀k,p9 [.oe aS g ib 0,.agg (aO k),.int .i64 c] W=some (.aH [.agg (fq (dH b k c).1),.bool (dH b k c).2],W):=fun k=>by rw[hW];exact Qc yV k c _
  rw[R9,bS]
  simp only[kU,ext1,bS,yl,Bv _ _ (show ng.length=9 from rfl),wY]
  obtain⟨GB,pm,g1,g2⟩:=hd.f10
  have g3:((A.deref GB W).bind fun c=>A.aj 0 c)=some pm:=by rw[hW];exact(g2 _).1
  have g4:A.look (.s [0,2]) pm (.agg (aO p.1)) (.agg Dp) W=some (.agg (jI d p.1)):=by rw[hW];exact(g2 _).2 p.1
  have g5:A.look (.s [0,2]) (.om (σ.length+1)) (.agg (aO p.1)) (.bool false) W=some (.bool (lE seen p.1).isSome):=by rw[hW,alc,hm2,ajc]
  have skip:st p=none→K (.normal,[.lbx (aZ x)],W)=K (.normal,[.lbx (aZ x)],sy σ (m1++(dn++[p]).filterMap st) m2 [dB p] ((lf.eraseIdx j).map dB)):=by
   intro h
   rw[hW,List.filterMap_append,List.filterMap_cons,h,List.filterMap_nil,List.append_nil]
  by_cases lT:(dH b p.1 c).2=true
  case neg=>
   have DJ:(dH b p.1 c).2=false:=by simpa using lT
   rw[DJ]
   simp only[Bool.not_false,xD,gU,bS,lz,cT,List.getD_cons_zero]
   exact skip (by rw[hst];simp only[sN,DJ,true_or,if_true,Option.map_none])
  rw[lT]
  simp only[Bool.not_true,gF,bS,mM,g5,rJ]
  by_cases TK:(lE seen p.1).isSome=true
  ·rw[TK]
   simp only[xD,gU,bS,lz,cT,List.getD_cons_zero]
   exact skip (by rw[hst];simp only[sN,TK,true_or,or_true,if_true,Option.map_none])
  have aa5:(lE seen p.1).isSome=false:=by simpa using TK
  rw[aa5]
  simp only[gF,bS,mM,hd.nc,g1,g3,g4,rJ,FG,zI,gC]
  by_cases AY:(eW d p.1).1=1
  case neg=>
   rw[decide_eq_true AY]
   simp only[cT,List.getD_cons_zero]
   exact skip (by rw[hst];simp only[sN,AY,not_false_eq_true,or_true,if_true,Option.map_none])
  rw[decide_eq_false (fun q=>q AY)]
  simp only[cF,KU,bS,wY]
  have hfo:=Ee p.1 lT
  have FU:¬((dH b p.1 c).2=false∨(lE seen p.1).isSome=true∨¬(eW d p.1).1=1):=by
   rw[lT,aa5,AY];simp
  have last:∀r:cq,st p=some (p.1,r)→((A.ew (.s [0,2]) (.om σ.length) (.agg (aO p.1)) (.agg (fq r)) W).bind fun R6=>K (.normal,[.lbx (aZ x)],R6))=K (.normal,[.lbx (aZ x)],sy σ (m1++(dn++[p]).filterMap st) m2 [dB p] ((lf.eraseIdx j).map dB)):=by
   intro r hr
   rw[hW,ald,bS,HU (fun q hq=>hpk q hq (by rw[hr];simp)),List.filterMap_append,List.filterMap_cons,hr,List.filterMap_nil,List.append_assoc]
  cases I9:(dH b p.1 c).1.ending
  case true=>
   simp only[Bool.not_true,cF,bS,List.getD_cons_zero,List.getD_cons_succ,hG,rJ,uP]
   exact last _ (by rw[hst];simp only[sN,if_neg FU,I9,if_true,Option.map_some])
  case false=>
   simp only[Bool.not_false,cT,bS,uP,quiet_of (HD hfo Ap W),List.getD_cons_zero,List.getD_cons_succ,hG,P0,P3,OE]
   rw[aiC,bS,C7,bS,LN _ _ rfl,bS,Fp,bS,quiet_of (Rj _ W),bS]
   rw[show A.aA 1 (.op ids 0)=some (.op ids 1)from rfl,bS,show((A.deref (.op ids 1) W).bind fun Ik=>A.aj 0 Ik)=some (.int .i64 s.number)from by
    rw[hW];simp only[A.deref,List.getElem?_append_left hls,h1];rfl,bS,QJ,bS,yl,bS,Bv _ _ rfl,bS,bS]
   simp only[List.getD_cons_zero,List.getD_cons_succ,hG,bS,rJ,uP]
   exact last _ (by rw[hst];simp only[sN,if_neg FU,I9,Option.map_some];rfl)
 ·rintro dn w W zQ ⟨rfl,cu,rfl⟩
  simp only[mJ]
  obtain⟨m,hm⟩:∃m,m=m1++dn.filterMap st:=⟨_,rfl⟩
  rw[←hm]
  obtain⟨ex,hex⟩:∃ex:Heap,ex=[.map (m.map dB),.map (m2.map Cg),.it cu (([]:List (aB×cq)).map dB)]:=⟨_,rfl⟩
  rw[show sy σ m m2 cu (([]:List (aB×cq)).map dB)=σ++ex from by rw[hex]]
  have hmp:m.Perm (De d s b x t):=by
   rw[Cz,hm]
   exact(zQ.filterMap st).append_left m1
  have hnd:(m.map (·.1)).Nodup:=by
   rw[hm,hm1,hst]
   exact go_nodup uC ((zQ.map (·.1)).nodup_iff.2 Eg)
  rw[show((((A.cell (AV.int .i64 c)).bind fun v=>some [v]).bind fun DD=>(A.splice 0 DD [ah,ah,aM]).bind fun DE=>((A.cell (AV.int .i64 t)).bind fun v=>some [v]).bind fun DF=>(A.splice 1 DF DE).bind fun Il=>((A.cell aM).bind fun v=>some [v]).bind fun Im=>(A.splice 2 Im Il).bind fun Io=>some Io).bind fun cs=>some (AV.agg cs))=some (.agg [.int .i64 c,.int .i64 t,.bool false])from rfl,bS]
  try simp only[show A.aL (.oe aS g ib 0)=some (.oe aS g ib 0)from rfl,bS,show ∀o,A.aA o (.oe aS g ib 0)=some (.oe aS g ib o)from fun o=>by simp [A.aA]]
  rw[show A.cells 3 (.agg [.int .i64 c,.int .i64 t,.bool false])=some [.int .i64 c,.int .i64 t,.bool false]from rfl,bS]
  have Nf:(σ++ex)[aS]? =some (.arr g 10 (s.az.map aK)):=by rw[List.getElem?_append_left hlt];exact h2
  have TG:(s.az.map aK)[ib]? =some (aK b):=by rw[List.getElem?_map,hb];rfl
  have hlm:ib<(s.az.map aK).length:=by simpa using hlb
  have Nh:aS<(σ++ex).length:=by simp;omega
  have chain:∀(o:Nat) (row row' new:List AV),A.splice o new row=some row'→A.storeAt (.oe aS g ib o) new ((σ++ex).set aS (.arr g 10 ((s.az.map aK).set ib row)))=some ((σ++ex).set aS (.arr g 10 ((s.az.map aK).set ib row'))):=by
   intro o row row' new hsp
   rw[HJ (W:=(σ++ex).set aS (.arr g 10 ((s.az.map aK).set ib row))) (rows:=(s.az.map aK).set ib row) (List.getElem?_set_self Nh) (List.getElem?_set_self hlm) hsp,List.set_set,List.set_set]
  obtain⟨rv,TH⟩:∃rv,rv=nw (fun x=>AV.agg (aO x)) (fun x=>AV.agg (fq x)) b.runs:=⟨_,rfl⟩
  rw[HJ (row':=[.int .i64 c,.int .i64 t,.bool false,.int .i64 b.number,.int .i64 b.priority,sl 11 aZ b.bD,.int .i64 b.bQ,.int .i64 b.jg,.int .i64 b.follow,rv]) Nf TG (by rw[TH];rfl),bS]
  rw[oW,bS,chain 6 _ (yQ c t b to b.follow rv) _ rfl,bS]
  rw[show((A.cell (AV.om σ.length)).bind fun v=>some [v])=some [.om σ.length]from rfl,bS,chain 9 _ (yQ c t b to b.follow (.om σ.length)) _ rfl,bS]
  rw[oW,bS,chain 8 _ (yQ c t b to (-1) (.om σ.length)) _ rfl,bS]
  simp only[List.getD_cons_zero,hG,bS,W7,rR]
  have fin:=fun(fo:Int) (hfo:(lu d s b x to t).follow=fo)=>Pp (σ:=σ) (ex:=ex) (b':=lu d s b x to t) (m:=m) (R:=De d s b x t) h2 hb hcan rfl hmp hnd (by rw[hex];rfl)
  have hrow:[AV.int .i64 (lu d s b x to t).clock.shown,.int .i64 (lu d s b x to t).clock.since,.bool (lu d s b x to t).clock.jL,.int .i64 (lu d s b x to t).number,.int .i64 (lu d s b x to t).priority,sl 11 aZ (lu d s b x to t).bD,.int .i64 (lu d s b x to t).bQ,.int .i64 (lu d s b x to t).jg,.int .i64 (lu d s b x to t).follow,.om σ.length]=yQ c t b to (lu d s b x to t).follow (.om σ.length):=by rw[hc];rfl
  have fin:=Pp (σ:=σ) (ex:=ex) (b':=lu d s b x to t) (m:=m) (R:=De d s b x t) h2 hb hcan rfl hmp hnd (by rw[hex];rfl)
  rw[hrow]at fin
  have Cl:(lu d s b x to t).follow=if 0≤x.follow∧(to:Int)+1<(b.bD.length:Int)then IntKind.i64.wrap (c+x.follow)else -1:=by rw[hc];rfl
  by_cases Gv:0≤x.follow
  ·rw[decide_eq_true Gv]
   simp only[gT,bS,show A.aL (.oe aS g ib 0)=some (.oe aS g ib 0)from rfl,show ∀o,A.aA o (.oe aS g ib 0)=some (.oe aS g ib o)from fun o=>by simp [A.aA]]
   rw[MI (by unfold aW at fR;omega),bS]
   rw[show((A.deref (.oe aS g ib 5) ((σ++ex).set aS (.arr g 10 ((s.az.map aK).set ib (yQ c t b to (-1) (.om σ.length)))))).bind fun RY=>A.aj 0 RY)=some (sl 11 aZ b.bD)from by
    simp only[A.deref,List.getElem?_set_self Nh,if_true,List.getElem?_set_self hlm,Option.map_some];rfl,bS,fE,bS,kO,bS,lz,bS]
   by_cases yW:(to:Int)+1<(b.bD.length:Int)
   ·rw[decide_eq_true (by omega),cQ]
    rw[if_pos ⟨Gv,yW⟩]at Cl
    rw[Cl]at fin
    rw[kN,bS,oW,bS,chain 8 _ (yQ c t b to (IntKind.i64.wrap (c+x.follow)) (.om σ.length)) _ rfl,bS,bS]
    exact fin
   ·rw[decide_eq_false (by omega),cB,bS]
    rw[if_neg (fun q=>yW q.2)]at Cl
    rw[Cl]at fin
    exact fin
  ·rw[decide_eq_false Gv]
   simp only[ux,gU,bS,mM,cF]
   rw[if_neg (fun q=>Gv q.1)]at Cl
   rw[Cl]at fin
   exact fin
 ·refine⟨rfl,[],?_⟩
  rw[List.filterMap_nil,List.append_nil]
end
section
set_option maxRecDepth 100000
open HP
noncomputable def yB (d:bF) (s:bX) (b:bf) (c lv:Int) (k:aB):Option cq:=
 if(dH b k c).2=false∨¬(eW d k).1=1 then none
 else some ⟨sY ⟨uG (dH b k c).1 c,0,c,0,lv,⟨1,[]⟩⟩,s.number,true⟩
noncomputable def HG (d:bF) (s:bX) (b:bf) (a:dR):List (aB×cq):=
 (b.runs.getD []).filterMap (fun p=>(yB d s b (dm b.clock a.time) a.level p.1).map (fun r=>(p.1,r)))
noncomputable def td (d:bF) (s:bX) (b:bf) (a:dR):bf:=
 {b with clock:=⟨dm b.clock a.time,a.time,false⟩,bQ:=-1,follow:=-1,runs:=some (Cd (HG d s b a))}
abbrev vw (σ:Heap) (m:List (aB×cq)) (c l:List (AV×AV)):Heap:=σ++[.map (m.map dB),.it c l]
theorem Y4 (σ:Heap) (m:List (aB×cq)) (c l:List (AV×AV)):(vw σ m c l)[σ.length+1]? =some (.it c l):=by
 rw[List.getElem?_append_right (by omega),show σ.length+1-σ.length=1 by omega];rfl
theorem aiU (σ:Heap) (m:List (aB×cq)) (c l c' l':List (AV×AV)):(vw σ m c l).set (σ.length+1) (.it c' l')=vw σ m c' l':=by
 rw[List.set_append_right _ _ (by omega),show σ.length+1-σ.length=1 by omega];rfl
theorem alB (σ:Heap) (m:List (aB×cq)) (c l:List (AV×AV)) (k:aB) (r:cq):A.ew (.s [0,2]) (.om σ.length) (.agg (aO k)) (.agg (fq r)) (vw σ m c l)=some (vw σ (dD k r m) c l):=by
 rw[zz _ rfl (show(vw σ m c l)[σ.length]? =some (.map (m.map dB)) by rw[List.getElem?_append_right (Nat.le_refl _),Nat.sub_self];rfl),show A.upd (.s [0,2]) (.agg (aO k)) (.agg (fq r)) (m.map dB)=some ((dD k r m).map dB)from Dn (eK:=fun k=>AV.agg (aO k)) (eV:=fun r=>AV.agg (fq r)) qt k r m,Option.map_some,List.set_append_right _ _ (Nat.le_refl _),Nat.sub_self]
 rfl
theorem X7 {d:bF} {s:bX} {b:bf} {c lv:Int}:∀(l:List (aB×cq)),∀p∈l.filterMap (fun p=>(yB d s b c lv p.1).map (fun r=>(p.1,r))),p.1∈l.map (·.1):=by
 intro l p hp
 obtain⟨q,hq,h⟩:=List.mem_filterMap.1 hp
 obtain⟨r,hr,rfl⟩:=Option.map_eq_some_iff.1 h
 exact List.mem_map.2 ⟨q,hq,rfl⟩
theorem Lm {d:bF} {s:bX} {b:bf} {c lv:Int}:∀{l:List (aB×cq)},(l.map (·.1)).Nodup→((l.filterMap (fun p=>(yB d s b c lv p.1).map (fun r=>(p.1,r)))).map (·.1)).Nodup
 |[],_=>by simp
 |p::l,h=>by
  rw[List.map_cons,List.nodup_cons]at h
  rw[List.filterMap_cons]
  cases hs:yB d s b c lv p.1 with
  |none=>simp only[Option.map_none];exact Lm h.2
  |some r=>
   simp only[Option.map_some,List.map_cons,List.nodup_cons]
   refine⟨fun q=>?_,Lm h.2⟩
   obtain⟨z,hz,Jo⟩:=List.mem_map.1 q
   have:=X7 l z hz
   rw[Jo]at this
   exact h.1 this
theorem aiB (dA c lv:Int):((((A.cell (.int .i64 dA)).bind fun v=>some [v]).bind fun nR=>(A.splice 0 nR [ah,ah,ah,ah,ah,ah,AV.au]).bind fun xw=>((A.cell (.int .i64 c)).bind fun v=>some [v]).bind fun IM=>(A.splice 2 IM xw).bind fun nS=>((A.cell (.int .i64 lv)).bind fun v=>some [v]).bind fun vD=>(A.splice 4 vD nS).bind fun iA=>(A.cells 2 (.agg [.int .i64 1,.au])).bind fun pR=>(A.splice 5 pR iA).bind fun i6=>some i6).bind fun cs=>some (AV.agg cs))=some (.agg [.int .i64 dA,.int .i64 0,.int .i64 c,.int .i64 0,.int .i64 lv,.int .i64 1,.au]):=rfl
theorem ajy (dA c lv:Int) (σ:Heap):uN [.agg [.int .i64 dA,.int .i64 0,.int .i64 c,.int .i64 0,.int .i64 lv,.int .i64 1,.au]] σ=some (.agg (fG (sY ⟨dA,0,c,0,lv,⟨1,[]⟩⟩)),σ):=by
 have h:=Rj ⟨dA,0,c,0,lv,⟨1,[]⟩⟩ σ
 rw[←h]
 exact QW rfl rfl rfl
theorem ahC {d:bF} {s:bX} {σ:Heap} {pd:AV} {ids aS g ib:Nat} {b:bf} {a:dR} (hd:sk pd d σ) (h1:σ[ids]? =some (.box (bl (.os aS g 10 0 s.az.length) s))) (h2:σ[aS]? =some (.arr g 10 (s.az.map aK))) (hb:s.az[ib]? =some b) (Cw:rP b a.time) (hcan:∀b∈s.az,Ds b.runs):
  GM [pd,.op ids 0,.oe aS g ib 0,.agg (bE a)] σ=some (.aH [],σ.set aS (.arr g 10 ((s.az.set ib (td d s b a)).map aK))):=by
 have alL:∀{r:AV→AV→AV→AV→Heap→Option (AV×Heap)} {x y z u:AV} {σ σ':Heap},r x y z u σ=some (.aH [],σ')→A.wrap false [] .k (A.vB r) [x,y,z,u] σ=some (.aH [],σ'):=by
  intro r x y z u σ σ' e
  have:A.vB r [x,y,z,u] σ=some (.aH [],σ'):=e
  simp only[A.wrap,Bool.false_and,cond_false,A.bW,this,Option.map_some,iQ]
 refine alL ?_
 have vH:b∈s.az:=List.mem_of_getElem? hb
 have yV:Gk (.oe aS g ib 0) b σ:=bRd h2 hb
 have hlb:=(List.getElem?_eq_some_iff.1 hb).1
 have hlt:=(List.getElem?_eq_some_iff.1 h2).1
 have hls:=(List.getElem?_eq_some_iff.1 h1).1
 have Ap:=Cw.pX
 have Eg:((b.runs.getD []).map (·.1)).Nodup:=by
  cases hr:b.runs with
  |none=>simp
  |some l=>exact(hcan b vH l hr).1
 have Ee:∀k,(dH b k (dm b.clock a.time)).2=true→rK (dH b k (dm b.clock a.time)).1.jN:=fun k q=>zD Cw q
 have rd:∀o ex,A.deref (.oe aS g ib o) (σ++ex)=some ((aK b).drop o):=fun o ex=>by
  obtain⟨q,e1,e2⟩:=yV.f o
  have:q=.oe aS g ib o:=by simp [A.aA]at e1;exact e1.symm
  rw[←this];exact e2 ex
 have Nt:∀o,A.deref (.oe aS g ib o) σ=some ((aK b).drop o):=fun o=>by have:=rd o [];rwa[List.append_nil]at this
 unfold NX
 rw[show A.cells 5 (.agg (bE a))=some (bE a)from rfl,bS]
 simp only[show A.aL (.oe aS g ib 0)=some (.oe aS g ib 0)from rfl,bS,show ∀o,A.aA o (.oe aS g ib 0)=some (.oe aS g ib o)from fun o=>by simp [A.aA],Nt,rd]
 rw[show A.ay 0 3 ((aK b).drop 0)=some (.agg (uU b.clock))from rfl,bS,show A.aj 0 (bE a)=some (.int .i64 a.time)from rfl,bS,quiet_of (Mv _ _ σ),bS]
 rw[show A.aj 0 ((aK b).drop 9)=some (nw (fun x=>AV.agg (aO x)) (fun x=>AV.agg (fq x)) b.runs)from KB b (σ:=[]),bS,V9,bS]
 obtain⟨c,hc⟩:∃c,c=dm b.clock a.time:=⟨_,rfl⟩
 have Cz:HG d s b a=(b.runs.getD []).filterMap (fun p=>(yB d s b c a.level p.1).map (fun r=>(p.1,r))):=by rw[hc];rfl
 rw[←hc]at Ap Ee
 rw[←hc]
 obtain⟨es,xG⟩:∃es,es=b.runs.getD []:=⟨_,rfl⟩
 rw[←xG]at Eg Cz
 rw[←xG]
 rw[show(σ++[aJ.map []]).length=σ.length+1 from by simp,show(σ++[aJ.map []])++[aJ.it [] (es.map dB)]=vw σ [] [] (es.map dB)from by rw[List.append_assoc];rfl]
 obtain⟨st,hst⟩:∃st,st=fun p:aB×cq=>(yB d s b c a.level p.1).map (fun r=>(p.1,r)):=⟨_,rfl⟩
 rw[←hst]at Cz
 refine PE (α:=aB×cq) (enc:=dB) (it:=σ.length+1) (es:=es) _ _ (fun _ _ _=>rfl) (fun dn lf w W=>w=[.lbx (bE a)]∧∃cu,W=vw σ (dn.filterMap st) cu (lf.map dB)) ?_ ?_ ?_ ?_
 ·rintro dn lf w W ⟨rfl,cu,rfl⟩
  exact⟨cu,Y4 _ _ _ _⟩
 ·rintro dn lf w W j p zQ ⟨rfl,cu,rfl⟩ hj
  rw[aiU]
  have hpk:∀q∈dn.filterMap st,q.1≠p.1:=by
   intro q hq e
   rw[hst]at hq
   have hk:=X7 dn q hq
   rw[e]at hk
   have hnd:((dn++lf).map (·.1)).Nodup:=(zQ.map (·.1)).nodup_iff.2 Eg
   rw[List.map_append,List.nodup_append]at hnd
   exact hnd.2.2 p.1 hk p.1 (List.mem_map.2 ⟨p,List.mem_of_getElem? hj,rfl⟩) rfl
  obtain⟨W,hW⟩:∃W,W=vw σ (dn.filterMap st) [dB p] ((lf.eraseIdx j).map dB):=⟨_,rfl⟩
  rw[←hW]
  have Iw:A.uW (.op (σ.length+1) 0) W=some (.aH [.agg (aO p.1),.agg (fq p.2)]):=by
   rw[hW];simp only[A.uW,Y4];rfl
  refine⟨[.lbx (bE a)],vw σ ((dn++[p]).filterMap st) [dB p] ((lf.eraseIdx j).map dB),fun K=>?_,rfl,_,rfl⟩
  rw[Iw,bS,kU,bS,Da,bS,HI _ _ rfl,bS,rJ,bS]
  have R9:∀k,p9 [.oe aS g ib 0,.agg (aO k),.int .i64 c] W=some (.aH [.agg (fq (dH b k c).1),.bool (dH b k c).2],W):=fun k=>by rw[hW];exact Qc yV k c _
  rw[R9,bS]
  simp only[kU,ext1,bS,yl,Bv _ _ (show ng.length=9 from rfl),wY]
  obtain⟨GB,pm,g1,g2⟩:=hd.f10
  have g3:((A.deref GB W).bind fun c=>A.aj 0 c)=some pm:=by rw[hW];exact(g2 _).1
  have g4:A.look (.s [0,2]) pm (.agg (aO p.1)) (.agg Dp) W=some (.agg (jI d p.1)):=by rw[hW];exact(g2 _).2 p.1
  have skip:st p=none→K (.normal,[.lbx (bE a)],W)=K (.normal,[.lbx (bE a)],vw σ ((dn++[p]).filterMap st) [dB p] ((lf.eraseIdx j).map dB)):=by
   intro h
   rw[hW,List.filterMap_append,List.filterMap_cons,h,List.filterMap_nil,List.append_nil]
  by_cases lT:(dH b p.1 c).2=true
  case neg=>
   have DJ:(dH b p.1 c).2=false:=by simpa using lT
   rw[DJ]
   simp only[Bool.not_false,xD,gU,bS,lz,cT,List.getD_cons_zero]
   exact skip (by rw[hst];simp only[yB,DJ,true_or,if_true,Option.map_none])
  rw[lT]
  simp only[Bool.not_true,gF,bS,mM,hd.nc,g1,g3,g4,rJ,FG,zI,gC]
  by_cases AY:(eW d p.1).1=1
  case neg=>
   rw[decide_eq_true AY]
   simp only[cT,List.getD_cons_zero]
   exact skip (by rw[hst];simp only[yB,AY,not_false_eq_true,or_true,if_true,Option.map_none])
  rw[decide_eq_false (fun q=>q AY)]
  simp only[cF,bS,uP,quiet_of (HD (Ee p.1 lT) Ap W),List.getD_cons_zero,hG,show A.aj 4 (bE a)=some (.int .i64 a.level)from rfl]
  have FU:¬((dH b p.1 c).2=false∨¬(eW d p.1).1=1):=by
   rw[lT,AY];simp
  rw[show((((A.cell aG).bind fun v=>some [v]).bind fun gZ=>(A.splice 0 gZ [ah,AV.au]).bind fun mG=>some mG).bind fun cs=>some (AV.agg cs))=some (.agg [.int .i64 1,.au])from rfl,bS,aiB,bS,quiet_of (ajy _ _ _ W),bS]
  rw[show A.aL (.op ids 0)=some (.op ids 0)from rfl,bS,show A.aA 1 (.op ids 0)=some (.op ids 1)from rfl,bS,show((A.deref (.op ids 1) W).bind fun Ik=>A.aj 0 Ik)=some (.int .i64 s.number)from by
    rw[hW];simp only[A.deref,List.getElem?_append_left hls,h1];rfl,bS,QJ,bS]
  have hr:st p=some (p.1,⟨sY ⟨uG (dH b p.1 c).1 c,0,c,0,a.level,⟨1,[]⟩⟩,s.number,true⟩):=by rw[hst];simp only[yB,if_neg FU,Option.map_some]
  rw[hW,alB,bS,HU hpk,List.filterMap_append,List.filterMap_cons,hr,List.filterMap_nil]
 ·rintro dn w W zQ ⟨rfl,cu,rfl⟩
  simp only[mJ]
  obtain⟨m,hm⟩:∃m,m=dn.filterMap st:=⟨_,rfl⟩
  rw[←hm]
  obtain⟨ex,hex⟩:∃ex:Heap,ex=[.map (m.map dB),.it cu (([]:List (aB×cq)).map dB)]:=⟨_,rfl⟩
  rw[show vw σ m cu (([]:List (aB×cq)).map dB)=σ++ex from by rw[hex]]
  have hmp:m.Perm (HG d s b a):=by
   rw[Cz,hm]
   exact zQ.filterMap st
  have hnd:(m.map (·.1)).Nodup:=by
   rw[hm,hst]
   exact Lm ((zQ.map (·.1)).nodup_iff.2 Eg)
  simp only[List.getD_cons_zero,hG,bS,show A.aj 0 (bE a)=some (.int .i64 a.time)from rfl]
  rw[show((((A.cell (AV.int .i64 c)).bind fun v=>some [v]).bind fun DD=>(A.splice 0 DD [ah,ah,aM]).bind fun DE=>((A.cell (AV.int .i64 a.time)).bind fun v=>some [v]).bind fun DF=>(A.splice 1 DF DE).bind fun Il=>((A.cell aM).bind fun v=>some [v]).bind fun Im=>(A.splice 2 Im Il).bind fun Io=>some Io).bind fun cs=>some (AV.agg cs))=some (.agg [.int .i64 c,.int .i64 a.time,.bool false])from rfl,bS]
  rw[show A.cells 3 (.agg [.int .i64 c,.int .i64 a.time,.bool false])=some [.int .i64 c,.int .i64 a.time,.bool false]from rfl,bS]
  have Nf:(σ++ex)[aS]? =some (.arr g 10 (s.az.map aK)):=by rw[List.getElem?_append_left hlt];exact h2
  have TG:(s.az.map aK)[ib]? =some (aK b):=by rw[List.getElem?_map,hb];rfl
  have hlm:ib<(s.az.map aK).length:=by simpa using hlb
  have Nh:aS<(σ++ex).length:=by simp;omega
  have chain:∀(o:Nat) (row row' new:List AV),A.splice o new row=some row'→A.storeAt (.oe aS g ib o) new ((σ++ex).set aS (.arr g 10 ((s.az.map aK).set ib row)))=some ((σ++ex).set aS (.arr g 10 ((s.az.map aK).set ib row'))):=by
   intro o row row' new hsp
   rw[HJ (W:=(σ++ex).set aS (.arr g 10 ((s.az.map aK).set ib row))) (rows:=(s.az.map aK).set ib row) (List.getElem?_set_self Nh) (List.getElem?_set_self hlm) hsp,List.set_set,List.set_set]
  obtain⟨rv,TH⟩:∃rv,rv=nw (fun x=>AV.agg (aO x)) (fun x=>AV.agg (fq x)) b.runs:=⟨_,rfl⟩
  rw[HJ (row':=[.int .i64 c,.int .i64 a.time,.bool false,.int .i64 b.number,.int .i64 b.priority,sl 11 aZ b.bD,.int .i64 b.bQ,.int .i64 b.jg,.int .i64 b.follow,rv]) Nf TG (by rw[TH];rfl),bS]
  rw[oW,bS,chain 6 _ (yQ c a.time b (-1) b.follow rv) _ rfl,bS]
  rw[bS,chain 8 _ (yQ c a.time b (-1) (-1) rv) _ rfl,bS]
  rw[show((A.cell (AV.om σ.length)).bind fun v=>some [v])=some [.om σ.length]from rfl,bS,chain 9 _ (yQ c a.time b (-1) (-1) (.om σ.length)) _ rfl,bS]
  have hrow:[AV.int .i64 (td d s b a).clock.shown,.int .i64 (td d s b a).clock.since,.bool (td d s b a).clock.jL,.int .i64 (td d s b a).number,.int .i64 (td d s b a).priority,sl 11 aZ (td d s b a).bD,.int .i64 (td d s b a).bQ,.int .i64 (td d s b a).jg,.int .i64 (td d s b a).follow,.om σ.length]=yQ c a.time b (-1) (-1) (.om σ.length):=by rw[hc];rfl
  have fin:=Pp (σ:=σ) (ex:=ex) (b':=td d s b a) (m:=m) (R:=HG d s b a) h2 hb hcan rfl hmp hnd (by rw[hex];rfl)
  rw[hrow]at fin
  exact fin
 ·refine⟨rfl,[],?_⟩
  rw[List.filterMap_nil]
end
section
set_option maxRecDepth 100000
open HP
structure Z4 (x : bg) : Prop where
 d:0≤x.delay∧x.delay≤36000000
 u:0≤x.up∧x.up≤36000000
 n:0≤x.down∧x.down≤36000000
 o:0≤x.other∧x.other≤36000000
 f:-1≤x.follow∧x.follow≤36000000
 c:oR x.fu=0
 m:∀m∈x.dw,(0≤m.delay∧m.delay≤36000000)∧(0≤m.time∧m.time≤36000000)
theorem qE {n lo hi:Int} (h:aR n lo hi=true):lo≤n∧n≤hi:=by
 unfold aR at h;simpa using h
theorem aio {l:List bg} (h:rQ l=0) {x:bg} (hx:x∈l):Z4 x:=by
 unfold rQ at h
 split at h
 ·cases h
 by_cases h2:iE (wQ l) l 0=0
 case neg=>rw[if_pos h2]at h;exact absurd h h2
 obtain⟨i,hi,e⟩:=List.getElem_of_mem hx
 have hc:=(zl l 0).1 h2 i x (by rw[←e];exact List.getElem?_eq_getElem hi)
 unfold wQ at hc
 split at hc
 ·cases hc
 split at hc
 ·cases hc
 split at hc
 ·cases hc
 split at hc
 ·cases hc
 rename_i h4
 split at hc
 ·rename_i h5;exact absurd hc h5
 rename_i h5
 split at hc
 ·cases hc
 simp only[Bool.or_eq_true,Bool.not_eq_true',not_or,Bool.not_eq_false]at h4
 obtain⟨⟨⟨⟨a1,a2⟩,a3⟩,a4⟩,a5⟩:=h4
 refine⟨qE a1,qE a2,qE a3,qE a4,qE a5,Decidable.not_not.1 h5,fun m hm=>?_⟩
 obtain⟨j,hj,e⟩:=List.getElem_of_mem hm
 unfold Di at hc
 have nA:=(zl x.dw 0).1 hc j m (by rw[←e];exact List.getElem?_eq_getElem hj)
 unfold HZ at nA
 split at nA
 ·cases nA
 split at nA
 ·cases nA
 split at nA
 ·cases nA
 split at nA
 ·cases nA
 split at nA
 ·cases nA
 split at nA
 ·cases nA
 rename_i h6
 simp only[Bool.or_eq_true,Bool.not_eq_true',not_or,Bool.not_eq_false]at h6
 exact⟨qE h6.1,qE h6.2⟩
theorem Qm (b:bf) (x:bg):mw (zV b x)∧(zV b x).length≤600000000:=by
 unfold zV zw
 split
 ·exact⟨List.Pairwise.nil,by simp⟩
 rename_i hz
 split
 ·exact⟨List.Pairwise.nil,by simp⟩
 have hg:=QF (Decidable.not_not.1 hz)
 have hlen:=hg.len
 exact adQ (l:=b.bD.take (lF b.bD x.number+1)) (by simp;omega) (fun c hc=>(hg.mv c (List.mem_of_mem_take hc)).1)
structure vk (N : Int) (b : bf) : Prop where
 qW:eZ BY b.bD
 dA:rQ b.bD=0
 can:Ds b.runs
 runs:∀k r,(k,r)∈b.runs.getD []→rK r.jN
 jg:0≤b.jg∧b.jg≤65535
 pX:0≤b.clock.shown∧b.clock.shown≤b.clock.since∧b.clock.since≤N
 bQ:-1≤b.bQ∧b.bQ<(b.bD.length:Int)
 Cu:b.follow<0∨(b.bQ+1<(b.bD.length:Int)∧dm b.clock N≤b.follow∧b.follow≤72000000)
structure jk (N : Int) (s : bX) : Prop where
 n:0≤N∧N≤36000000
 len:s.az.length≤40
 bs:∀b∈s.az,vk N b
 mo:0≤s.mo∧s.mo≤65535
structure sV (d : bF) : Prop where
 pre:eZ zo d.setup.bH
 lev:∀k v,0≤(wm d.setup.bH k v).1∧(wm d.setup.bH k v).1≤65535
 par:∀k,0≤(eW d k).2.1∧(eW d k).2.1≤65535
theorem Dd {N t:Int} {b:bf} (h:0≤b.clock.shown∧b.clock.shown≤b.clock.since∧b.clock.since≤N) (h1:N≤t) (h2:t≤36000000):dm b.clock t=(if b.clock.jL=true then b.clock.shown else b.clock.shown+t-b.clock.since)∧0≤dm b.clock t∧dm b.clock t≤t:=by
 obtain⟨a1,a2,a3⟩:=h
 unfold dm
 split
 ·exact⟨rfl,a1,by omega⟩
 ·rw[show IntKind.i64.wrap (b.clock.shown+t)=b.clock.shown+t from wrap64 (by unfold aN;omega),wrap64 (by unfold aN;omega)]
  exact⟨rfl,by omega,by omega⟩
theorem vk.ok {N t:Int} {b:bf} (h:vk N b) (h1:N≤t) (h2:t≤36000000):rP b t:=
 ⟨fun k r hr=>h.runs k r (H9 hr),h.jg,(Dd h.pX h1 h2).2.1⟩
theorem Q2 {N:Int} {b:bf} (h:vk N b) (hN:N≤36000000):gK b=if b.follow<0∨b.clock.jL=true then -1 else b.clock.since+b.follow-b.clock.shown:=by
 obtain⟨a1,a2,a3⟩:=h.pX
 unfold gK
 split
 ·rfl
 ·rename_i q
  rcases h.Cu with h3|⟨h3,h4,h5⟩
  ·exact absurd (.inl h3) q
  ·have:=(Dd h.pX (Int.le_refl N) hN).2
   rw[show IntKind.i64.wrap (b.clock.since+b.follow)=b.clock.since+b.follow from wrap64 (by unfold aN;omega),wrap64 (by unfold aN;omega)]
theorem vk.mono {N N':Int} {b:bf} (h:vk N b) (h1:N≤N') (h2:N'≤36000000) (hd:gK b<0∨N'≤gK b):vk N' b:=by
 obtain⟨a1,a2,a3⟩:=h.pX
 refine⟨h.qW,h.dA,h.can,h.runs,h.jg,⟨a1,a2,by omega⟩,h.bQ,?_⟩
 rcases h.Cu with h3|⟨h3,h4,h5⟩
 ·exact .inl h3
 ·by_cases hf:b.follow<0
  ·exact .inl hf
  refine .inr ⟨h3,?_,h5⟩
  have e1:=(Dd h.pX (Int.le_refl N) (by omega)).1
  have e2:=(Dd (t:=N') h.pX h1 h2).1
  have e3:=Q2 h (by omega)
  rw[e2]
  rw[e1]at h4
  by_cases hs:b.clock.jL=true
  ·rw[if_pos hs]at h4 ⊢;exact h4
  ·rw[if_neg hs]at h4 ⊢
   rw[if_neg (fun q=>q.elim hf hs)]at e3
   omega
theorem L0 {f:gB} (ha:0≤f.dA∧f.dA≤65535) (hb:0≤f.to∧f.to≤65535) (hs:0≤f.start∧f.start≤36000000) (hd:0≤f.delay∧f.delay≤36000000) (ht:0≤f.time∧f.time≤36000000) (hc:oR f.fu=0):rK (sY f):=by
 have e1:mn f.start 36000000=f.start:=by unfold mn;rw[if_neg (by omega)]
 have e2:IntKind.i64.wrap (36000000-f.start)=36000000-f.start:=wrap64 (by unfold aN;omega)
 have e3:0≤mn f.delay (36000000-f.start)∧mn f.delay (36000000-f.start)≤36000000-f.start:=by unfold mn;split<;>omega
 have e4:IntKind.i64.wrap (36000000-f.start-mn f.delay (36000000-f.start))=36000000-f.start-mn f.delay (36000000-f.start):=wrap64 (by unfold aN;omega)
 have e5:0≤mn f.time (36000000-f.start-mn f.delay (36000000-f.start))∧mn f.time (36000000-f.start-mn f.delay (36000000-f.start))≤36000000-f.start-mn f.delay (36000000-f.start):=by unfold mn;split<;>omega
 unfold sY
 rw[e1,e2,e4]
 exact⟨ha,hb,hs,⟨e3.1,by show mn f.delay _≤_;omega⟩,⟨e5.1,by show mn f.time _≤_;omega⟩,by show f.start+mn f.delay _+mn f.time _≤_;omega,hc⟩
theorem aih {d:bF} {x:bg} (hx:Z4 x) (k:aB) {dA to c:Int} (ha:0≤dA∧dA≤65535) (hb:0≤to∧to≤65535) (hc:0≤c∧c≤36000000):rK (BU d x k dA to c):=by
 unfold BU
 have h0:0≤(HL (eW d k).1 x dA to c).time∧(HL (eW d k).1 x dA to c).time≤36000000:=by
  unfold HL
  simp only
  split
  ·split
   ·exact hx.n
   ·exact hx.u
  ·exact hx.o
 have h1:∃dl tm,Ml x k (HL (eW d k).1 x dA to c)=⟨dA,to,c,dl,tm,x.fu⟩∧(0≤dl∧dl≤36000000)∧0≤tm∧tm≤36000000:=by
  unfold Ml
  split
  ·exact⟨_,_,rfl,hx.d,h0⟩
  ·rename_i m hm
   split
   ·have:=hx.m m (List.mem_of_find?_eq_some hm)
    exact⟨_,_,rfl,this.1,this.2⟩
   ·exact⟨_,_,rfl,hx.d,h0⟩
 obtain⟨dl,tm,e,hd,ht⟩:=h1
 rw[e]
 unfold FJ
 split
 ·exact L0 ha hb hc hd (by simp) hx.c
 ·exact L0 ha hb hc hd ht hx.c
theorem aj8 {g:Int} {b:bf} {r:cq} (hr:rK r.jN) (hf:0≤b.jg∧b.jg≤65535) (c:Int):0≤Gb g b r c∧Gb g b r c≤65535:=by
 unfold Gb
 split
 ·exact alF (FM hr c) hf
 ·exact FM hr c
theorem ZG {d:bF} (hd:sV d) {k:aB} {t:Int}:∀{bs:List bf},(∀b∈bs,rP b t)→0≤(oK d bs k t).out∧(oK d bs k t).out≤65535:=by
 intro bs hb
 unfold oK
 have key:∀(l:List bf) (m:DW),(∀b∈l,rP b t)→(0≤m.out∧m.out≤65535)→0≤(l.foldl (oS (eW d k).1 k t) m).out∧(l.foldl (oS (eW d k).1 k t) m).out≤65535:=by
  intro l
  induction l with
  |nil=>intro m _ h;exact h
  |cons b l ih=>
   intro m hl h
   rw[List.foldl_cons]
   refine ih _ (fun b hb=>hl b (by simp [hb])) ?_
   have Gu:=hl b (by simp)
   unfold oS
   split
   ·exact h
   ·rename_i hq
    split
    ·have lT:(dH b k (dm b.clock t)).2=true:=by
      cases h:(dH b k (dm b.clock t)).2
      ·exact absurd (.inl h) hq
      ·rfl
     exact aj8 (zD Gu lT) Gu.jg _
    ·exact h
 exact key bs _ hb (hd.par k)
theorem Xx {l:List (aB×cq)} (h:(l.map (·.1)).Nodup):Ds (some (Cd l)):=by
 intro l' e
 injection e with e
 subst e
 exact⟨((PM l).map (·.1)).nodup_iff.2 h,ah2 l⟩
theorem VL {N:Int} {b:bf} (h:vk N b):((b.runs.getD []).map (·.1)).Nodup:=by
 cases hr:b.runs with
 |none=>simp
 |some l=>exact(h.can l hr).1
theorem YF {d:bF} (hd:sV d) {s:bX} {N t:Int} (hs:jk N s) (h1:N≤t) (h2:t≤36000000) {b:bf} (hb:b∈s.az) {to:Nat} {x:bg} (hx:b.bD[to]? =some x):vk t (lu d s b x (to:Int) t):=by
 have hB:=hs.bs b hb
 have hN:=hs.n
 have hto:=(List.getElem?_eq_some_iff.1 hx).1
 have Jm:=aio hB.dA (List.mem_of_getElem? hx)
 obtain⟨c0,c1,c2⟩:=Dd hB.pX h1 h2
 have Jf:∀b∈s.az,rP b t:=fun b hb=>(hs.bs b hb).ok h1 h2
 have Gu:=Jf b hb
 refine⟨hB.qW,hB.dA,Xx (go_nodup (Qm b x).1 (VL hB)),fun k r hkr=>?_,hB.jg,⟨c1,c2,Int.le_refl _⟩,⟨by show -1≤(to:Int);omega,by show(to:Int)<_;exact_mod_cast hto⟩,?_⟩
 ·have hm:(k,r)∈De d s b x t:=(PM _).mem_iff.1 hkr
  unfold De at hm
  rcases List.mem_append.1 hm with hm|hm
  ·obtain⟨e,he,q⟩:=List.mem_map.1 hm
   injection q with q1 q2
   subst q2
   unfold yH
   split
   ·rename_i hq;exact zD Gu hq.1
   ·refine aih Jm _ ?_ (hd.lev _ _) ⟨c1,by omega⟩
    unfold F1
    split
    ·rename_i hq;exact FM (zD Gu hq) _
    ·split
     ·exact ZG hd Jf
     ·simp
  ·obtain⟨p,hp,q⟩:=List.mem_filterMap.1 hm
   obtain⟨r',hr',q⟩:=Option.map_eq_some_iff.1 q
   injection q with q1 q2
   subst q2
   unfold sN at hr'
   split at hr'
   ·cases hr'
   ·rename_i hq
    injection hr' with hr'
    subst hr'
    have lT:(dH b p.1 (dm b.clock t)).2=true:=by
     cases h:(dH b p.1 (dm b.clock t)).2
     ·exact absurd (.inl h) hq
     ·rfl
    have hfo:=zD Gu lT
    split
    ·exact hfo
    ·exact L0 (FM hfo _) (by simp) ⟨c1,by show dm b.clock t≤_;omega⟩ Jm.d Jm.n Jm.c
 ·show(lu d s b x (to:Int) t).follow<0∨_
  by_cases hf:0≤x.follow∧(to:Int)+1<(b.bD.length:Int)
  ·have hxf:=Jm.f
   have e:(lu d s b x (to:Int) t).follow=dm b.clock t+x.follow:=by
    show(if 0≤x.follow∧(to:Int)+1<(b.bD.length:Int)then IntKind.i64.wrap (dm b.clock t+x.follow)else -1)=_
    rw[if_pos hf,wrap64 (by unfold aN;omega)]
   refine .inr ⟨hf.2,?_,by rw[e];omega⟩
   rw[e]
   have:dm (lu d s b x (to:Int) t).clock t=dm b.clock t:=by
    show dm ⟨dm b.clock t,t,false⟩ t=_
    generalize dm b.clock t=c at c1 c2
    show IntKind.i64.wrap (IntKind.i64.wrap (c+t) -t)=_
    rw[show IntKind.i64.wrap (c+t)=c+t from wrap64 (by unfold aN;omega),wrap64 (by unfold aN;omega)];omega
   rw[this];omega
  ·refine .inl ?_
   show(if 0≤x.follow∧(to:Int)+1<(b.bD.length:Int)then IntKind.i64.wrap (dm b.clock t+x.follow)else -1)<0
   rw[if_neg hf];decide
def zx (t:Int) (i:Nat) (b:bf) (st:Int×Int):Int×Int:=if 0≤gK b∧gK b≤t∧(st.1<0∨gK b<st.2)then((i:Int),gK b)else st
def qH (t:Int):List bf→Nat→Int×Int→Int×Int
 |[],_,st=>st
 |b::r,i,st=>qH t r (i+1) (zx t i b st)
def HV (t:Int) (pre:List bf) (st:Int×Int):Prop:=(st.1<0∧∀b∈pre,¬(0≤gK b∧gK b≤t))∨∃(j:Nat) (b:bf),pre[j]? =some b∧st=((j:Int),gK b)∧0≤gK b∧gK b≤t∧∀b'∈pre,0≤gK b'→gK b'≤t→gK b≤gK b'
theorem afH {t:Int} {pre:List bf} {b:bf} {st:Int×Int} (h:HV t pre st):HV t (pre++[b]) (zx t pre.length b st):=by
 unfold zx
 by_cases hc:0≤gK b∧gK b≤t∧(st.1<0∨gK b<st.2)
 ·rw[if_pos hc]
  refine .inr ⟨pre.length,b,by simp,rfl,hc.1,hc.2.1,fun b' hb' q1 q2=>?_⟩
  rcases List.mem_append.1 hb' with hb'|hb'
  ·rcases h with⟨_,k⟩|⟨j,b0,k1,k2,k3,k4,k5⟩
   ·exact absurd ⟨q1,q2⟩ (k b' hb')
   ·rcases hc.2.2 with q|q
    ·rw[k2]at q;simp only at q;omega
    ·rw[k2]at q;simp only at q;have:=k5 b' hb' q1 q2;omega
  ·simp only[List.mem_singleton]at hb';subst hb';exact Int.le_refl _
 ·rw[if_neg hc]
  rcases h with⟨k0,k⟩|⟨j,b0,k1,k2,k3,k4,k5⟩
  ·refine .inl ⟨k0,fun b' hb' q=>?_⟩
   rcases List.mem_append.1 hb' with hb'|hb'
   ·exact k b' hb' q
   ·simp only[List.mem_singleton]at hb';subst hb';exact hc ⟨q.1,q.2,.inl k0⟩
  ·refine .inr ⟨j,b0,?_,k2,k3,k4,fun b' hb' q1 q2=>?_⟩
   ·rw[List.getElem?_append_left (List.getElem?_eq_some_iff.1 k1).1];exact k1
   ·rcases List.mem_append.1 hb' with hb'|hb'
    ·exact k5 b' hb' q1 q2
    ·simp only[List.mem_singleton]at hb';subst hb'
     by_cases q:gK b'<gK b0
     ·exact absurd ⟨q1,q2,.inr (by rw[k2];exact q)⟩ hc
     ·omega
theorem Yx {t:Int}:∀{l pre:List bf} {st:Int×Int},HV t pre st→HV t (pre++l) (qH t l pre.length st)
 |[],pre,st,h=>by rw[List.append_nil];exact h
 |b::l,pre,st,h=>by
  have:=Yx (l:=l) (afH (b:=b) h)
  rw[List.append_assoc,List.length_append]at this
  exact this
noncomputable def yI (d:bF) (t:Int) (s:bX):Option bX:=
 if(qH t s.az 0 (-1,0)).1<0 then none
 else(s.az[(qH t s.az 0 (-1,0)).1.toNat]?).bind fun b=>(b.bD[(b.bQ+1).toNat]?).map fun x=>
  {s with number:=IntKind.i64.wrap (s.number+1),az:=s.az.set (qH t s.az 0 (-1,0)).1.toNat (lu d {s with number:=IntKind.i64.wrap (s.number+1)} b x (b.bQ+1) (qH t s.az 0 (-1,0)).2)}
noncomputable def yy (d:bF) (t:Int):Nat→bX→bX
 |0,s=>s
 |n+1,s=>match yI d t s with
  |none=>s
  |some s'=>yy d t n s'
def MA (b:bf):Nat:=((b.bD.length:Int) -b.bQ).toNat
def wB (l:List bf):Nat:=(l.map MA).sum
noncomputable def lN (d:bF) (s:bX) (t:Int):bX:=yy d t (wB s.az) s
theorem ahg {l:List bf} {i:Nat} {b b':bf} (h:l[i]? =some b) (hl:MA b'<MA b):wB (l.set i b')<wB l:=by
 unfold wB
 induction l generalizing i with
 |nil=>cases h
 |cons y l ih=>
  cases i with
  |zero=>
   injection h with h
   subst h
   simp only[List.set_cons_zero,List.map_cons,List.sum_cons]
   omega
  |succ i=>
   have:=ih (i:=i) h
   simp only[List.set_cons_succ,List.map_cons,List.sum_cons]
   omega
theorem Qo {N:Int} {s:bX} (h:jk N s) (n:Int):jk N {s with number:=n}:=⟨h.n,h.len,h.bs,h.mo⟩
theorem Xk {N N':Int} {s:bX} (h:jk N s) (h1:N≤N') (h2:N'≤36000000) (hd:∀b∈s.az,gK b<0∨N'≤gK b):jk N' s:=
 ⟨⟨by have:=h.n;omega,h2⟩,h.len,fun b hb=>(h.bs b hb).mono h1 h2 (hd b hb),h.mo⟩
theorem LM {N:Int} {s:bX} (h:jk N s) (i:Nat) {b:bf} (hb:vk N b) (n:Int):jk N {s with number:=n,az:=s.az.set i b}:=
 ⟨h.n,by show(s.az.set i b).length≤40;rw[List.length_set];exact h.len,fun b' hb'=>by
  rcases List.mem_or_eq_of_mem_set hb' with q|q
  ·exact h.bs b' q
  ·rw[q];exact hb,h.mo⟩
theorem QM {d:bF} (hd:sV d) {s:bX} {N t:Int} (hs:jk N s) (h1:N≤t) (h2:t≤36000000):
  ((qH t s.az 0 (-1,0)).1<0∧yI d t s=none∧jk t s)∨
  ∃(f:Nat) (b:bf) (x:bg) (to:Nat) (tm:Int),qH t s.az 0 (-1,0)=((f:Int),tm)∧s.az[f]? =some b∧b.bQ+1=(to:Int)∧b.bD[to]? =some x∧N≤tm∧tm≤t∧(∀b∈s.az,vk tm b)∧jk tm {s with number:=IntKind.i64.wrap (s.number+1)}∧
   yI d t s=some {s with number:=IntKind.i64.wrap (s.number+1),az:=s.az.set f (lu d {s with number:=IntKind.i64.wrap (s.number+1)} b x (to:Int) tm)}∧
   jk tm {s with number:=IntKind.i64.wrap (s.number+1),az:=s.az.set f (lu d {s with number:=IntKind.i64.wrap (s.number+1)} b x (to:Int) tm)}∧
   wB (s.az.set f (lu d {s with number:=IntKind.i64.wrap (s.number+1)} b x (to:Int) tm))<wB s.az:=by
 have hD:HV t s.az (qH t s.az 0 (-1,0)):=by
  have:=Yx (t:=t) (l:=s.az) (pre:=[]) (st:=(-1,0)) (.inl ⟨by decide,by simp⟩)
  simpa using this
 have hmin:∀b∈s.az,gK b<0∨N≤gK b:=by
  intro b hb
  have hB:=hs.bs b hb
  rw[Q2 hB hs.n.2]
  split
  ·exact .inl (by decide)
  ·rename_i q
   right
   rcases hB.Cu with h3|⟨h3,h4,h5⟩
   ·exact absurd (.inl h3) q
   ·rw[(Dd hB.pX (Int.le_refl N) hs.n.2).1,if_neg (fun z=>q (.inr z))]at h4
    omega
 rcases hD with⟨k0,k⟩|⟨f,b,k1,k2,k3,k4,k5⟩
 ·refine .inl ⟨k0,?_,Xk hs h1 h2 fun b hb=>?_⟩
  ·unfold yI;rw[if_pos k0]
  ·have:=k b hb;omega
 ·have vH:=List.mem_of_getElem? k1
  have hB:=hs.bs b vH
  have hN:=hs.n
  have mL:N≤gK b:=by rcases hmin b vH with q|q<;>omega
  have Cl:¬(b.follow<0∨b.clock.jL=true):=by
   intro q
   have e:=Q2 hB hN.2
   rw[if_pos q]at e
   omega
  have Nc:b.bQ+1<(b.bD.length:Int):=by
   rcases hB.Cu with h3|⟨h3,_⟩
   ·exact absurd (.inl h3) Cl
   ·exact h3
  have hc1:=hB.bQ
  have hto:(b.bQ+1).toNat<b.bD.length:=by omega
  have hx:b.bD[(b.bQ+1).toNat]? =some b.bD[(b.bQ+1).toNat]:=List.getElem?_eq_getElem hto
  have hmono:jk (gK b) {s with number:=IntKind.i64.wrap (s.number+1)}:=Qo (Xk hs mL (by omega) fun b' hb'=>by
   rcases hmin b' hb' with q|q
   ·exact .inl q
   ·by_cases q2:gK b'≤t
    ·exact .inr (k5 b' hb' (by omega) q2)
    ·exact .inr (by omega)) _
  have hci:((b.bQ+1).toNat:Int)=b.bQ+1:=by omega
  refine .inr ⟨f,b,b.bD[(b.bQ+1).toNat],(b.bQ+1).toNat,gK b,k2,k1,hci.symm,hx,mL,k4,hmono.bs,hmono,?_,?_,ahg k1 ?_⟩
  ·unfold yI
   rw[k2]
   simp only
   rw[if_neg (by omega),Int.toNat_natCast,k1,Option.bind_some,hx,Option.map_some,hci]
  ·exact LM (s:={s with number:=IntKind.i64.wrap (s.number+1)}) hmono f (YF hd hmono (Int.le_refl _) (by omega) vH hx) _
  ·unfold MA
   show((b.bD.length:Int) -(((b.bQ+1).toNat:Nat):Int)).toNat<_
   omega
theorem VI {d:bF} (hd:sV d) {t:Int} (h2:t≤36000000):∀(n:Nat) {s:bX} {N:Int},jk N s→N≤t→wB s.az≤n→jk t (yy d t n s)
 |0,s,N,hs,h1,hn=>by
  rcases QM hd hs h1 h2 with⟨_,_,h⟩|⟨f,b,x,to,tm,_,_,_,_,_,_,_,_,_,_,hl⟩
  ·exact h
  ·omega
 |n+1,s,N,hs,h1,hn=>by
  unfold yy
  rcases QM hd hs h1 h2 with⟨_,e,h⟩|⟨f,b,x,to,tm,_,_,_,_,_,k,_,_,e,h,hl⟩
  ·rw[e];exact h
  ·rw[e]
   exact VI hd h2 n h k (by show wB (s.az.set f _)≤n;omega)
theorem PI {d:bF} (hd:sV d) {s:bX} {N t:Int} (hs:jk N s) (h1:N≤t) (h2:t≤36000000):jk t (lN d s t):=VI hd h2 _ hs h1 (Nat.le_refl _)
end
section
set_option maxRecDepth 100000
open HP
theorem aiF {W:Heap} {aS g i:Nat} {l:List bf} {b:bf} (h:W[aS]? =some (.arr g 10 (l.map aK))) (hb:l[i]? =some b) (sh:Sh):Lt W sh (.oe aS g i 0) (.rp (aK b)):=by
 refine⟨⟨.rp (aK b),?_,rfl,rfl⟩,rfl,fun h=>by cases h⟩
 have e:(l.map aK)[i]? =some (aK b):=by rw[List.getElem?_map,hb];rfl
 have q:=CZ b W 0 7
 simp only[A.bw,Nat.not_lt_zero,if_false,h,if_true,e,List.drop_zero,L3,q,Option.map_some]
theorem al1 {W:Heap} {aS g i:Nat} {l:List bf} {b:bf} (h:W[aS]? =some (.arr g 10 (l.map aK))) (hb:l[i]? =some b):Bm [.oe aS g i 0] W=some (.int .i64 (gK b),W):=
 As (cM:=[.oe aS g i 0]) (ts:=[.rp (aK b)]) ⟨aiF h hb _,trivial⟩ (fun σ=>al2 b σ) rfl
theorem Ru {aS g n i:Nat} (h:i<n):A.aU 10 (.os aS g 10 0 n) (.int .i64 (i:Int))=some (.oe aS g i 0):=by
 have:((i:Int)<(n:Int)):=by omega
 simp [A.aU,A.idx,this]
theorem aie {W:Heap} {L aS g:Nat} {s:bX} {t:Int} (h1:W[L]? =some (.box (bl (.os aS g 10 0 s.az.length) s))) (h2:W[aS]? =some (.arr g 10 (s.az.map aK))) {i:Nat} {b:bf} (hb:s.az[i]? =some b) (hs:s.az.length≤aW) (u:AV) (st:Int×Int):((fun v21 sF=>
     (A.lss (v21.getD 3 AV.undef) (AV.int .i64 (s.az.length:Int))).bind fun x24=>
     A.cond x24 (
      (A.aA 0 (AV.op L 0)).bind fun x25=>
      ((A.deref x25 sF).bind fun fM=>A.aj 0 fM).bind fun dK=>
      (A.aU 10 dK (v21.getD 3 AV.undef)).bind fun x28=>
      (Bm [x28] sF).bind fun gj=>
      (A.geq gj.1 ah).bind fun cH=>
      (A.guard cH true (some gj.1) an).bind fun x31=>
      (A.guard cH true (some (AV.int .i64 t)) an).bind fun x32=>
      (A.guard cH true (A.leq x31 x32) an).bind fun ey=>
      (A.pick cH ey aM).bind fun x34=>
      (A.guard x34 true (some (v21.getD 1 AV.undef)) an).bind fun gn=>
      (A.guard x34 true (A.lss gn ah) an).bind fun gI=>
      (A.guard x34 true (some gI) an).bind fun bU=>
      (A.guard bU false (some gj.1) an).bind fun x38=>
      (A.guard bU false (some (v21.getD 2 AV.undef)) an).bind fun ff=>
      (A.guard bU false (A.lss x38 ff) an).bind fun cZ=>
      (A.guard x34 true (A.pick bU cL cZ) an).bind fun dW=>
      (A.pick x34 dW aM).bind fun ga=>
      (A.cond ga (
       some ([(v21.getD 0 AV.undef),(v21.getD 3 AV.undef),gj.1],gj.2)) (
       some ([(v21.getD 0 AV.undef),(v21.getD 1 AV.undef),(v21.getD 2 AV.undef)],gj.2))).bind fun iS=>
      (A.add (v21.getD 3 AV.undef) aG).bind fun eR=>
      some (AX.normal,[(iS.1.getD 0 AV.undef),(iS.1.getD 1 AV.undef),(iS.1.getD 2 AV.undef),eR],iS.2)) (
      some (AX.exit 2,[(v21.getD 0 AV.undef),(v21.getD 1 AV.undef),(v21.getD 2 AV.undef),(v21.getD 3 AV.undef)],sF)))) [u,.int .i64 st.1,.int .i64 st.2,.int .i64 (i:Int)] W=some (.normal,[u,.int .i64 (zx t i b st).1,.int .i64 (zx t i b st).2,.int .i64 ((i+1:Nat):Int)],W):=by
 have hi:=(List.getElem?_eq_some_iff.1 hb).1
 simp only[List.getD_cons_zero,List.getD_cons_succ]
 rw[jF hb,bS,cQ,show A.aA 0 (.op L 0)=some (.op L 0)from rfl,bS,show((A.deref (.op L 0) W).bind fun c=>A.aj 0 c)=some (.os aS g 10 0 s.az.length)from by simp only[A.deref,h1];rfl,bS,Ru hi,bS,al1 h2 hb,bS,rR,bS]
 unfold zx
 by_cases c1:0≤gK b
 case neg=>
  rw[decide_eq_false c1,if_neg (fun q=>c1 q.1)]
  simp only[ux,gU,bS,mM,cF,List.getD_cons_zero,List.getD_cons_succ]
  rw[gd hb hs,bS]
 rw[decide_eq_true c1]
 simp only[gT,bS,Ia,lz]
 by_cases c2:gK b≤t
 case neg=>
  rw[decide_eq_false c2,if_neg (fun q=>c2 q.2.1)]
  simp only[ux,gU,bS,mM,cF,List.getD_cons_zero,List.getD_cons_succ]
  rw[gd hb hs,bS]
 rw[decide_eq_true c2]
 simp only[gT,bS,kO,lz]
 by_cases c3:st.1<0
 ·rw[decide_eq_true c3,if_pos ⟨c1,c2,.inl c3⟩]
  simp only[xD,gU,bS,lz,cT,List.getD_cons_zero,List.getD_cons_succ]
  rw[gd hb hs,bS]
 rw[decide_eq_false c3]
 simp only[gF,bS,kO,mM]
 by_cases c4:gK b<st.2
 ·rw[decide_eq_true c4,if_pos ⟨c1,c2,.inr c4⟩]
  simp only[cT,bS,List.getD_cons_zero,List.getD_cons_succ]
  rw[gd hb hs,bS]
 ·rw[decide_eq_false c4,if_neg (fun q=>q.2.2.elim c3 c4)]
  simp only[cF,bS,List.getD_cons_zero,List.getD_cons_succ]
  rw[gd hb hs,bS]
theorem aid {W:Heap} {L aS g:Nat} {s:bX} {t:Int} (h1:W[L]? =some (.box (bl (.os aS g 10 0 s.az.length) s))) (h2:W[aS]? =some (.arr g 10 (s.az.map aK))) (hs:s.az.length≤aW) (u:AV):A.loop ((fun v21 sF=>
     (A.lss (v21.getD 3 AV.undef) (AV.int .i64 (s.az.length:Int))).bind fun x24=>
     A.cond x24 (
      (A.aA 0 (AV.op L 0)).bind fun x25=>
      ((A.deref x25 sF).bind fun fM=>A.aj 0 fM).bind fun dK=>
      (A.aU 10 dK (v21.getD 3 AV.undef)).bind fun x28=>
      (Bm [x28] sF).bind fun gj=>
      (A.geq gj.1 ah).bind fun cH=>
      (A.guard cH true (some gj.1) an).bind fun x31=>
      (A.guard cH true (some (AV.int .i64 t)) an).bind fun x32=>
      (A.guard cH true (A.leq x31 x32) an).bind fun ey=>
      (A.pick cH ey aM).bind fun x34=>
      (A.guard x34 true (some (v21.getD 1 AV.undef)) an).bind fun gn=>
      (A.guard x34 true (A.lss gn ah) an).bind fun gI=>
      (A.guard x34 true (some gI) an).bind fun bU=>
      (A.guard bU false (some gj.1) an).bind fun x38=>
      (A.guard bU false (some (v21.getD 2 AV.undef)) an).bind fun ff=>
      (A.guard bU false (A.lss x38 ff) an).bind fun cZ=>
      (A.guard x34 true (A.pick bU cL cZ) an).bind fun dW=>
      (A.pick x34 dW aM).bind fun ga=>
      (A.cond ga (
       some ([(v21.getD 0 AV.undef),(v21.getD 3 AV.undef),gj.1],gj.2)) (
       some ([(v21.getD 0 AV.undef),(v21.getD 1 AV.undef),(v21.getD 2 AV.undef)],gj.2))).bind fun iS=>
      (A.add (v21.getD 3 AV.undef) aG).bind fun eR=>
      some (AX.normal,[(iS.1.getD 0 AV.undef),(iS.1.getD 1 AV.undef),(iS.1.getD 2 AV.undef),eR],iS.2)) (
      some (AX.exit 2,[(v21.getD 0 AV.undef),(v21.getD 1 AV.undef),(v21.getD 2 AV.undef),(v21.getD 3 AV.undef)],sF)))) [u,.int .i64 (-1),.int .i64 0,.int .i64 0] W=some (.exit 2,[u,.int .i64 (qH t s.az 0 (-1,0)).1,.int .i64 (qH t s.az 0 (-1,0)).2,.int .i64 (s.az.length:Int)],W):=by
 refine AT (mT (Q:=fun q=>q=(.exit 2,[u,.int .i64 (qH t s.az 0 (-1,0)).1,.int .i64 (qH t s.az 0 (-1,0)).2,.int .i64 (s.az.length:Int)],W)) (fun z v w=>∃(i:Nat) (st:Int×Int),i≤s.az.length∧v=[u,.int .i64 st.1,.int .i64 st.2,.int .i64 (i:Int)]∧w=W∧z=s.az.length-i∧qH t (s.az.drop i) i st=qH t s.az 0 (-1,0)) ?_ (n:=s.az.length) ⟨0,(-1,0),Nat.zero_le _,rfl,rfl,rfl,rfl⟩)
 rintro z v w ⟨i,st,hi,rfl,rfl,hz,hT⟩
 by_cases h:i<s.az.length
 ·have hb:s.az[i]? =some s.az[i]:=List.getElem?_eq_getElem h
  refine .inl ⟨s.az.length-(i+1),_,_,by omega,aie h1 h2 hb hs u st,i+1,zx t i s.az[i] st,h,rfl,rfl,rfl,?_⟩
  rw[List.drop_eq_getElem_cons h]at hT
  exact hT
 ·have:i=s.az.length:=by omega
  subst this
  rw[List.drop_length]at hT
  rw[←hT]
  refine .inr ⟨_,?_,by simp,rfl⟩
  simp only[List.getD_cons_zero,List.getD_cons_succ]
  rw[jD,bS,cB]
  rfl
abbrev pP (σ:Heap) (g:Nat) (s:bX):Heap:=σ++[.box (bl (.os (σ.length+1) g 10 0 s.az.length) s),.arr g 10 (s.az.map aK)]
theorem aaj (σ:Heap) (g:Nat) (s:bX):(pP σ g s)[σ.length]? =some (.box (bl (.os (σ.length+1) g 10 0 s.az.length) s)):=by
 rw[List.getElem?_append_right (Nat.le_refl _),Nat.sub_self];rfl
theorem Mt (σ:Heap) (g:Nat) (s:bX):(pP σ g s)[σ.length+1]? =some (.arr g 10 (s.az.map aK)):=by
 rw[List.getElem?_append_right (by omega),show σ.length+1-σ.length=1 by omega];rfl
theorem Zi (σ:Heap) (b0 b1 b:aJ):(σ++[b0,b1]).set σ.length b=σ++[b,b1]:=by
 rw[List.set_append_right _ _ (Nat.le_refl _),Nat.sub_self];rfl
theorem akZ (σ:Heap) (b0 b1 b:aJ):(σ++[b0,b1]).set (σ.length+1) b=σ++[b0,b]:=by
 rw[List.set_append_right _ _ (by omega),show σ.length+1-σ.length=1 by omega];rfl
theorem sk.ext {p:AV} {d:bF} {σ:Heap} (h:sk p d σ) (ex:Heap):sk p d (σ++ex):=by
 obtain⟨q1,q2,f1,f2,f3⟩:=h.f2
 obtain⟨GB,pm,g1,g2⟩:=h.f10
 exact⟨h.nc,⟨q1,q2,f1,f2,fun ex'=>by rw[List.append_assoc];exact f3 _⟩,⟨GB,pm,g1,fun ex'=>by rw[List.append_assoc];exact g2 _⟩,fun ex'=>by rw[List.append_assoc];exact h.lt _⟩
def RH (W:Heap) (v:AV) (l:List bf):Prop:=(l=[]∧(v=.au∨v=.ez))∨∃id g,v=.os id g 10 0 l.length∧W[id]? =some (.arr g 10 (l.map aK))
abbrev tj:List AV:=[AV.au,ah,ah,aM]
theorem afv {d:bF} (hI:sV d) {σ:Heap} {pd:AV} (hd:sk pd d σ) {t:Int} (h2:t≤36000000) {s:bX} {N:Int} (hs:jk N s) (h1:N≤t) (g:Nat):A.loop ((fun T7 Bc=>
   (A.aA 0 (AV.op σ.length 0)).bind fun cG=>
   ((A.deref cG Bc).bind fun iZ=>A.aj 0 iZ).bind fun cW=>
   (A.bG cW).bind fun dg=>
   (A.loop (fun v21 sF=>
     (A.lss (v21.getD 3 AV.undef) dg).bind fun x24=>
     A.cond x24 (
      (A.aA 0 (AV.op σ.length 0)).bind fun x25=>
      ((A.deref x25 sF).bind fun fM=>A.aj 0 fM).bind fun dK=>
      (A.aU 10 dK (v21.getD 3 AV.undef)).bind fun x28=>
      (Bm [x28] sF).bind fun gj=>
      (A.geq gj.1 ah).bind fun cH=>
      (A.guard cH true (some gj.1) an).bind fun x31=>
      (A.guard cH true (some (AV.int .i64 t)) an).bind fun x32=>
      (A.guard cH true (A.leq x31 x32) an).bind fun ey=>
      (A.pick cH ey aM).bind fun x34=>
      (A.guard x34 true (some (v21.getD 1 AV.undef)) an).bind fun gn=>
      (A.guard x34 true (A.lss gn ah) an).bind fun gI=>
      (A.guard x34 true (some gI) an).bind fun bU=>
      (A.guard bU false (some gj.1) an).bind fun x38=>
      (A.guard bU false (some (v21.getD 2 AV.undef)) an).bind fun ff=>
      (A.guard bU false (A.lss x38 ff) an).bind fun cZ=>
      (A.guard x34 true (A.pick bU cL cZ) an).bind fun dW=>
      (A.pick x34 dW aM).bind fun ga=>
      (A.cond ga (
       some ([(v21.getD 0 AV.undef),(v21.getD 3 AV.undef),gj.1],gj.2)) (
       some ([(v21.getD 0 AV.undef),(v21.getD 1 AV.undef),(v21.getD 2 AV.undef)],gj.2))).bind fun iS=>
      (A.add (v21.getD 3 AV.undef) aG).bind fun eR=>
      some (AX.normal,[(iS.1.getD 0 AV.undef),(iS.1.getD 1 AV.undef),(iS.1.getD 2 AV.undef),eR],iS.2)) (
      some (AX.exit 2,[(v21.getD 0 AV.undef),(v21.getD 1 AV.undef),(v21.getD 2 AV.undef),(v21.getD 3 AV.undef)],sF))) [(T7.getD 0 AV.undef),(AV.int .i64 (-1)),ah,ah] Bc).bind fun lU=>
   bif lU.1==AX.exit 2 then(
    (A.lss (lU.2.1.getD 1 AV.undef) ah).bind fun fK=>
    A.cond fK (
     ((A.deref (AV.op σ.length 0) lU.2.2).bind fun gZ=>A.ay 0 4 gZ).bind fun ig=>
     (A.lb (lU.2.1.getD 0 AV.undef)).bind fun xw=>
     (A.cells 4 ig).bind fun AJ=>
     (A.splice 0 AJ xw).bind fun nR=>
     some (AX.ret,[(AV.lbx nR)],lU.2.2)) (
     (A.aA 1 (AV.op σ.length 0)).bind fun eB=>
     ((A.deref eB lU.2.2).bind fun nS=>A.aj 0 nS).bind fun gy=>
     (A.add gy aG).bind fun kL=>
     (A.aA 1 (AV.op σ.length 0)).bind fun gz=>
     ((A.cell kL).bind fun v=>some [v]).bind fun i6=>
     (A.storeAt gz i6 lU.2.2).bind fun iR=>
     (A.aA 0 (AV.op σ.length 0)).bind fun eG=>
     ((A.deref eG iR).bind fun AK=>A.aj 0 AK).bind fun iT=>
     (A.aU 10 iT (lU.2.1.getD 1 AV.undef)).bind fun eS=>
     (A.aA 6 eS).bind fun fD=>
     ((A.deref fD iR).bind fun pS=>A.aj 0 pS).bind fun iK=>
     (A.add iK aG).bind fun fP=>
     (sK [pd,(AV.op σ.length 0),(lU.2.1.getD 1 AV.undef),fP,(lU.2.1.getD 2 AV.undef)] iR).bind fun fc=>
     some (AX.normal,[(lU.2.1.getD 0 AV.undef)],fc.2)))else
   none)) [.lbx tj] (pP σ g s)=some (.ret,[.lbx (bl (.os (σ.length+1) g 10 0 (lN d s t).az.length) (lN d s t))],pP σ g (lN d s t)):=by
 obtain⟨fs,hfs⟩:∃fs,fs=lN d s t:=⟨_,rfl⟩
 rw[←hfs]
 refine AT (mT (Q:=fun q=>q=(.ret,[.lbx (bl (.os (σ.length+1) g 10 0 fs.az.length) fs)],pP σ g fs)) (fun z v w=>∃(s:bX) (N:Int),jk N s∧N≤t∧v=[.lbx tj]∧w=pP σ g s∧wB s.az≤z∧yy d t z s=fs) ?_ (n:=wB s.az) ⟨s,N,hs,h1,rfl,rfl,Nat.le_refl _,hfs.symm⟩)
 rintro z v w ⟨s,N,hs,h1,rfl,rfl,hz,hF⟩
 have qT:s.az.length≤aW:=by have:=hs.len;unfold aW;omega
 have A1:=aaj σ g s
 have A2:=Mt σ g s
 have rdS:((A.deref (.op σ.length 0) (pP σ g s)).bind fun c=>A.aj 0 c)=some (.os (σ.length+1) g 10 0 s.az.length):=by simp only[A.deref,A1];rfl
 have JB:((A.deref (.op σ.length 0) (pP σ g s)).bind fun c=>A.ay 0 4 c)=some (.agg (bl (.os (σ.length+1) g 10 0 s.az.length) s)):=by simp only[A.deref,A1];rfl
 have zf:((A.deref (.op σ.length 1) (pP σ g s)).bind fun c=>A.aj 0 c)=some (.int .i64 s.number):=by simp only[A.deref,A1];rfl
 have L1:=aid (t:=t) A1 A2 qT (.lbx tj)
 rcases QM hI hs h1 h2 with⟨k0,k1,k2⟩|⟨f,b,x,to,tm,e1,e2,e3,e4,e5,e6,e7,e8,e9,kF,e11⟩
 ·have Aq:s=fs:=by
   cases z with
   |zero=>exact hF
   |succ z=>unfold yy at hF;rw[k1]at hF;exact hF
  refine .inr ⟨_,?_,by simp,rfl⟩
  rw[←Aq]
  rw[show A.aA 0 (.op σ.length 0)=some (.op σ.length 0)from rfl,bS,rdS,bS,show A.bG (.os (σ.length+1) g 10 0 s.az.length)=some (.int .i64 (s.az.length:Int))from rfl,bS]
  refine(congrArg (fun z=>Option.bind z _) L1).trans ?_
  rw[bS]
  simp only[mJ,List.getD_cons_zero,List.getD_cons_succ]
  rw[kO,bS,decide_eq_true k0,cQ,JB,bS,hG,bS]
  rfl
 ·have eY:0<z:=by omega
  obtain⟨z',rfl⟩:∃z',z=z'+1:=⟨z-1,by omega⟩
  unfold yy at hF
  rw[e9]at hF
  refine .inl ⟨z',_,_,by omega,?_,_,tm,kF,e6,rfl,rfl,?_,hF⟩
  ·rw[show A.aA 0 (.op σ.length 0)=some (.op σ.length 0)from rfl,bS,rdS,bS,show A.bG (.os (σ.length+1) g 10 0 s.az.length)=some (.int .i64 (s.az.length:Int))from rfl,bS]
   refine(congrArg (fun z=>Option.bind z _) L1).trans ?_
   rw[bS,e1]
   simp only[mJ,List.getD_cons_zero,List.getD_cons_succ]
   rw[kO,bS,decide_eq_false (by omega),cB,show A.aA 1 (.op σ.length 0)=some (.op σ.length 1)from rfl,bS,zf,bS,kN,bS]
   simp only[bS,oW]
   have hst:A.storeAt (.op σ.length 1) [.int .i64 (IntKind.i64.wrap (s.number+1))] (pP σ g s)=some (pP σ g {s with number:=IntKind.i64.wrap (s.number+1)}):=by
    simp only[A.storeAt,A1]
    rw[show A.splice 1 [.int .i64 (IntKind.i64.wrap (s.number+1))] (bl (.os (σ.length+1) g 10 0 s.az.length) s)=some (bl (.os (σ.length+1) g 10 0 s.az.length) {s with number:=IntKind.i64.wrap (s.number+1)})from rfl,Option.map_some,Zi]
   rw[hst,bS]
   obtain⟨s1,hs1⟩:∃s1:bX,s1={s with number:=IntKind.i64.wrap (s.number+1)}:=⟨_,rfl⟩
   have F7:s1.az=s.az:=by rw[hs1]
   rw[←hs1]at e8 kF ⊢
   have B1:=aaj σ g s1
   have B2:=Mt σ g s1
   have hfl:=(List.getElem?_eq_some_iff.1 e2).1
   rw[show((A.deref (.op σ.length 0) (pP σ g s1)).bind fun c=>A.aj 0 c)=some (.os (σ.length+1) g 10 0 s1.az.length)from by simp only[A.deref,B1];rfl,bS,Ru (by rw[F7];exact hfl),bS,show A.aA 6 (.oe (σ.length+1) g f 0)=some (.oe (σ.length+1) g f 6)from by simp [A.aA],bS]
   rw[show((A.deref (.oe (σ.length+1) g f 6) (pP σ g s1)).bind fun c=>A.aj 0 c)=some (.int .i64 b.bQ)from by
    simp only[A.deref,B2,if_true,List.getElem?_map,F7,e2,Option.map_some];rfl,bS,kN,bS]
   have hB:=e7 b (List.mem_of_getElem? e2)
   have fR:=(List.getElem?_eq_some_iff.1 e4).1
   have I6:b.bD.length≤aW:=hB.qW.1
   rw[show IntKind.i64.wrap (b.bQ+1)=(to:Int)from by rw[e3];exact wrap64 (by unfold aN;unfold aW at I6;omega)]
   have uC:=Qm b x
   have hgo:=Zx (d:=d) (s:=s1) (σ:=pP σ g s1) (pd:=pd) (ids:=σ.length) (aS:=σ.length+1) (g:=g) (ib:=f) (to:=to) (b:=b) (x:=x) (t:=tm) (hd.ext _) B1 B2 (by rw[F7];exact e2) e4 (by rw[F7];exact qT) (by rw[F7];exact fun b hb=>(e7 b hb).ok (Int.le_refl _) (by omega)) hI.pre hB.qW uC.1 (by have:=uC.2;unfold aW;omega) (by rw[F7];exact fun b hb=>(e7 b hb).can)
   rw[hgo,bS,akZ]
   simp only[hs1,pP,bl,List.length_set]
  ·exact Nat.le_of_lt_succ (Nat.lt_of_lt_of_le e11 hz)
def FP (σ:Heap) (s:bX) (v:AV) (H:Heap):Prop:=(s.az=[]∧v=.ez∧H=σ++[.box (bl v s)])∨∃g,v=.os (σ.length+1) g 10 0 s.az.length∧H=pP σ g s
theorem FP.ex {σ H:Heap} {s:bX} {v:AV} (h:FP σ s v H):(∃ex,H=σ++ex)∧RH H v s.az:=by
 rcases h with⟨h1,h2,h3⟩|⟨g,h1,h2⟩
 ·exact⟨⟨_,h3⟩,.inl ⟨h1,.inr h2⟩⟩
 ·exact⟨⟨_,h2⟩,.inr ⟨_,g,h1,by rw[h2];exact Mt σ g s⟩⟩
theorem Yu {d:bF} (hI:sV d) {σ:Heap} {pd v0:AV} (hd:sk pd d σ) {t:Int} (h2:t≤36000000) {N:Int} (hs:jk N d.state) (h1:N≤t) (h0:∃q,A.aA 0 pd=some q∧((A.deref q σ).bind fun c=>A.ay 0 4 c)=some (.agg (bl v0 d.state))) (hv:RH σ v0 d.state.az):
  ∃v H,EO [pd,.int .i64 t] σ=some (.agg (bl v (lN d d.state t)),H)∧FP σ (lN d d.state t) v H:=by
 have alK:∀{r:AV→AV→Heap→Option (AV×Heap)} {x y v:AV} {σ σ':Heap},r x y σ=some (v,σ')→A.wrap false [] .k (A.cR r) [x,y] σ=some (v,σ'):=by
  intro r x y v σ σ' e
  have:A.cR r [x,y] σ=some (v,σ'):=e
  simp only[A.wrap,Bool.false_and,cond_false,A.bW,this,Option.map_some,iQ]
 suffices h:∃v H,Km pd (.int .i64 t) σ=some (.agg (bl v (lN d d.state t)),H)∧FP σ (lN d d.state t) v H by
  obtain⟨v,H,e,h⟩:=h
  exact⟨v,H,alK e,h⟩
 obtain⟨s,hst⟩:∃s,s=d.state:=⟨_,rfl⟩
 rw[←hst]at hs h0 hv ⊢
 obtain⟨q,f1,f2⟩:=h0
 unfold Km
 rw[hd.nc,bS,f1,bS,f2,bS,show A.cells 4 (.agg (bl v0 s))=some (bl v0 s)from rfl,bS]
 have G0:(σ++[aJ.box tj])[σ.length]? =some (.box tj):=by rw[List.getElem?_append_right (Nat.le_refl _),Nat.sub_self];rfl
 have S0:A.storeAt (.op σ.length 0) (bl v0 s) (σ++[aJ.box tj])=some (σ++[aJ.box (bl v0 s)]):=by
  simp only[A.storeAt,G0]
  rw[show A.splice 0 (bl v0 s) tj=some (bl v0 s)from rfl,Option.map_some,List.set_append_right _ _ (Nat.le_refl _),Nat.sub_self]
  rfl
 rw[S0,bS,show A.aA 0 (.op σ.length 0)=some (.op σ.length 0)from rfl,bS]
 have hcell:A.cell v0=some v0:=by rcases hv with⟨_,h|h⟩|⟨id,g,h,_⟩<;>rw[h]<;>rfl
 have G1:(σ++[aJ.box (bl v0 s)])[σ.length]? =some (.box (bl v0 s)):=by rw[List.getElem?_append_right (Nat.le_refl _),Nat.sub_self];rfl
 rw[show((A.deref (.op σ.length 0) (σ++[aJ.box (bl v0 s)])).bind fun c=>A.aj 0 c)=some v0 from by simp only[A.deref,G1,List.drop_zero,Option.bind_some,A.aj,bl,List.getElem?_cons_zero,hcell],bS]
 by_cases hb:s.az=[]
 ·have hz:EG [v0] (σ++[aJ.box (bl v0 s)])=some (.ez,σ++[aJ.box (bl v0 s)]):=by
   rcases hv with⟨_,h|h⟩|⟨id,g,h,_⟩
   ·rw[h];rfl
   ·rw[h];rfl
   ·rw[h,hb];rfl
  rw[hz,bS]
  simp only[bS]
  have S1:A.storeAt (.op σ.length 0) [.ez] (σ++[aJ.box (bl v0 s)])=some (σ++[aJ.box (bl .ez s)]):=by
   simp only[A.storeAt,G1]
   rw[show A.splice 0 [.ez] (bl v0 s)=some (bl .ez s)from rfl,Option.map_some,List.set_append_right _ _ (Nat.le_refl _),Nat.sub_self]
   rfl
  rw[show((A.cell AV.ez).bind fun v=>some [v])=some [.ez]from rfl,bS,S1,bS]
  have hF:lN d s t=s:=by
   unfold lN
   rw[hb]
   rfl
  have G2:(σ++[aJ.box (bl .ez s)])[σ.length]? =some (.box (bl .ez s)):=by rw[List.getElem?_append_right (Nat.le_refl _),Nat.sub_self];rfl
  refine⟨.ez,σ++[aJ.box (bl .ez s)],?_,.inl ⟨by rw[hF];exact hb,rfl,by rw[hF]⟩⟩
  rw[hF]
  refine AT (FL (mT (Q:=fun q=>q=(.ret,[.lbx (bl .ez s)],σ++[aJ.box (bl .ez s)])) (fun z v w=>v=[.lbx tj]∧w=σ++[aJ.box (bl .ez s)]) ?_ (n:=0) ⟨rfl,rfl⟩) ?_)
  ·rintro z v w ⟨rfl,rfl⟩
   refine .inr ⟨_,?_,by simp,rfl⟩
   rw[show((A.deref (.op σ.length 0) (σ++[aJ.box (bl .ez s)])).bind fun c=>A.aj 0 c)=some .ez from by simp only[A.deref,G2];rfl,bS,show A.bG .ez=some (.int .i64 0)from rfl,bS]
   refine AT (FL (mT (Q:=fun q=>q=(.exit 2,[.lbx tj,.int .i64 (-1),.int .i64 0,.int .i64 0],σ++[aJ.box (bl .ez s)])) (fun z v w=>v=[.lbx tj,.int .i64 (-1),.int .i64 0,.int .i64 0]∧w=σ++[aJ.box (bl .ez s)]) ?_ (n:=0) ⟨rfl,rfl⟩) ?_)
   ·rintro z v w ⟨rfl,rfl⟩
    exact .inr ⟨_,rfl,by simp,rfl⟩
   ·rintro q rfl
    simp only[mJ,List.getD_cons_zero,List.getD_cons_succ]
    rw[kO,bS,decide_eq_true (by decide),cQ,show((A.deref (.op σ.length 0) (σ++[aJ.box (bl .ez s)])).bind fun c=>A.ay 0 4 c)=some (.agg (bl .ez s))from by simp only[A.deref,G2];rfl,bS,hG,bS]
    exact⟨_,rfl,rfl⟩
  ·rintro q rfl
   exact⟨_,rfl,rfl⟩
 ·rcases hv with⟨h,_⟩|⟨id,g,hv,hg⟩
  ·exact absurd h hb
  obtain⟨n,hn⟩:∃n,s.az.length=n+1:=by
   cases h:s.az with
   |nil=>exact absurd h hb
   |cons b l=>exact⟨l.length,rfl⟩
  have aaU:=(List.getElem?_eq_some_iff.1 hg).1
  have hlen:=hs.len
  have G2:(σ++[aJ.box (bl v0 s)])[id]? =some (.arr g 10 (s.az.map aK)):=by rw[List.getElem?_append_left aaU];exact hg
  have hz:EG [v0] (σ++[aJ.box (bl v0 s)])=some (.os (σ.length+1) s.az.length 10 0 s.az.length,(σ++[aJ.box (bl v0 s)])++[.arr s.az.length 10 (s.az.map aK)]):=by
   have e0:EG [v0] (σ++[aJ.box (bl v0 s)])=A.wrap false [] .k (A.cD EH) [v0] (σ++[aJ.box (bl v0 s)]):=by
    rw[hv,hn];rfl
   rw[e0]
   have e1:A.cD EH [v0] (σ++[aJ.box (bl v0 s)])=some (.os (σ.length+1) s.az.length 10 0 s.az.length,(σ++[aJ.box (bl v0 s)])++[.arr s.az.length 10 (s.az.map aK)]):=by
    show EH v0 (σ++[aJ.box (bl v0 s)])=_
    unfold EH
    rw[show A.pY v0 .au=some (.bool false)from by rw[hv];rfl,bS,cB]
    have hel:A.elems 10 v0 (σ++[aJ.box (bl v0 s)])=some (s.az.map aK):=by
     rw[hv]at G2 ⊢
     simp only[A.elems]
     rw[G2]
     simp [List.take_of_length_le]
    have hne:s.az.map aK≠[]:=by simpa using hb
    have hap:A.append 10 (140737488355328 / 96) .ez v0 (σ++[aJ.box (bl v0 s)])=some (.os (σ.length+1) s.az.length 10 0 s.az.length,(σ++[aJ.box (bl v0 s)])++[.arr s.az.length 10 (s.az.map aK)]):=by
     unfold A.append
     rw[hel,bS]
     simp only[A.sM,if_neg hne,List.length_map,List.length_append,List.length_cons,List.length_nil]
     rw[if_pos (by omega)]
    rw[hap,bS]
   simp only[A.wrap,Bool.false_and,cond_false,A.bW,e1,Option.map_some,iQ]
  rw[hz,bS]
  simp only[bS]
  rw[show((A.cell (AV.os (σ.length+1) s.az.length 10 0 s.az.length)).bind fun v=>some [v])=some [.os (σ.length+1) s.az.length 10 0 s.az.length]from rfl,bS]
  have S1:A.storeAt (.op σ.length 0) [.os (σ.length+1) s.az.length 10 0 s.az.length] ((σ++[aJ.box (bl v0 s)])++[.arr s.az.length 10 (s.az.map aK)])=some (pP σ s.az.length s):=by
   rw[List.append_assoc]
   simp only[A.storeAt]
   rw[List.getElem?_append_right (Nat.le_refl _),Nat.sub_self]
   show(Option.map (fun cs=>(σ++[aJ.box (bl v0 s),aJ.arr s.az.length 10 (s.az.map aK)]).set σ.length (.box cs)) (A.splice 0 [.os (σ.length+1) s.az.length 10 0 s.az.length] (bl v0 s)))=_
   rw[show A.splice 0 [.os (σ.length+1) s.az.length 10 0 s.az.length] (bl v0 s)=some (bl (.os (σ.length+1) s.az.length 10 0 s.az.length) s)from rfl,Option.map_some,Zi]
  rw[S1,bS]
  refine⟨_,_,?_,.inr ⟨s.az.length,rfl,rfl⟩⟩
  refine(congrArg (fun z=>Option.bind z _) (afv hI hd h2 hs h1 s.az.length)).trans ?_
  rw[bS]
  rfl
end
section
set_option maxRecDepth 100000
open HP
theorem abw (dyn:Nat→List AV→Heap→Option (AV×Heap)) (l:List bf) (hl:l.length≤aW) (n:Nat) (caps:List AV) (p:bf→Bool) (σ:Heap) (hd:∀x∈l,dyn n ((.agg (aK x):AV)::caps) σ=some (.bool (p x),σ)):GF dyn [sl 10 aK l,.fn n caps] σ=some (.int .i64 (jZ p l),σ):=by
 refine wrap_eq rfl ?_ rfl
 show JY dyn (sl 10 aK l) (.fn n caps) σ=_
 unfold JY
 simp only[aP,reduceCtorEq]
 refine(oM (S:=Unit) (R:=Int) l (fun pre x _=>if p x=true then .out (pre.length:Int)else .go ())
  (fun pre _=>[.int .i64 0,.int .i64 (pre.length:Int)]) (fun _ _=>σ) (fun _=>(.exit 0,[.int .i64 0,.int .i64 (l.length:Int)],σ)) (fun pre _ r=>(.ret,[.int .i64 (pre.length:Int),.int .i64 (pre.length:Int)],σ))
  (fun _ _=>True) () (fun _=>some (AV.int .i64 (-1),σ)) (fun r=>some (AV.int .i64 r,σ)) ?_ ?_ trivial (fun _ _ _ _ _ _ _ _=>trivial) ?_ ?_).trans ?_
 ·intro pre x rest u hl' _
  have hx:=oP hl'
  have hlt:=rO hl'
  have hi1:IntKind.i64.wrap ((pre.length:Int)+1)=(pre.length:Int)+1:=wrap64 (by unfold aN;unfold aW at hl;omega)
  have hlt':(pre.length:Int)<(l.length:Int):=by omega
  have jH:=lM 10 aK l hx
  have nX:=hd x (by rw[hl'];simp)
  simp only[aP,reduceCtorEq,ahx,hlt',jH,A.jE,List.cons_append,List.nil_append,nX,hi1]
  cases p x<;>simp [aP,reduceCtorEq]
 ·intro u _;simp only[aP,reduceCtorEq,Int.lt_irrefl]
 ·intro u _;simp only[aP,reduceCtorEq]
 ·intro pre x rest s q hl' _ hb
  have:q=(pre.length:Int):=by
   cases hpx:p x
   ·rw[hpx]at hb;cases hb
   ·rw[hpx]at hb;simp at hb;exact hb.symm
  simp only[aP,reduceCtorEq,this]
 ·rw[C9 p _ _ l [] (by simp)]
  simp only[List.nil_append]
  split
  ·rename_i h;rw[h]
  ·rfl
noncomputable def vG (d:bF) (s:bX) (i:Nat) (b:bf) (to t:Int):bX×Int:=match b.bD[to.toNat]? with
 |none=>(s,0)
 |some x=>({s with number:=IntKind.i64.wrap (s.number+1),az:=s.az.set i (lu d {s with number:=IntKind.i64.wrap (s.number+1)} b x to t)},0)
def Gc (s:bX) (i:Nat) (b:bf):bX:={s with number:=IntKind.i64.wrap (s.number+1),az:=s.az.set i b}
noncomputable def aos (d:bF) (s:bX) (i:Nat) (b:bf) (a:dR):bX:={s with number:=IntKind.i64.wrap (s.number+1),az:=s.az.set i (td d {s with number:=IntKind.i64.wrap (s.number+1)} b a)}
noncomputable def FZ (d:bF) (s:bX) (a:dR) (i:Nat) (b:bf):bX×Int:=
 if a.kind=1 then(if b.bQ+1=(b.bD.length:Int)then(s,8)else vG d s i b (b.bQ+1) a.time)
 else if a.kind=2 then(if b.bQ-1<0 then(s,8)else vG d s i b (b.bQ-1) a.time)
 else if a.kind=3 then(if jZ (fun c:bg=>decide (c.number=a.bQ)) b.bD<0 then(s,8)else vG d s i b (jZ (fun c:bg=>decide (c.number=a.bQ)) b.bD) a.time)
 else if a.kind=4 then(if b.clock.jL=true∨b.bQ<0 then(s,10)else(Gc s i {b with clock:=⟨dm b.clock a.time,a.time,true⟩},0))
 else if a.kind=5 then(if b.clock.jL=false then(s,10)else(Gc s i {b with clock:=⟨b.clock.shown,a.time,false⟩},0))
 else if a.kind=6 then(if b.bQ<0 then(s,10)else(aos d s i b a,0))
 else(Gc s i {b with jg:=a.level},0)
noncomputable def jX (d:bF) (s:bX) (a:dR):bX×Int:=
 if a.kind=8 then({s with number:=IntKind.i64.wrap (s.number+1),mo:=a.level},0)
 else if a.kind=9 then({s with number:=IntKind.i64.wrap (s.number+1),black:=decide (a.level=1)},0)
 else match s.az[(jZ (fun b:bf=>decide (b.number=a.iN)) s.az).toNat]? with
  |none=>(s,0)
  |some b=>FZ d s a (jZ (fun b:bf=>decide (b.number=a.iN)) s.az).toNat b
structure SA (σ W : Heap) (ids aS g : Nat) (s : bX) : Prop where
 b1:W[ids]? =some (.box (bl (.os aS g 10 0 s.az.length) s))
 b2:W[aS]? =some (.arr g 10 (s.az.map aK))
 ex:∃ex,W=σ++ex
 i1:σ.length≤ids
 i2:σ.length≤aS
section
variable {σ W : Heap} {ids aS g : Nat} {s : bX}
theorem SA.ne (h:SA σ W ids aS g s):ids≠aS:=by
 intro e
 have h1:=h.b1
 have h2:=h.b2
 rw[e,h2]at h1
 cases h1
theorem Q3 {σ W:Heap} (h:∃ex,W=σ++ex) {i:Nat} (hi:σ.length≤i) (b:aJ):∃ex,W.set i b=σ++ex:=by
 obtain⟨ex,rfl⟩:=h
 exact⟨_,List.set_append_right _ _ hi⟩
theorem SA.dU (h:SA σ W ids aS g s) (i:Nat) (b':bf):SA σ (W.set aS (.arr g 10 ((s.az.set i b').map aK))) ids aS g {s with az:=s.az.set i b'}:=by
 refine⟨?_,?_,Q3 h.ex h.i2 _,h.i1,h.i2⟩
 ·rw[List.getElem?_set_ne (fun e=>h.ne e.symm)]
  show _=some (aJ.box (bl (.os aS g 10 0 (s.az.set i b').length) _))
  rw[List.length_set]
  exact h.b1
 ·exact List.getElem?_set_self (List.getElem?_eq_some_iff.1 h.b2).1
theorem SA.aoz (h:SA σ W ids aS g s) (s':bX) (hs:s'.az=s.az):SA σ (W.set ids (.box (bl (.os aS g 10 0 s'.az.length) s'))) ids aS g s':=by
 refine⟨List.getElem?_set_self (List.getElem?_eq_some_iff.1 h.b1).1,?_,Q3 h.ex h.i1 _,h.i1,h.i2⟩
 rw[List.getElem?_set_ne h.ne,hs]
 exact h.b2
theorem SA.num (h:SA σ W ids aS g s) (n:Int):∃W',A.storeAt (.op ids 1) [.int .i64 n] W=some W'∧SA σ W' ids aS g {s with number:=n}:=by
 refine⟨_,?_,h.aoz {s with number:=n} rfl⟩
 simp only[A.storeAt,h.b1]
 rfl
theorem SA.put (h:SA σ W ids aS g s) {i o:Nat} {b b':bf} {new:List AV} (hb:s.az[i]? =some b) (hs:A.splice o new (aK b)=some (aK b')):∃W',A.storeAt (.oe aS g i o) new W=some W'∧SA σ W' ids aS g {s with az:=s.az.set i b'}:=by
 refine⟨_,?_,h.dU i b'⟩
 rw[HJ h.b2 (by rw[List.getElem?_map,hb];rfl) hs,List.map_set]
theorem SA.rdB (h:SA σ W ids aS g s) {i:Nat} {b:bf} (hb:s.az[i]? =some b) (o:Nat):A.deref (.oe aS g i o) W=some ((aK b).drop o):=by
 simp only[A.deref,h.b2,if_true,List.getElem?_map,hb,Option.map_some]
theorem SA.zf (h:SA σ W ids aS g s):((A.deref (.op ids 1) W).bind fun c=>A.aj 0 c)=some (.int .i64 s.number):=by
 simp only[A.deref,h.b1];rfl
theorem SA.rdV (h:SA σ W ids aS g s):((A.deref (.op ids 0) W).bind fun c=>A.aj 0 c)=some (.os aS g 10 0 s.az.length):=by
 simp only[A.deref,h.b1];rfl
theorem SA.go {d:bF} {pd:AV} (hI:sV d) (hd:sk pd d σ) (h:SA σ W ids aS g s) {N t:Int} (hs:jk N s) (hN:N≤t) (ht:t≤36000000) {i to:Nat} {b:bf} {x:bg} (hb:s.az[i]? =some b) (hx:b.bD[to]? =some x):
  ∃W',sK [pd,.op ids 0,.int .i64 (i:Int),.int .i64 (to:Int),.int .i64 t] W=some (.aH [],W')∧SA σ W' ids aS g {s with az:=s.az.set i (lu d s b x (to:Int) t)}:=by
 obtain⟨ex,e⟩:=h.ex
 have hB:=hs.bs b (List.mem_of_getElem? hb)
 have uC:=Qm b x
 refine⟨_,Zx (by rw[e];exact hd.ext ex) h.b1 h.b2 hb hx (by have:=hs.len;unfold aW;omega) (fun b hb=>(hs.bs b hb).ok hN ht) hI.pre hB.qW uC.1 (by have:=uC.2;unfold aW;omega) (fun b hb=>(hs.bs b hb).can),h.dU i _⟩
theorem SA.rel {d:bF} {pd:AV} (hd:sk pd d σ) (h:SA σ W ids aS g s) {a:dR} {N:Int} (hs:jk N s) (hN:N≤a.time) (ht:a.time≤36000000) {i:Nat} {b:bf} (hb:s.az[i]? =some b):
  ∃W',GM [pd,.op ids 0,.oe aS g i 0,.agg (bE a)] W=some (.aH [],W')∧SA σ W' ids aS g {s with az:=s.az.set i (td d s b a)}:=by
 obtain⟨ex,e⟩:=h.ex
 have hB:=hs.bs b (List.mem_of_getElem? hb)
 exact⟨_,ahC (by rw[e];exact hd.ext ex) h.b1 h.b2 hb (hB.ok hN ht) (fun b hb=>(hs.bs b hb).can),h.dU i _⟩
end
theorem bex {β:Type} {X:Option (AV×Heap)} {v:AV×Heap} {f:AV×Heap→Option β} {Q:Heap→Prop} (e:X=some v) {r:Heap→Option β} (k:∃W',f v=r W'∧Q W'):∃W',X.bind f=r W'∧Q W':=by
 rw[e];exact k
theorem agK (b:bf) (a:dR) (σ:Heap):Bh [.agg (aK b),.rp (bE a)] σ=some (.bool (decide (b.number=a.iN)),σ):=by
 refine Fu (z:=.au) (by unfold aK;cases b.runs<;>rfl) (iV (qJ (by unfold aK;cases b.runs<;>rfl)) rfl) (iQ _) ?_
 unfold Ur
 rw[agV,bS,ae2,bS,kV,bS,nv,bS,show A.aj 0 ((bE a).drop 2)=some (.int .i64 a.iN)from rfl,bS,iH,bS]
 exact bC _ _
theorem agL (c:bg) (a:dR) (σ:Heap):Bi [.agg (aZ c),.rp (bE a)] σ=some (.bool (decide (c.number=a.bQ)),σ):=by
 refine Fu (z:=.au) rfl (iV (qJ rfl) rfl) (iQ _) ?_
 unfold Us
 rw[LX,bS,PZ,bS,kV,bS,nv,bS,show A.aj 0 ((bE a).drop 3)=some (.int .i64 a.bQ)from rfl,bS,iH,bS]
 exact bC _ _
theorem ahk {W:Heap} {aS g:Nat} {l:List bf} (h:W[aS]? =some (.arr g 10 (l.map aK))):Lt W (.s 10) (.os aS g 10 0 l.length) (sl 10 aK l):=
 ⟨⟨sl 10 aK l,HO CZ h (by omega) 7,rfl,rfl⟩,rfl,fun h=>by cases h⟩
noncomputable abbrev Mf : Nat → List AV → Heap → Option (AV × Heap) := A.tab (fun _ _ => none) [(352, Bh), (354, Bi)]
theorem afP {W:Heap} {aS g:Nat} {l:List bf} (h:W[aS]? =some (.arr g 10 (l.map aK))) (hl:l.length≤aW) (a:dR):GF Mf [.os aS g 10 0 l.length,.fn 352 [.rp (bE a)]] W=some (.int .i64 (jZ (fun b:bf=>decide (b.number=a.iN)) l),W):=
 As (cM:=[.os aS g 10 0 l.length,.fn 352 [.rp (bE a)]]) (ts:=[sl 10 aK l,.fn 352 [.rp (bE a)]]) ⟨ahk h,MC (al5 (bR (al7 (VT a)) oO)) rfl,trivial⟩ (fun σ=>abw Mf l hl _ _ _ σ (fun b _=>agK b a σ)) rfl
theorem YJ (c t:Int) (q:Bool):((((A.cell (.int .i64 c)).bind fun v=>some [v]).bind fun RO=>(A.splice 0 RO [ah,ah,aM]).bind fun wM=>((A.cell (.int .i64 t)).bind fun v=>some [v]).bind fun Ig=>(A.splice 1 Ig wM).bind fun wN=>((A.cell (AV.bool q)).bind fun v=>some [v]).bind fun RQ=>(A.splice 2 RQ wN).bind fun tX=>some tX).bind fun cs=>some (AV.agg cs))=some (.agg (uU ⟨c,t,q⟩)):=rfl
theorem ZX (b:bf) (c:zC):A.splice 0 (uU c) (aK b)=some (aK {b with clock:=c}):=rfl
theorem ai5 (b:bf) (n:Int):A.splice 7 [.int .i64 n] (aK b)=some (aK {b with jg:=n}):=rfl
theorem alU {d:bF} {pd:AV} (hI:sV d) {σ W:Heap} (hd:sk pd d σ) {ids aS g:Nat} {s:bX} (h:SA σ W ids aS g s) {a:dR} (hs:jk a.time s) (hk:1≤a.kind∧a.kind≤7) (hp:∃b∈s.az,b.number=a.iN):
  ∃W',GR [pd,.op ids 0,.agg (bE a)] W=some (.int .i64 (jX d s a).2,W')∧SA σ W' ids aS g (jX d s a).1:=by
 have akQ:∀{r:AV→AV→AV→Heap→Option (AV×Heap)} {x y z v:AV} {σ σ':Heap},r x y z σ=some (v,σ')→A.wrap false [] .k (A.lG r) [x,y,z] σ=some (v,σ'):=by
  intro r x y z v σ σ' e
  exact Rh (iQ _) e
 suffices h:∃W',ER pd (.op ids 0) (.agg (bE a)) W=some (.int .i64 (jX d s a).2,W')∧SA σ W' ids aS g (jX d s a).1 by
  obtain⟨W',e,h⟩:=h
  exact⟨W',akQ e,h⟩
 have Tu:s.az.length≤aW:=by have:=hs.len;unfold aW;omega
 have ht:=hs.n.2
 have JB:∀(k:Nat) (W:Heap),A.deref (.rp ((bE a).drop k)) W=some ((bE a).drop k):=fun k W=>rfl
 unfold ER jX
 rw[if_neg (by omega),if_neg (by omega)]
 rw[show((A.cells 5 (.agg (bE a))).bind fun cs=>some (AV.rp cs))=some (.rp (bE a))from rfl,bS]
 simp only[kV,bS,JB,show A.aj 0 ((bE a).drop 1)=some (.int .i64 a.kind)from rfl,show A.aj 0 ((bE a).drop 0)=some (.int .i64 a.time)from rfl,show A.aj 0 ((bE a).drop 4)=some (.int .i64 a.level)from rfl,iH,nv,KV]
 rw[decide_eq_false (show ¬a.kind=8 by omega),cB,decide_eq_false (show ¬a.kind=9 by omega),cB]
 simp only[show A.aL (.op ids 0)=some (.op ids 0)from rfl,bS,show ∀o,A.aA o (.op ids 0)=some (.op ids o)from fun o=>by simp [A.aA],h.rdV]
 refine bex (afP h.b2 Tu a) ?_
 simp only[h.rdV,bS]
 obtain⟨i,b,e1,e2,e3⟩:∃(i:Nat) (b:bf),s.az[i]? =some b∧jZ (fun b:bf=>decide (b.number=a.iN)) s.az=(i:Int)∧b∈s.az:=by
  rcases zk (fun b:bf=>decide (b.number=a.iN)) s.az with⟨_,q,_⟩|⟨i,b,q1,_,q2,_,_⟩
  ·obtain⟨b,hb,yU⟩:=hp
   have:=q b hb
   rw[decide_eq_true yU]at this;cases this
  ·exact⟨i,b,q1,q2,List.mem_of_getElem? q1⟩
 have hi:=(List.getElem?_eq_some_iff.1 e1).1
 rw[e2]
 simp only[Int.toNat_natCast]
 rw[e1]
 simp only
 rw[Ru hi,bS]
 have hB:=hs.bs b e3
 have hc:=hB.bQ
 have I6:b.bD.length≤aW:=hB.qW.1
 have fo:∀o,A.aA o (.oe aS g i 0)=some (.oe aS g i o):=fun o=>by simp [A.aA]
 have fo2:∀o,A.aA 0 (.oe aS g i o)=some (.oe aS g i o):=fun o=>by simp [A.aA]
 have fo3:∀o,A.aA o (.oe aS g i 0)=some (.oe aS g i o):=fun o=>by simp [A.aA]
 have c6:A.aj 0 ((aK b).drop 6)=some (.int .i64 b.bQ):=rfl
 have c5:A.aj 0 ((aK b).drop 5)=some (sl 11 aZ b.bD):=rfl
 have c2:A.aj 0 ((aK b).drop 2)=some (.bool b.clock.jL):=rfl
 have c0:A.aj 0 ((aK b).drop 0)=some (.int .i64 b.clock.shown):=rfl
 have c03:A.ay 0 3 ((aK b).drop 0)=some (.agg (uU b.clock)):=rfl
 simp only[show A.aL (.oe aS g i 0)=some (.oe aS g i 0)from rfl,bS,fo,h.rdB e1,c6,c5,c2,c0,c03,fE]
 obtain⟨W1,n1,n2⟩:=h.num (IntKind.i64.wrap (s.number+1))
 have hs1:jk a.time {s with number:=IntKind.i64.wrap (s.number+1)}:=Qo hs _
 have go:∀(to:Nat) (x:bg),b.bD[to]? =some x→∃W',sK [pd,.op ids 0,.int .i64 (i:Int),.int .i64 (to:Int),.int .i64 a.time] W1=some (.aH [],W')∧SA σ W' ids aS g (vG d s i b (to:Int) a.time).1∧(vG d s i b (to:Int) a.time).2=0:=by
  intro to x hx
  obtain⟨W',q1,q2⟩:=n2.go hI hd hs1 (Int.le_refl _) ht e1 hx
  refine⟨W',q1,?_,?_⟩
  ·unfold vG;rw[Int.toNat_natCast,hx];exact q2
  ·unfold vG;rw[Int.toNat_natCast,hx]
 have no:((A.cell (AV.int .i64 (IntKind.i64.wrap (s.number+1)))).bind fun v=>some [v])=some [.int .i64 (IntKind.i64.wrap (s.number+1))]:=rfl
 unfold FZ
 by_cases k1:a.kind=1
 ·rw[if_pos k1,decide_eq_true k1,cQ,kN,bS,show IntKind.i64.wrap (b.bQ+1)=b.bQ+1 from wrap64 (by unfold aN;unfold aW at I6;omega),iH,bS]
  by_cases hz:b.bQ+1=(b.bD.length:Int)
  ·rw[decide_eq_true hz,cQ,if_pos hz]
   exact⟨W,rfl,h⟩
  ·rw[decide_eq_false hz,cB,if_neg hz,h.zf,bS,kN,bS,no,bS,n1,bS,rR,bS,decide_eq_true (by omega),cQ]
   obtain⟨to,hto⟩:∃to:Nat,b.bQ+1=(to:Int):=⟨(b.bQ+1).toNat,by omega⟩
   obtain⟨W',q1,q2,q3⟩:=go to _ (List.getElem?_eq_getElem (show to<b.bD.length by omega))
   rw[hto]
   simp only[q1,bS,q3]
   exact⟨W',rfl,q2⟩
 rw[if_neg k1,decide_eq_false k1,cB]
 by_cases k2:a.kind=2
 ·rw[if_pos k2,decide_eq_true k2,cQ,pE,bS,show IntKind.i64.wrap (b.bQ-1)=b.bQ-1 from wrap64 (by unfold aN;unfold aW at I6;omega),kO,bS]
  by_cases hz:b.bQ-1<0
  ·rw[decide_eq_true hz,cQ,if_pos hz]
   exact⟨W,rfl,h⟩
  ·rw[decide_eq_false hz,cB,if_neg hz,h.zf,bS,kN,bS,no,bS,n1,bS,rR,bS,decide_eq_true (by omega),cQ]
   obtain⟨to,hto⟩:∃to:Nat,b.bQ-1=(to:Int):=⟨(b.bQ-1).toNat,by omega⟩
   obtain⟨W',q1,q2,q3⟩:=go to _ (List.getElem?_eq_getElem (show to<b.bD.length by omega))
   rw[hto]
   simp only[q1,bS,q3]
   exact⟨W',rfl,q2⟩
 rw[if_neg k2,decide_eq_false k2,cB]
 by_cases k3:a.kind=3
 ·rw[if_pos k3,decide_eq_true k3,cQ]
  have Tx:GH Mf [sl 11 aZ b.bD,.fn 354 [.rp (bE a)]] W=some (.int .i64 (jZ (fun c:bg=>decide (c.number=a.bQ)) b.bD),W):=abF Mf b.bD I6 _ _ _ W (fun c _=>agL c a W)
  refine bex Tx ?_
  simp only
  rw[kO,bS]
  rcases zk (fun c:bg=>decide (c.number=a.bQ)) b.bD with⟨q,_,_⟩|⟨to,x,q1,_,q2,_,_⟩
  ·rw[q,decide_eq_true (by decide),cQ,if_pos (by decide)]
   exact⟨W,rfl,h⟩
  ·rw[q2,decide_eq_false (by omega),cB,if_neg (by omega),h.zf,bS,kN,bS,no,bS,n1,bS,rR,bS,decide_eq_true (by omega),cQ]
   obtain⟨W',g1,g2,g3⟩:=go to _ q1
   simp only[g1,bS,g3]
   exact⟨W',rfl,g2⟩
 rw[if_neg k3,decide_eq_false k3,cB]
 have SD:∀(o:Nat) (new:List AV) (b':bf),A.splice o new (aK b)=some (aK b')→∃W1 W2,A.storeAt (.oe aS g i o) new W=some W1∧((A.deref (.op ids 1) W1).bind fun c=>A.aj 0 c)=some (.int .i64 s.number)∧A.storeAt (.op ids 1) [.int .i64 (IntKind.i64.wrap (s.number+1))] W1=some W2∧SA σ W2 ids aS g (Gc s i b'):=by
  intro o new b' hsp
  obtain⟨W1,w1,w2⟩:=h.put e1 hsp
  obtain⟨W2,w3,w4⟩:=w2.num (IntKind.i64.wrap (s.number+1))
  exact⟨W1,W2,w1,w2.zf,w3,w4⟩
 by_cases k4:a.kind=4
 ·rw[if_pos k4,decide_eq_true k4,cQ]
  by_cases hst:b.clock.jL=true
  ·rw[hst,if_pos (.inl rfl)]
   simp only[xD,gU,bS,lz,cT]
   exact⟨W,rfl,h⟩
  have IB:b.clock.jL=false:=by simpa using hst
  rw[IB]
  simp only[gF,bS,show A.aL (.oe aS g i 0)=some (.oe aS g i 0)from rfl,fo,h.rdB e1,c6,mM,kO]
  by_cases hz:b.bQ<0
  ·rw[decide_eq_true hz,cQ,if_pos (.inr hz)]
   exact⟨W,rfl,h⟩
  ·rw[decide_eq_false hz,cB,if_neg (fun q=>q.elim (fun q=>by cases q) hz),quiet_of (Mv _ _ W),bS,YJ,bS,PO,bS]
   obtain⟨W1',IK,w1,w2,w3,w4⟩:=SD 0 _ _ (ZX b ⟨dm b.clock a.time,a.time,true⟩)
   rw[w1,bS,w2,bS,kN,bS,no,bS,w3,bS,rR,bS,decide_eq_false (by decide),cB,bS]
   exact⟨IK,rfl,w4⟩
 rw[if_neg k4,decide_eq_false k4,cB]
 by_cases k5:a.kind=5
 ·rw[if_pos k5,decide_eq_true k5,cQ,wY,bS]
  by_cases hst:b.clock.jL=true
  case neg=>
   have IB:b.clock.jL=false:=by simpa using hst
   rw[IB,if_pos rfl]
   exact⟨W,rfl,h⟩
  ·rw[hst,if_neg (by simp),show(!true)=false from rfl,cB,YJ,bS,PO,bS]
   obtain⟨W1',IK,w1,w2,w3,w4⟩:=SD 0 _ _ (ZX b ⟨b.clock.shown,a.time,false⟩)
   rw[w1,bS,w2,bS,kN,bS,no,bS,w3,bS,rR,bS,decide_eq_false (by decide),cB,bS]
   exact⟨IK,rfl,w4⟩
 rw[if_neg k5,decide_eq_false k5,cB]
 by_cases k6:a.kind=6
 ·rw[if_pos k6,decide_eq_true k6,cQ,kO,bS]
  by_cases hz:b.bQ<0
  ·rw[decide_eq_true hz,cQ,if_pos hz]
   exact⟨W,rfl,h⟩
  ·rw[decide_eq_false hz,cB,if_neg hz,h.zf,bS,kN,bS,no,bS,n1,bS]
   obtain⟨W',q1,q2⟩:=n2.rel hd hs1 (Int.le_refl _) ht e1
   rw[q1,bS]
   exact⟨W',rfl,q2⟩
 rw[if_neg k6,decide_eq_false k6,cB,decide_eq_true (show a.kind=7 by omega),cQ]
 obtain⟨W1',IK,w1,w2,w3,w4⟩:=SD 7 _ _ (ai5 b a.level)
 rw[oW,bS,w1,bS,bS]
 simp only
 rw[w2,bS,kN,bS,no,bS,w3,bS,rR,bS,decide_eq_false (by decide),cB,bS]
 exact⟨IK,rfl,w4⟩
end
section
set_option maxRecDepth 100000
noncomputable def NR (a0:lJ) (a1:dR):Option Bool:=
 some (decide (a0.number=a1.iN))
theorem acr {a0:lJ} {a1:dR} {σ:Heap} {r:Bool} (h:NR a0 a1=some r):GJ [(AV.agg (bO a0)),(AV.rp (bE a1))] σ=some ((AV.bool r),σ):=by
 refine uQ (f:=NQ) (y0:=(AV.agg (bO a0))) (y1:=(AV.rp (bE a1))) (enc:=fun r:Bool=>(AV.bool r)) (T:=NR a0 a1) rfl rfl ?_ r h
 unfold NQ NR
 refine aq _ rfl<|aq _ rfl<|aq _ rfl<|aq _ rfl<|aq _ (iH _ _ _) ?_
 exact eD _ (bC _ _) ⟨rfl,rfl⟩
noncomputable def CM (a0:dR):Option Int:=
 if(!(aR a0.kind 1 9))=true then
  some 4
 else
 if(((((decide (a0.kind=8))||(decide (a0.kind=9)))&&(decide (¬(a0.iN=0))))||((decide (¬(a0.kind=3)))&&(decide (¬(a0.bQ=0)))))||((!((((decide (a0.kind=8))||(decide (a0.kind=9)))||(decide (a0.kind=6)))||(decide (a0.kind=7))))&&(decide (¬(a0.level=0)))))=true then
  some 3
 else
 some 0
theorem acH {a0:dR} {σ:Heap} {r:Int} (h:CM a0=some r):Kb [(AV.agg (bE a0))] σ=some ((AV.int .i64 r),σ):=by
 refine yp (f:=N5) (y0:=(AV.agg (bE a0))) (enc:=fun r:Int=>(AV.int .i64 r)) (T:=CM a0) rfl rfl ?_ r h
 unfold N5 CM
 refine aq _ rfl<|aq _ rfl<|aq _ (jT a0.kind 1 9 σ)<|aq _ rfl ?_
 refine ji (c:=(!(aR a0.kind 1 9))) (fun c2=>?_) (fun c2=>?_)
 ·exact eD _ (bC _ _) ⟨rfl,rfl⟩
 refine aq _ rfl<|aq _ (iH _ _ _)<|eE (AV.int .i64 a0.kind) (fun hg=>rfl)<|eE (AV.bool (decide (a0.kind=9))) (fun hg=>by(try rw[hg]);exact(iH _ _ _))<|aq _ (pg _ _)<|eE (AV.int .i64 a0.kind) (fun hg=>rfl)<|eE (AV.bool (decide (a0.kind=6))) (fun hg=>by(try rw[hg]);exact(iH _ _ _))<|aq _ (pg _ _)<|eE (AV.int .i64 a0.kind) (fun hg=>rfl)<|eE (AV.bool (decide (a0.kind=7))) (fun hg=>by(try rw[hg]);exact(iH _ _ _))<|aq _ (pg _ _)<|dS (AV.int .i64 a0.iN) (fun hg=>rfl)<|dS (AV.bool (decide (¬(a0.iN=0)))) (fun hg=>by(try rw[hg]);exact(gC _ _ _))<|aq _ (rN _ _)<|eE (AV.int .i64 a0.kind) (fun hg=>rfl)<|eE (AV.bool (decide (¬(a0.kind=3)))) (fun hg=>by(try rw[hg]);exact(gC _ _ _))<|eE (AV.bool (decide (¬(a0.kind=3)))) (fun hg=>by(try rw[hg]);exact rfl)<|FN (AV.int .i64 a0.bQ) (fun hg=>rfl)<|FN (AV.bool (decide (¬(a0.bQ=0)))) (fun hg=>by(try rw[hg]);exact(gC _ _ _))<|eE (AV.bool ((decide (¬(a0.kind=3)))&&(decide (¬(a0.bQ=0))))) (fun hg=>by(try rw[hg]);exact(rN _ _))<|aq _ (pg _ _)<|eE (AV.bool ((((decide (a0.kind=8))||(decide (a0.kind=9)))||(decide (a0.kind=6)))||(decide (a0.kind=7)))) (fun hg=>rfl)<|eE (AV.bool (!((((decide (a0.kind=8))||(decide (a0.kind=9)))||(decide (a0.kind=6)))||(decide (a0.kind=7))))) (fun hg=>by(try rw[hg]);exact rfl)<|eE (AV.bool (!((((decide (a0.kind=8))||(decide (a0.kind=9)))||(decide (a0.kind=6)))||(decide (a0.kind=7))))) (fun hg=>by(try rw[hg]);exact rfl)<|FN (AV.int .i64 a0.level) (fun hg=>rfl)<|FN (AV.bool (decide (¬(a0.level=0)))) (fun hg=>by(try rw[hg]);exact(gC _ _ _))<|eE (AV.bool ((!((((decide (a0.kind=8))||(decide (a0.kind=9)))||(decide (a0.kind=6)))||(decide (a0.kind=7))))&&(decide (¬(a0.level=0))))) (fun hg=>by(try rw[hg]);exact(rN _ _))<|aq _ (pg _ _) ?_
 refine ji (c:=(((((decide (a0.kind=8))||(decide (a0.kind=9)))&&(decide (¬(a0.iN=0))))||((decide (¬(a0.kind=3)))&&(decide (¬(a0.bQ=0)))))||((!((((decide (a0.kind=8))||(decide (a0.kind=9)))||(decide (a0.kind=6)))||(decide (a0.kind=7))))&&(decide (¬(a0.level=0)))))) (fun c1=>?_) (fun c1=>?_)
 ·exact eD _ (bC _ _) ⟨rfl,rfl⟩
 exact eD _ (bC _ _) ⟨rfl,rfl⟩
noncomputable def CN (a0:fU) (a1:dR):Option Int:=
 (if(!((decide (a1.kind=8))||(decide (a1.kind=9))))=true then tq (a0.bk.length≤aW) (a0.bk.any (fun x=>(decide (x.number=a1.iN))))else some default).bind fun r1=>
 if((!((decide (a1.kind=8))||(decide (a1.kind=9))))&&(!r1))=true then
  some 8
 else
 (show Option Int from
   if a1.kind=6 then
    some 36000000
   else
   (show Option Int from
     if a1.kind=9 then
      some 1
     else
     some 65535).bind fun j3=>
   some j3).bind fun j7=>
 some (if(!(aR a1.level 0 j7))=true then 1 else 0)
theorem acI {a0:fU} {a1:dR} {σ:Heap} {r:Int} (h:CN a0 a1=some r):Kc [(AV.agg (bB a0)),(AV.agg (bE a1))] σ=some ((AV.int .i64 r),σ):=by
 refine uQ (f:=Kf) (y0:=(AV.agg (bB a0))) (y1:=(AV.agg (bE a1))) (enc:=fun r:Int=>(AV.int .i64 r)) (T:=CN a0 a1) rfl rfl ?_ r h
 unfold Kf CN
 refine aq _ rfl<|aq _ rfl<|aq _ rfl<|aq _ rfl<|aq _ (iH _ _ _)<|eE (AV.rp (List.drop 1 (bE a1))) (fun hg=>rfl)<|eE (AV.int .i64 a1.kind) (fun hg=>by(try rw[hg]);exact rfl)<|eE (AV.bool (decide (a1.kind=9))) (fun hg=>by(try rw[hg]);exact(iH _ _ _))<|aq _ (pg _ _)<|aq _ rfl<|dS (sl 3 bO a0.bk) (fun hg=>rfl)<|dS (AV.fn 152 [(AV.rp (bE a1))]) (fun hg=>rfl) ?_
 refine yC (ω:=Bool) (fun r1=>(AV.bool r1)) (fun hg r1 kQ=>by(try rw[hg]);exact(quiet_of ((wC (e:=fun r:Bool=>((AV.bool r),σ)) (fun hs=>abm _ a0.bk hs _ _ (fun x=>(decide (x.number=a1.iN))) σ (fun x hx=>acr (σ:=σ) (r:=(decide (x.number=a1.iN))) rfl))) kQ))) (fun r1 kQ=>?_)
 refine dS (AV.bool (!r1)) (fun hg=>by(try rw[hg]);exact rfl)<|aq _ (rN _ _) ?_
 refine ji (c:=((!((decide (a1.kind=8))||(decide (a1.kind=9))))&&(!r1))) (fun dY=>?_) (fun dY=>?_)
 ·exact eD _ (bC _ _) ⟨rfl,rfl⟩
 refine aq _ rfl<|aq _ rfl<|aq _ (iH _ _ _) ?_
 refine MV (ω:=Int) (fun j7 a=>a=(([(AV.int .i64 j7)]:List AV),σ)) (
   by
    refine kY (p:=a1.kind=6) (fun c6=>?_) (fun c6=>?_)
    ·exact bZ rfl
    refine aq _ (iH _ _ _) ?_
    refine MV (ω:=Int) (fun j3 a=>a=(([(AV.int .i64 j3)]:List AV),σ)) (
      by
       refine kY (p:=a1.kind=9) (fun c2=>?_) (fun c2=>?_)
       ·exact bZ rfl
       exact bZ rfl
      ) (fun j3 a ha=>?_)
    subst ha
    exact bZ rfl
   ) (fun j7 a ha=>?_)
 subst ha
 refine aq _ rfl<|aq _ rfl<|aq _ (jT a1.level 0 j7 σ)<|aq _ rfl<|aq _ (uS (!(aR a1.level 0 j7)) 1 σ) ?_
 exact eD _ (bC _ _) ⟨rfl,rfl⟩
end
section
set_option maxRecDepth 100000
open HP
def gL (p:aB×ep):AV×AV:=(.agg (aO p.1),.agg (eU p.2))
abbrev gb (vb:AV) (aV:Nat) (va:AV) (d:bF):List AV:=[vb,.int .i64 d.state.number,.int .i64 d.state.mo,.bool d.state.black,sl 3 ck d.setup.aQ.aY,sl 4 bV d.setup.aQ.units,sl 3 dL d.setup.bH,sl 2 dQ d.setup.lists,sl 3 bO d.setup.bk,sl 2 aO d.keys,.om aV,va]
def iP (id:Nat) (vb:AV) (aV:Nat) (va:AV) (d:bF):HP:=blk id (.box (gb vb aV va d))*(Sl (fl aK) 10 vb d.state.az*(blk aV (.map ((d.params.getD []).map gL))*Sl (fl bE) 5 va d.actions))
def lX (pd:AV) (d:bF):HP:=ex fun x:Nat×AV×Nat×AV=>pr (pd=.op x.1 0∧d.params.isSome=true)*iP x.1 x.2.1 x.2.2.1 x.2.2.2 d
section
variable {B : aJ → Prop} {aC σ : Heap} {R : HP} {pd : AV} {d : bF}
theorem Lu (H:Hs B aC σ (lX pd d*R)):∃id vb aV va,pd=.op id 0∧d.params.isSome=true∧Hs B aC σ (iP id vb aV va d*R):=by
 unfold lX at H
 rw[My]at H
 obtain⟨⟨id,vb,aV,va⟩,H⟩:=H
 rw[tJ,mZ]at H
 exact⟨id,vb,aV,va,H.1.1,H.1.2,H.2⟩
theorem C8 {id:Nat} {vb:AV} {aV:Nat} {va:AV} (hp:d.params.isSome=true) (H:Hs B aC σ (iP id vb aV va d*R)):Hs B aC σ (lX (.op id 0) d*R):=by
 unfold lX
 rw[My]
 refine⟨⟨id,vb,aV,va⟩,?_⟩
 rw[tJ,mZ]
 exact⟨⟨rfl,hp⟩,H⟩
theorem Y8 {vb:AV} {l:List bf} (H:Hs B aC σ (Sl (fl aK) 10 vb l*R)):RH σ vb l:=by
 rcases vX H with⟨h1,h2,_⟩|⟨id,g,h1,K⟩
 ·exact .inl ⟨h1,h2⟩
 ·exact .inr ⟨id,g,h1,(iD K).2⟩
theorem QI (H:Hs B aC σ R) (ex:Heap):Hs bP aC (σ++ex) R:=ali (Q5 H) ex (fun _ _=>trivial)
theorem LF {W:Heap} {i:Nat} {b:aJ} (H:Hs B aC σ R) (hW:∃ex,W=σ++ex) (hi:σ.length≤i) (hb:W[i]? =some b):Hs bP aC W (blk i b*R):=by
 obtain⟨ex,rfl⟩:=hW
 have hl:=ZC H
 obtain⟨⟨bs,sA,_⟩,h,hr,h2⟩:=H
 refine⟨⟨bs++ex,by rw[sA,List.append_assoc],fun _ _=>trivial⟩,fun j=>if j=i then some b else h j,⟨fun j=>if j=i then some b else none,h,fun j=>rfl,hr,fun j=>?_,fun j=>?_⟩,fun j x hx=>?_⟩
 ·by_cases e:j=i
  ·right
   cases hj:h j with
   |none=>rfl
   |some x=>have:=(List.getElem?_eq_some_iff.1 (h2 j x hj).2).1;omega
  ·simp only[e,if_false,true_or]
 ·by_cases e:j=i<;>simp only[e,if_true,if_false,Option.or_some,Option.none_or,Option.some_or]
 ·by_cases e:j=i
  ·subst e
   simp only[if_true,Option.some.injEq]at hx
   subst hx
   exact⟨by omega,hb⟩
  ·simp only[e,if_false]at hx
   obtain⟨k1,k2⟩:=h2 j x hx
   exact⟨k1,by rw[List.getElem?_append_left (List.getElem?_eq_some_iff.1 k2).1];exact k2⟩
theorem ajO {l:List (aB×ep)} {aV:Nat} (h:σ[aV]? =some (.map (l.map gL))) (d:Nat):A.bw σ 0 (d+1) (.om aV)=some (.fm (l.map gL)):=by
 simp only[A.bw,Nat.not_lt_zero,if_false,h]
 rw[L4 d (fun p hp=>by obtain⟨q,_,rfl⟩:=List.mem_map.1 hp;exact⟨wq (zy _),wq (PU _)⟩)]
 rfl
theorem L6 {id:Nat} {vb:AV} {aV:Nat} {va:AV} (hp:d.params.isSome=true) (H:Hs B aC σ (iP id vb aV va d*R)):Lt σ Rc (.op id 0) (.rp (qA d)):=by
 obtain⟨ps,hps⟩:=Option.isSome_iff_exists.1 hp
 unfold iP at H
 have H1:=hs_eq (show _=blk id (.box (gb vb aV va d))*(Sl (fl aK) 10 vb d.state.az*(blk aV (.map ((d.params.getD []).map gL))*Sl (fl bE) 5 va d.actions)*R) by ac_rfl) H
 have H2:=hs_eq (show _=Sl (fl aK) 10 vb d.state.az*(blk id (.box (gb vb aV va d))*(blk aV (.map ((d.params.getD []).map gL))*Sl (fl bE) 5 va d.actions)*R) by ac_rfl) H
 have H3:=hs_eq (show _=blk aV (.map ((d.params.getD []).map gL))*(Sl (fl aK) 10 vb d.state.az*blk id (.box (gb vb aV va d))*Sl (fl bE) 5 va d.actions*R) by ac_rfl) H
 have H4:=hs_eq (show _=Sl (fl bE) 5 va d.actions*(Sl (fl aK) 10 vb d.state.az*blk id (.box (gb vb aV va d))*blk aV (.map ((d.params.getD []).map gL))*R) by ac_rfl) H
 obtain⟨rj,b1,b2,b3⟩:=HS H2 CZ (Nat.zero_le _) 6
 obtain⟨Be,a1,a2,a3⟩:=HS H4 VT (Nat.zero_le _) 6
 have hm:=ajO (iD H3).2 6
 rw[hps,Option.getD_some]at hm
 have hg:=(iD H1).2
 refine⟨⟨.rp [rj,.int .i64 d.state.number,.int .i64 d.state.mo,.bool d.state.black,sl 3 ck d.setup.aQ.aY,sl 4 bV d.setup.aQ.units,sl 3 dL d.setup.bH,sl 2 dQ d.setup.lists,sl 3 bO d.setup.bk,sl 2 aO d.keys,.fm (ps.map gL),Be],?_,?_,?_⟩,rfl,fun h=>by cases h⟩
 ·simp only[A.bw,Nat.not_lt_zero,if_false,hg,List.drop_zero,gb,A.tN,b1,a1,hm,oZ aeS _ σ 0 7,oZ Qf _ σ 0 7,oZ VU _ σ 0 7,oZ air _ σ 0 7,oZ OK _ σ 0 7,oZ zy _ σ 0 7,Option.bind_some,Option.map_some]
 ·rfl
 ·show AV.rp (A.bW DV _)=AV.rp (A.bW DV (qA d))
  congr 1
  unfold qA
  rw[hps]
  simp only[A.bW,b3,a3]
  rfl
theorem Y3 {id:Nat} {vb:AV} {aV:Nat} {va:AV} (hp:d.params.isSome=true) (H:Hs B aC σ (iP id vb aV va d*R)):sk (.op id 0) d σ:=by
 have K:∀ex,Hs bP aC (σ++ex) (iP id vb aV va d*R):=fun ex=>QI H ex
 have hg:∀ex,(σ++ex)[id]? =some (.box (gb vb aV va d)):=fun ex=>(iD (hs_eq (show _=blk id (.box (gb vb aV va d))*(Sl (fl aK) 10 vb d.state.az*(blk aV (.map ((d.params.getD []).map gL))*Sl (fl bE) 5 va d.actions)*R) by unfold iP;ac_rfl) (K ex))).2
 have hm:∀ex,(σ++ex)[aV]? =some (.map ((d.params.getD []).map gL)):=fun ex=>(iD (hs_eq (show _=blk aV (.map ((d.params.getD []).map gL))*(Sl (fl aK) 10 vb d.state.az*blk id (.box (gb vb aV va d))*Sl (fl bE) 5 va d.actions*R) by unfold iP;ac_rfl) (K ex))).2
 refine⟨rfl,⟨.op id 4,.op id 6,by simp [A.aA],by simp [A.aA],fun ex=>?_⟩,⟨.op id 10,.om aV,by simp [A.aA],fun ex=>⟨?_,fun k=>?_⟩⟩,fun ex=>L6 hp (K ex)⟩
 ·simp only[A.deref,hg ex];rfl
 ·simp only[A.deref,hg ex];rfl
 ·simp only[A.look,show A.jq (.s [0,2]) (.agg (aO k))=true from rfl,cond_true,A.entries,hm ex,Option.bind_some,show A.find (.s [0,2]) (.agg (aO k)) ((d.params.getD []).map gL)=some ((cC k (d.params.getD [])).map fun p=>AV.agg (eU p))from BI (eK:=fun k=>AV.agg (aO k)) (eV:=fun p=>AV.agg (eU p)) qt k _,Option.map_some]
  unfold jI
  cases cC k (d.params.getD [])<;>rfl
end
noncomputable def Fy (a:dR):Int:=(CM a).getD 0
noncomputable def Gg (s:fU) (a:dR):Int:=(CN s a).getD 0
theorem XI (a:dR):CM a=some (Fy a):=by
 unfold Fy CM
 split
 ·rfl
 split<;>rfl
theorem X6 {s:fU} (hl:s.bk.length≤aW) (a:dR):CN s a=some (Gg s a):=by
 unfold Gg CN
 rw[uX hl]
 have:∀(c:Bool) (x y:Bool),∃r,(if c=true then some x else some y:Option Bool)=some r:=by intro c x y;cases c<;>exact⟨_,rfl⟩
 obtain⟨r,hr⟩:=this (!((decide (a.kind=8))||(decide (a.kind=9)))) (s.bk.any (fun x=>(decide (x.number=a.iN)))) default
 rw[hr,Option.bind_some]
 split
 ·rfl
 ·split
  ·rfl
  ·split<;>rfl
theorem Zh {s:fU} (hl:s.bk.length≤aW) {a:dR} (h1:Fy a=0) (h2:Gg s a=0):(1≤a.kind∧a.kind≤9)∧(a.kind≤7→∃p∈s.bk,p.number=a.iN)∧(a.kind≠6→0≤a.level∧a.level≤65535)∧0≤a.level∧a.level≤36000000:=by
 have e1:=XI a
 have e2:=X6 hl a
 rw[h1]at e1
 rw[h2]at e2
 unfold CM at e1
 split at e1
 ·cases e1
 rename_i k1
 have hk:1≤a.kind∧a.kind≤9:=qE (by simpa using k1)
 unfold CN at e2
 rw[uX hl]at e2
 have anK:a.kind≤7→∃p∈s.bk,p.number=a.iN:=by
  intro h
  rw[decide_eq_false (show ¬a.kind=8 by omega),decide_eq_false (show ¬a.kind=9 by omega)]at e2
  simp only[Bool.or_false,Bool.not_false,if_true,Option.bind_some,Bool.true_and]at e2
  by_cases q:s.bk.any (fun x=>decide (x.number=a.iN))=true
  ·obtain⟨p,hp,hp2⟩:=List.any_eq_true.1 q
   exact⟨p,hp,by simpa using hp2⟩
  ·rw[if_pos (by simpa using q)]at e2
   cases e2
 refine⟨hk,anK,?_⟩
 have:∀(c:Bool) (x y:Bool),∃r,(if c=true then some x else some y:Option Bool)=some r:=by intro c x y;cases c<;>exact⟨_,rfl⟩
 obtain⟨r,hr⟩:=this (!((decide (a.kind=8))||(decide (a.kind=9)))) (s.bk.any (fun x=>(decide (x.number=a.iN)))) default
 rw[hr,Option.bind_some]at e2
 split at e2
 ·cases e2
 by_cases k6:a.kind=6
 ·rw[if_pos k6]at e2
  simp only[Option.bind_some]at e2
  by_cases q:aR a.level 0 36000000=true
  ·have:=qE q
   exact⟨fun h=>absurd k6 h,this.1,this.2⟩
  ·rw[if_pos (by simpa using q)]at e2;cases e2
 ·rw[if_neg k6]at e2
  by_cases k9:a.kind=9
  ·rw[if_pos k9]at e2
   simp only[Option.bind_some]at e2
   by_cases q:aR a.level 0 1=true
   ·have:=qE q
    exact⟨fun _=>⟨this.1,by omega⟩,this.1,by omega⟩
   ·rw[if_pos (by simpa using q)]at e2;cases e2
  ·rw[if_neg k9]at e2
   simp only[Option.bind_some]at e2
   by_cases q:aR a.level 0 65535=true
   ·have:=qE q
    exact⟨fun _=>⟨this.1,by omega⟩,this.1,by omega⟩
   ·rw[if_pos (by simpa using q)]at e2;cases e2
noncomputable def Ea (d:bF) (a:dR):Int:=
 ([(([(if decide ((d.actions.length:Int)=5000)=true then 2 else 0),Fy a,(if(!(aR a.time 0 36000000))=true then 1 else 0),(if decide (a.time<iy d.actions)=true then 7 else 0)]:List Int).find? fun n=>decide (¬n=0)).getD 0,Gg d.setup a].find? fun n=>decide (¬n=0)).getD 0
noncomputable def lq (d:bF) (a:dR):bF×Int:=
 if ¬(Ea d a=0)then(d,Ea d a)
 else if ¬((jX d (lN d d.state a.time) a).2=0)then(d,(jX d (lN d d.state a.time) a).2)
 else({d with state:=(jX d (lN d d.state a.time) a).1,actions:=d.actions++[a]},0)
theorem ajI {a b:Int} (h:(([a,b]:List Int).find? fun n=>decide (¬n=0)).getD 0=0):a=0∧b=0:=by
 by_cases ha:a=0
 ·by_cases hb:b=0
  ·exact⟨ha,hb⟩
  ·simp [List.find?,ha,hb]at h
 ·simp [List.find?,ha]at h
theorem ajJ {a b c e:Int} (h:(([a,b,c,e]:List Int).find? fun n=>decide (¬n=0)).getD 0=0):a=0∧b=0∧c=0∧e=0:=by
 by_cases ha:a=0
 ·by_cases hb:b=0
  ·by_cases hc:c=0
   ·by_cases he:e=0
    ·exact⟨ha,hb,hc,he⟩
    ·simp [List.find?,ha,hb,hc,he]at h
   ·simp [List.find?,ha,hb,hc]at h
  ·simp [List.find?,ha,hb]at h
 ·simp [List.find?,ha]at h
theorem Zp {d:bF} {a:dR} (h:Ea d a=0):¬((d.actions.length:Int)=5000)∧Fy a=0∧(0≤a.time∧a.time≤36000000)∧iy d.actions≤a.time∧Gg d.setup a=0:=by
 obtain⟨h1,h2⟩:=ajI h
 obtain⟨k1,k2,k3,k4⟩:=ajJ h1
 refine⟨fun q=>?_,k2,?_,?_,h2⟩
 ·rw[decide_eq_true q,if_pos rfl]at k1;cases k1
 ·by_cases q:aR a.time 0 36000000=true
  ·exact qE q
  ·rw[if_pos (by simpa using q)]at k3;cases k3
 ·by_cases q:a.time<iy d.actions
  ·rw[decide_eq_true q,if_pos rfl]at k4;cases k4
  ·omega
structure wF (d : bF) : Prop where
 di:sV d
 si:jk (iy d.actions) d.state
 MS:d.state.az.map (·.number)=d.setup.bk.map (·.number)
 len:d.actions.length≤5000
 par:d.params.isSome=true
theorem wF.pl {d:bF} (h:wF d):d.setup.bk.length≤aW:=by
 have e:=congrArg List.length h.MS
 simp only[List.length_map]at e
 have:=h.si.len
 unfold aW;omega
theorem LL {l:List bf} {i:Nat} {b b':bf} (h:l[i]? =some b) (e:b'.number=b.number):(l.set i b').map (·.number)=l.map (·.number):=by
 rw[List.map_set]
 refine List.ext_getElem? fun j=>?_
 rw[List.getElem?_set]
 split
 ·rename_i q
  have hl:=(List.getElem?_eq_some_iff.1 h).1
  rw[if_pos (by simpa [←q]using hl),List.getElem?_map,←q,h,Option.map_some,e]
 ·rfl
theorem ahp {d:bF} {t:Int} {s s':bX} (h:yI d t s=some s'):s'.az.map (·.number)=s.az.map (·.number):=by
 unfold yI at h
 split at h
 ·cases h
 obtain⟨b,hb,h⟩:=Option.bind_eq_some_iff.1 h
 obtain⟨x,hx,rfl⟩:=Option.map_eq_some_iff.1 h
 exact LL hb rfl
theorem Vl {d:bF} {t:Int}:∀(n:Nat) (s:bX),(yy d t n s).az.map (·.number)=s.az.map (·.number)
 |0,s=>rfl
 |n+1,s=>by
  unfold yy
  cases h:yI d t s with
  |none=>rfl
  |some s'=>simp only;rw[Vl n s',ahp h]
theorem Pk (d:bF) (s:bX) (t:Int):(lN d s t).az.map (·.number)=s.az.map (·.number):=Vl _ s
theorem agY:oR ⟨1,[]⟩=0:=by decide
theorem aji {d:bF} (hI:sV d) {s:bX} {a:dR} (hs:jk a.time s) (hk:1≤a.kind∧a.kind≤9) (hl:a.kind≠6→0≤a.level∧a.level≤65535) (uA:0≤a.level∧a.level≤36000000):jk a.time (jX d s a).1∧(jX d s a).1.az.map (·.number)=s.az.map (·.number):=by
 have ht:=hs.n
 unfold jX
 by_cases k8:a.kind=8
 ·rw[if_pos k8];exact⟨⟨hs.n,hs.len,hs.bs,hl (by omega)⟩,rfl⟩
 rw[if_neg k8]
 by_cases k9:a.kind=9
 ·rw[if_pos k9];exact⟨⟨hs.n,hs.len,hs.bs,hs.mo⟩,rfl⟩
 rw[if_neg k9]
 generalize (jZ (fun b:bf=>decide (b.number=a.iN)) s.az).toNat=i
 cases hb:s.az[i]? with
 |none=>exact⟨hs,rfl⟩
 |some b=>
  simp only
  have vH:=List.mem_of_getElem? hb
  have hB:=hs.bs b vH
  have fR:=Dd hB.pX (Int.le_refl _) ht.2
  have put:∀b':bf,vk a.time b'→b'.number=b.number→jk a.time (Gc s i b')∧(Gc s i b').az.map (·.number)=s.az.map (·.number):=fun b' h1 h2=>⟨LM hs i h1 _,LL hb h2⟩
  have go:∀to:Int,0≤to→jk a.time (vG d s i b to a.time).1∧(vG d s i b to a.time).1.az.map (·.number)=s.az.map (·.number):=by
   intro to h0
   unfold vG
   cases hx:b.bD[to.toNat]? with
   |none=>exact⟨hs,rfl⟩
   |some x=>
    have e:to=((to.toNat:Nat):Int):=by omega
    have:=YF hI (Qo hs (IntKind.i64.wrap (s.number+1))) (Int.le_refl _) ht.2 vH hx
    rw[←e]at this
    exact⟨LM hs i this _,LL hb rfl⟩
  have apH:=hB.bQ
  unfold FZ
  split
  ·split
   ·exact⟨hs,rfl⟩
   ·exact go _ (by omega)
  split
  ·split
   ·exact⟨hs,rfl⟩
   ·exact go _ (by omega)
  split
  ·split
   ·exact⟨hs,rfl⟩
   ·exact go _ (by omega)
  split
  ·split
   ·exact⟨hs,rfl⟩
   ·refine put _ ⟨hB.qW,hB.dA,hB.can,hB.runs,hB.jg,⟨fR.2.1,fR.2.2,Int.le_refl _⟩,hB.bQ,?_⟩ rfl
    rcases hB.Cu with h|⟨h1,h2,h3⟩
    ·exact .inl h
    ·exact .inr ⟨h1,h2,h3⟩
  split
  ·split
   ·exact⟨hs,rfl⟩
   ·rename_i hst
    have IB:b.clock.jL=true:=by simpa using hst
    obtain⟨c1,c2,c3⟩:=hB.pX
    refine put _ ⟨hB.qW,hB.dA,hB.can,hB.runs,hB.jg,⟨c1,by show b.clock.shown≤a.time;omega,Int.le_refl _⟩,hB.bQ,?_⟩ rfl
    rcases hB.Cu with h|⟨h1,h2,h3⟩
    ·exact .inl h
    ·refine .inr ⟨h1,?_,h3⟩
     rw[fR.1,if_pos IB]at h2
     show IntKind.i64.wrap (IntKind.i64.wrap (b.clock.shown+a.time) -a.time)≤b.follow
     rw[show IntKind.i64.wrap (b.clock.shown+a.time)=b.clock.shown+a.time from wrap64 (by unfold aN;omega),wrap64 (by unfold aN;omega)]
     omega
  split
  ·split
   ·exact⟨hs,rfl⟩
   ·refine⟨LM hs i (b:=td d {s with number:=IntKind.i64.wrap (s.number+1)} b a) ⟨hB.qW,hB.dA,Xx (Lm (VL hB)),fun k r hkr=>?_,hB.jg,⟨fR.2.1,fR.2.2,Int.le_refl _⟩,⟨by show(-1:Int)≤-1;omega,by show(-1:Int)<_;omega⟩,.inl (by show(-1:Int)<0;decide)⟩ _,LL hb rfl⟩
    have hm:(k,r)∈HG d {s with number:=IntKind.i64.wrap (s.number+1)} b a:=(PM _).mem_iff.1 hkr
    obtain⟨p,hp,q⟩:=List.mem_filterMap.1 hm
    obtain⟨r',hr',q⟩:=Option.map_eq_some_iff.1 q
    injection q with q1 q2
    subst q2
    unfold yB at hr'
    split at hr'
    ·cases hr'
    ·rename_i hq
     injection hr' with hr'
     subst hr'
     have lT:(dH b p.1 (dm b.clock a.time)).2=true:=by
      cases h:(dH b p.1 (dm b.clock a.time)).2
      ·exact absurd (.inl h) hq
      ·rfl
     have hfo:=zD (hB.ok (Int.le_refl _) ht.2) lT
     exact L0 (FM hfo _) (by simp) ⟨fR.2.1,by show dm b.clock a.time≤_;omega⟩ (by simp) uA agY
  ·exact put _ ⟨hB.qW,hB.dA,hB.can,hB.runs,hl (by assumption),hB.pX,hB.bQ,hB.Cu⟩ rfl
theorem Q1 {d:bF} (h:wF d) (a:dR):wF (lq d a).1:=by
 unfold lq
 split
 ·exact h
 rename_i h0
 have h0:Ea d a=0:=by simpa using h0
 obtain⟨k1,k2,k3,k4,k5⟩:=Zp h0
 obtain⟨a1,a2,a3,a4⟩:=Zh h.pl k2 k5
 split
 ·exact h
 ·have hA:=PI h.di h.si k4 k3.2
  obtain⟨b1,b2⟩:=aji h.di hA a1 a3 a4
  refine⟨⟨h.di.pre,h.di.lev,h.di.par⟩,?_,?_,?_,h.par⟩
  ·have:iy (d.actions++[a])=a.time:=by unfold iy;simp
   show jk (iy (d.actions++[a])) _
   rw[this];exact b1
  ·show(jX d (lN d d.state a.time) a).1.az.map (·.number)=_
   rw[b2,Pk];exact h.MS
  ·show(d.actions++[a]).length≤5000
   rw[List.length_append,List.length_singleton]
   exact Nat.lt_of_le_of_ne h.len (fun q=>k1 (by rw[q];rfl))
end
section
set_option maxRecDepth 100000
open HP
section
variable {aC σ : Heap} {R : HP} {pd : AV} {d : bF}
theorem aoc (a b c e:Int):((((A.cell (.int .i64 a)).bind fun v=>some [v]).bind fun gM=>(A.splice 0 gM [ah,ah,ah,ah]).bind fun iz=>((A.cell (.int .i64 b)).bind fun v=>some [v]).bind fun kC=>(A.splice 1 kC iz).bind fun gq=>((A.cell (.int .i64 c)).bind fun v=>some [v]).bind fun eF=>(A.splice 2 eF gq).bind fun gr=>((A.cell (.int .i64 e)).bind fun v=>some [v]).bind fun gO=>(A.splice 3 gO gr).bind fun fM=>some fM).bind fun cs=>some (AV.sl 1 (chunks 1 4 cs)))=some (sl 1 rT [a,b,c,e]):=rfl
theorem amr (a b:Int):((((A.cell (.int .i64 a)).bind fun v=>some [v]).bind fun gX=>(A.splice 0 gX [ah,ah]).bind fun gY=>((A.cell (.int .i64 b)).bind fun v=>some [v]).bind fun fA=>(A.splice 1 fA gY).bind fun lg=>some lg).bind fun cs=>some (AV.sl 1 (chunks 1 2 cs)))=some (sl 1 rT [a,b]):=rfl
theorem agl (a:dR):(((A.cells 5 (.agg (bE a))).bind fun AK=>(A.splice 0 AK [ah,ah,ah,ah,ah]).bind fun nT=>some nT).bind fun cs=>some (AV.sl 5 (chunks 5 1 cs)))=some (.sl 5 [bE a]):=rfl
theorem Zc {r:AV→AV→Heap→Option (AV×Heap)} {x y v:AV} {σ σ':Heap} (e:r x y σ=some (v,σ')):A.wrap false [] .k (A.cR r) [x,y] σ=some (v,σ'):=by
 have:A.cR r [x,y] σ=some (v,σ'):=e
 simp only[A.wrap,Bool.false_and,cond_false,A.bW,this,Option.map_some,iQ]
theorem Mj {α:Type} {c:α→List AV} {sz:Nat} {B:aJ→Prop} {v:AV} {l:List α} (H:Hs B aC σ (Sl (fl c) sz v l*R)):A.cell v=some v:=by
 rcases vX H with⟨_,rfl|rfl,_⟩|⟨id,g,rfl,_⟩<;>rfl
theorem Zf {id:Nat} {vb:AV} {aV:Nat} {va:AV} (hp:d.params.isSome=true) (hl:d.actions.length≤aW) (H:Hs bP aC σ (iP id vb aV va d*R)):Bk [.op id 0] σ=some (.int .i64 (iy d.actions),σ):=
 As (cM:=[.op id 0]) (ts:=[.rp (qA d)]) ⟨L6 hp H,trivial⟩ (fun σ=>Zg d hl σ) rfl
theorem alI {id:Nat} {vb:AV} {aV:Nat} {va:AV} (hp:d.params.isSome=true) (hl:d.actions.length≤aW) (H:Hs bP aC σ (iP id vb aV va d*R)) (t:Int):GQ [.op id 0,.int .i64 t] σ=some (.int .i64 (sU d.actions t),σ):=
 As (cM:=[.op id 0,.int .i64 t]) (ts:=[.rp (qA d),.int .i64 t]) ⟨L6 hp H,Q6 t,trivial⟩ (fun σ=>alJ d hl t σ) rfl
theorem Mi {id:Nat} {vb:AV} {aV:Nat} {va:AV} {B:aJ→Prop} (H:Hs B aC σ (iP id vb aV va d*R)):σ[id]? =some (.box (gb vb aV va d)):=
 (iD (hs_eq (show _=blk id (.box (gb vb aV va d))*(Sl (fl aK) 10 vb d.state.az*(blk aV (.map ((d.params.getD []).map gL))*Sl (fl bE) 5 va d.actions)*R) by unfold iP;ac_rfl) H)).2
theorem QX {s:bX} {v:AV} {H:Heap} (h:FP σ s v H):(∃ex,H=σ++ex)∧A.storeAt (.op H.length 0) (bl v s) (H++[aJ.box tj])=some (H++[aJ.box (bl v s)])∧(H++[aJ.box (bl v s)])[H.length]? =some (.box (bl v s))∧((s.az=[]∧v=.ez)∨∃g,v=.os (σ.length+1) g 10 0 s.az.length∧SA σ (H++[aJ.box (bl v s)]) H.length (σ.length+1) g s):=by
 obtain⟨⟨ex,hex⟩,_⟩:=h.ex
 have hlen:σ.length≤H.length:=by rw[hex];simp
 have G0:(H++[aJ.box tj])[H.length]? =some (.box tj):=by rw[List.getElem?_append_right (Nat.le_refl _),Nat.sub_self];rfl
 have G1:(H++[aJ.box (bl v s)])[H.length]? =some (.box (bl v s)):=by rw[List.getElem?_append_right (Nat.le_refl _),Nat.sub_self];rfl
 refine⟨⟨ex,hex⟩,?_,G1,?_⟩
 ·simp only[A.storeAt,G0]
  rw[show A.splice 0 (bl v s) tj=some (bl v s)from rfl,Option.map_some,List.set_append_right _ _ (Nat.le_refl _),Nat.sub_self]
  rfl
 ·rcases h with⟨h1,h2,h3⟩|⟨g,h1,h2⟩
  ·exact .inl ⟨h1,h2⟩
  ·refine .inr ⟨g,h1,⟨by rw[←h1];exact G1,?_,⟨ex++[aJ.box (bl v s)],by rw[hex,List.append_assoc]⟩,hlen,Nat.le_succ _⟩⟩
   have hl:σ.length+1<H.length:=by rw[h2];simp
   rw[List.getElem?_append_left hl,h2]
   exact Mt σ g s
theorem ajh {d:bF} {pd:AV} (hI:sV d) {σ H:Heap} (hd:sk pd d σ) {s:bX} {v:AV} (h:FP σ s v H) {a:dR} (hs:jk a.time s) (hk:1≤a.kind∧a.kind≤9) (hp:a.kind≤7→∃b∈s.az,b.number=a.iN):
  ∃W',GR [pd,.op H.length 0,.agg (bE a)] (H++[aJ.box (bl v s)])=some (.int .i64 (jX d s a).2,W')∧(∃ex,W'=σ++ex)∧W'[H.length]? =some (.box (bl v (jX d s a).1))∧((((jX d s a).1).az=[]∧v=.ez)∨∃g,v=.os (σ.length+1) g 10 0 (jX d s a).1.az.length∧W'[σ.length+1]? =some (.arr g 10 ((jX d s a).1.az.map aK))):=by
 obtain⟨hex,_,G1,hc⟩:=QX h
 have Ix:∃ex,H++[aJ.box (bl v s)]=σ++ex:=by obtain⟨ex,rfl⟩:=hex;exact⟨_,List.append_assoc _ _ _⟩
 have hlen:σ.length≤H.length:=by obtain⟨ex,rfl⟩:=hex;simp
 by_cases k7:a.kind≤7
 ·rcases hc with⟨h1,h2⟩|⟨g,h1,xE⟩
  ·obtain⟨b,hb,_⟩:=hp k7
   rw[h1]at hb;cases hb
  ·obtain⟨W',w1,w2⟩:=alU hI hd xE hs ⟨hk.1,k7⟩ (hp k7)
   have hle:(jX d s a).1.az.length=s.az.length:=by
    have:=w2.b1
    have e:∀l1 l2:List bf,l1.map (·.number)=l2.map (·.number)→l1.length=l2.length:=fun l1 l2 h=>by simpa using congrArg List.length h
    unfold jX
    rw[if_neg (by omega),if_neg (by omega)]
    generalize (jZ (fun b:bf=>decide (b.number=a.iN)) s.az).toNat=i
    cases hb:s.az[i]? with
    |none=>rfl
    |some b=>
     simp only
     have hgo:∀to,(vG d s i b to a.time).1.az.length=s.az.length:=by
      intro to;unfold vG;cases b.bD[to.toNat]? <;>simp
     unfold FZ
     repeat (first|rfl|exact hgo _|exact List.length_set|split)
   refine⟨W',w1,w2.ex,?_,.inr ⟨g,by rw[hle];exact h1,w2.b2⟩⟩
   rw[w2.b1,hle,←h1]
 ·have zf:((A.deref (.op H.length 1) (H++[aJ.box (bl v s)])).bind fun c=>A.aj 0 c)=some (.int .i64 s.number):=by simp only[A.deref,G1];rfl
  have JB:∀(k:Nat) (W:Heap),A.deref (.rp ((bE a).drop k)) W=some ((bE a).drop k):=fun k W=>rfl
  obtain⟨W0,Cx⟩:∃W0,W0=H++[aJ.box (bl v s)]:=⟨_,rfl⟩
  have hHl:H.length<W0.length:=by rw[Cx];simp
  rw[←Cx]at zf G1 Ix ⊢
  have st:∀(s1 s2:bX) (o:Nat) (new:List AV),A.splice o new (bl v s1)=some (bl v s2)→A.storeAt (.op H.length o) new (W0.set H.length (.box (bl v s1)))=some (W0.set H.length (.box (bl v s2))):=by
   intro s1 s2 o new hsp
   simp only[A.storeAt,List.getElem?_set_self hHl,hsp,Option.map_some,List.set_set]
  have st0:A.storeAt (.op H.length 1) [.int .i64 (IntKind.i64.wrap (s.number+1))] W0=some (W0.set H.length (.box (bl v {s with number:=IntKind.i64.wrap (s.number+1)}))):=by
   simp only[A.storeAt,G1];rfl
  have fin:∀s':bX,s'.az=s.az→(∃ex,W0.set H.length (.box (bl v s'))=σ++ex)∧(W0.set H.length (.box (bl v s')))[H.length]? =some (.box (bl v s'))∧((s'.az=[]∧v=.ez)∨∃g,v=.os (σ.length+1) g 10 0 s'.az.length∧(W0.set H.length (.box (bl v s')))[σ.length+1]? =some (.arr g 10 (s'.az.map aK))):=by
   intro s' hs'
   refine⟨Q3 Ix hlen _,List.getElem?_set_self hHl,?_⟩
   rcases hc with⟨h1,h2⟩|⟨g,h1,xE⟩
   ·exact .inl ⟨by rw[hs'];exact h1,h2⟩
   ·rw[←Cx]at xE
    refine .inr ⟨g,by rw[hs'];exact h1,?_⟩
    rw[List.getElem?_set_ne xE.ne,hs']
    exact xE.b2
  have run:∃W',ER pd (.op H.length 0) (.agg (bE a)) W0=some (.int .i64 (jX d s a).2,W')∧W'=W0.set H.length (.box (bl v (jX d s a).1))∧(jX d s a).1.az=s.az:=by
   unfold ER jX
   rw[show((A.cells 5 (.agg (bE a))).bind fun cs=>some (AV.rp cs))=some (.rp (bE a))from rfl,bS]
   simp only[kV,bS,JB,show A.aj 0 ((bE a).drop 1)=some (.int .i64 a.kind)from rfl,show A.aj 0 ((bE a).drop 4)=some (.int .i64 a.level)from rfl,iH,show A.aL (.op H.length 0)=some (.op H.length 0)from rfl,show ∀o,A.aA o (.op H.length 0)=some (.op H.length o)from fun o=>by simp [A.aA],zf,kN]
   by_cases k8:a.kind=8
   ·rw[if_pos k8,decide_eq_true k8,cQ,oW,bS,st0,bS,oW,bS,st _ {s with number:=IntKind.i64.wrap (s.number+1),mo:=a.level} 2 _ rfl,bS]
    exact⟨_,rfl,rfl,rfl⟩
   ·have k9:a.kind=9:=by omega
    rw[if_neg k8,decide_eq_false k8,cB,if_pos k9,decide_eq_true k9,cQ,oW,bS,st0,bS,show((A.cell (AV.bool (decide (a.level=1)))).bind fun v=>some [v])=some [.bool (decide (a.level=1))]from rfl,bS,st _ {s with number:=IntKind.i64.wrap (s.number+1),black:=decide (a.level=1)} 3 _ rfl,bS]
    exact⟨_,rfl,rfl,rfl⟩
  obtain⟨W',e1,e2,e3⟩:=run
  subst e2
  exact⟨_,Rh (iQ _) e1,fin _ e3⟩
theorem aaH (hK:wF d) (a:dR) (H:Hs bP aC σ (lX pd d*R)):∃σ',EU [pd,.agg (bE a)] σ=some (.int .i64 (lq d a).2,σ')∧Hs bP aC σ' (lX pd (lq d a).1*R):=by
 suffices h:∃σ',Kr pd (.agg (bE a)) σ=some (.int .i64 (lq d a).2,σ')∧Hs bP aC σ' (lX pd (lq d a).1*R) by
  obtain⟨σ',e,h⟩:=h
  exact⟨σ',Zc e,h⟩
 obtain⟨id,vb,aV,va,rfl,hp,H⟩:=Lu H
 have mK:=Mi H
 have aaU:=(List.getElem?_eq_some_iff.1 mK).1
 have Gt:d.actions.length≤aW:=by have:=hK.len;unfold aW;omega
 have p4:=hs_eq (show _=Sl (fl bE) 5 va d.actions*(Sl (fl aK) 10 vb d.state.az*blk id (.box (gb vb aV va d))*blk aV (.map ((d.params.getD []).map gL))*R) by unfold iP;ac_rfl) H
 have Ni:=hs_eq (show _=Sl (fl aK) 10 vb d.state.az*(blk id (.box (gb vb aV va d))*(blk aV (.map ((d.params.getD []).map gL))*Sl (fl bE) 5 va d.actions)*R) by unfold iP;ac_rfl) H
 have ca:=Mj p4
 have cb:=Mj Ni
 unfold Kr
 rw[show A.cells 5 (.agg (bE a))=some (bE a)from rfl,bS]
 simp only[show A.aL (.op id 0)=some (.op id 0)from rfl,bS,show ∀o,A.aA o (.op id 0)=some (.op id o)from fun o=>by simp [A.aA]]
 rw[show((A.deref (.op id 11) σ).bind fun c=>A.aj 0 c)=some va from by simp only[A.deref,mK];exact ca,bS,ZV p4,bS,iH,bS,quiet_of (uS _ _ σ),bS,KV,bS,quiet_of (acH (XI a)),bS,aep,bS,quiet_of (XS _ σ),bS,wY,bS,quiet_of (uS _ _ σ),bS,bS,quiet_of (Zf hp Gt H),bS,kO,bS,quiet_of (uS _ _ σ),bS,aoc,bS,quiet_of (C5 _ (by show 4≤aW;decide) σ),bS]
 rw[show((A.deref (.op id 4) σ).bind fun c=>A.ay 0 5 c)=some (.agg (bB d.setup))from by simp only[A.deref,mK];rfl,bS,bS,quiet_of (acI (X6 hK.pl a)),bS,amr,bS,quiet_of (C5 _ (by show 2≤aW;decide) σ),bS]
 have hE:(([(([(if decide ((d.actions.length:Int)=5000)=true then 2 else 0),Fy a,(if(!(aR a.time 0 36000000))=true then 1 else 0),(if decide (a.time<iy d.actions)=true then 7 else 0)]:List Int).find? fun n=>decide (¬n=0)).getD 0,Gg d.setup a]:List Int).find? fun n=>decide (¬n=0)).getD 0=Ea d a:=rfl
 rw[hE,gC,bS]
 unfold lq
 by_cases h0:Ea d a=0
 case neg=>
  rw[decide_eq_true h0,cQ,if_pos h0]
  exact⟨σ,rfl,C8 hp H⟩
 rw[decide_eq_false (fun q=>q h0),cB,if_neg (fun q=>q h0),bS]
 obtain⟨k1,k2,k3,k4,k5⟩:=Zp h0
 obtain⟨a1,a2,a3,a4⟩:=Zh hK.pl k2 k5
 have hrd:=Y3 hp H
 obtain⟨v,W,e1,e2⟩:=Yu hK.di hrd k3.2 hK.si k4 ⟨.op id 0,by simp [A.aA],by simp only[A.deref,mK];rfl⟩ (Y8 Ni)
 have IY:=PI hK.di hK.si k4 k3.2
 obtain⟨s1,hs1⟩:∃s1,s1=lN d d.state a.time:=⟨_,rfl⟩
 have hpl:a.kind≤7→∃b∈s1.az,b.number=a.iN:=by
  intro h
  obtain⟨p,hp1,hp2⟩:=a2 h
  have hn:s1.az.map (·.number)=d.setup.bk.map (·.number):=by rw[hs1,Pk];exact hK.MS
  have:a.iN∈s1.az.map (·.number):=by rw[hn,←hp2];exact List.mem_map.2 ⟨p,hp1,rfl⟩
  obtain⟨b,hb,yU⟩:=List.mem_map.1 this
  exact⟨b,hb,yU⟩
 rw[←hs1]at e1 e2 IY ⊢
 rw[e1,bS]
 simp only
 rw[show A.cells 4 (.agg (bl v s1))=some (bl v s1)from rfl,bS]
 obtain⟨x1,x2,x3,x4⟩:=QX e2
 rw[x2,bS,bS]
 obtain⟨W',w1,w2,w3,w4⟩:=ajh hK.di hrd e2 IY a1 hpl
 rw[w1,bS]
 simp only
 rw[gC,bS]
 by_cases hr:(jX d s1 a).2=0
 case neg=>
  rw[decide_eq_true hr,cQ,if_pos hr]
  obtain⟨ex,rfl⟩:=w2
  exact⟨_,rfl,C8 hp (QI H ex)⟩
 rw[decide_eq_false (fun q=>q hr),cB,if_neg (fun q=>q hr)]
 obtain⟨s2,hs2⟩:∃s2,s2=(jX d s1 a).1:=⟨_,rfl⟩
 rw[←hs2]at w3 w4 ⊢
 rw[show((A.deref (.op W.length 0) W').bind fun c=>A.ay 0 4 c)=some (.agg (bl v s2))from by simp only[A.deref,w3];rfl,bS,show A.cells 4 (.agg (bl v s2))=some (bl v s2)from rfl,bS]
 -- the new boards are the desk's own
 have K:Hs bP aC W' (blk id (.box (gb vb aV va d))*(Sl (fl aK) 10 v s2.az*(blk aV (.map ((d.params.getD []).map gL))*(Sl (fl bE) 5 va d.actions*R)))):=by
  obtain⟨ex,hex⟩:=w2
  have H':Hs bP aC W' (blk id (.box (gb vb aV va d))*(blk aV (.map ((d.params.getD []).map gL))*(Sl (fl bE) 5 va d.actions*R))):=by
   rw[hex]
   exact QI (wk (hs_eq (show _=Sl (fl aK) 10 vb d.state.az*(blk id (.box (gb vb aV va d))*(blk aV (.map ((d.params.getD []).map gL))*(Sl (fl bE) 5 va d.actions*R))) by unfold iP;ac_rfl) H)) ex
  rcases w4 with⟨q1,q2⟩|⟨g,q1,q2⟩
  ·rw[q1,q2]
   exact hs_eq (show _=_ by ac_rfl) (qZ (v:=.ez) (E:=fl aK) (sz:=10) H' (.inr rfl))
  ·rw[q1]
   have H'':=wk (hs_eq (show _=Sl (fl aK) 10 vb d.state.az*(blk id (.box (gb vb aV va d))*(blk aV (.map ((d.params.getD []).map gL))*(Sl (fl bE) 5 va d.actions*R))) by unfold iP;ac_rfl) H)
   have A1:=LF H'' ⟨ex,hex⟩ (Nat.le_succ _) q2
   exact hs_eq (show _=_ by ac_rfl) (Ms (n:=s2.az.length) A1)
 have K1:=zG (b':=.box (gb v aV va {d with state:=s2})) K trivial
 have anM:=(iD K).2
 rw[show A.storeAt (.op id 0) (bl v s2) W'=some (W'.set id (.box (gb v aV va {d with state:=s2})))from by simp only[A.storeAt,anM];rfl,bS]
 have anO:=(iD K1).2
 rw[show((A.deref (.op id 11) (W'.set id (.box (gb v aV va {d with state:=s2})))).bind fun c=>A.aj 0 c)=some va from by simp only[A.deref,anO];exact ca,bS,bS,agl,bS]
 have K2:=hs_eq (show _=Sl (fl bE) 5 va d.actions*(els (fl bE) [bE a] [a]*(blk id (.box (gb v aV va {d with state:=s2}))*(Sl (fl aK) 10 v s2.az*(blk aV (.map ((d.params.getD []).map gL))*R)))) by
  rw[show els (fl bE) [bE a] [a]=pr (bE a=bE a)*emp from rfl];ac_rfl) (mZ.2 ⟨(rfl:bE a=bE a),hs_eq (ym _).symm K1⟩)
 obtain⟨Be,W2,f1,f2⟩:=HR (most:=140737488355328 / 40) K2 (by have:=hK.len;simp;omega) (fun _ _ _ _=>trivial)
 rw[f1,bS]
 simp only
 have ca':=Mj f2
 have K3:=hs_eq (show _=blk id (.box (gb v aV va {d with state:=s2}))*(Sl (fl bE) 5 Be (d.actions++[a])*(Sl (fl aK) 10 v s2.az*(blk aV (.map ((d.params.getD []).map gL))*R))) by ac_rfl) f2
 have anP:=(iD K3).2
 have K4:=zG (b':=.box (gb v aV Be {d with state:=s2,actions:=d.actions++[a]})) K3 trivial
 rw[show((A.cell Be).bind fun v=>some [v])=some [Be]from by rw[ca'];rfl,bS,show A.storeAt (.op id 11) [Be] W2=some (W2.set id (.box (gb v aV Be {d with state:=s2,actions:=d.actions++[a]})))from by simp only[A.storeAt,anP];rfl,bS]
 exact⟨_,rfl,C8 (d:={d with state:=s2,actions:=d.actions++[a]}) hp (hs_eq (show _=iP id v aV Be {d with state:=s2,actions:=d.actions++[a]}*R by unfold iP;ac_rfl) K4)⟩
end
end
section
set_option maxRecDepth 100000
open HP
noncomputable def rU (d:bF) (s:bX) (k:aB) (t:Int):Int:=if ¬(eW d k).1=1 then(oK d s.az k t).out else if s.black=true then 0 else zh (oK d s.az k t).out s.mo
noncomputable def rW (d:bF) (t:Int):List lK×Int:=
 if ¬(sU d.actions t=0)then([],sU d.actions t)else(d.keys.map (fun k=>⟨k,rU d (lN d d.state t) k t⟩),0)
theorem ai8 {l:List dR} {t:Int} (h:sU l t=0):(0≤t∧t≤36000000)∧iy l≤t:=by
 unfold sU at h
 split at h
 ·rename_i q
  refine⟨qE q,?_⟩
  by_cases q2:t<iy l
  ·rw[decide_eq_true q2,if_pos rfl]at h;cases h
  ·omega
 ·cases h
section
variable {aC σ : Heap} {R : HP} {pd : AV} {d : bF} {B : aJ → Prop}
theorem ahl {ids:Nat} {v:AV} {s:bX} (H:Hs B aC σ (blk ids (.box (bl v s))*(Sl (fl aK) 10 v s.az*R))):Lt σ QT (.op ids 0) (.rp (rM s)):=by
 obtain⟨rj,b1,b2,b3⟩:=HS (hs_eq (show _=Sl (fl aK) 10 v s.az*(blk ids (.box (bl v s))*R) by ac_rfl) H) CZ (Nat.zero_le _) 6
 have hg:=(iD H).2
 refine⟨⟨.rp [rj,.int .i64 s.number,.int .i64 s.mo,.bool s.black],?_,rfl,?_⟩,rfl,fun h=>by cases h⟩
 ·simp only[A.bw,Nat.not_lt_zero,if_false,hg,List.drop_zero,bl,A.tN,b1,Option.bind_some,Option.map_some]
 ·show AV.rp (A.bW [(.s 10),.k,.k,.k] _)=AV.rp (A.bW [(.s 10),.k,.k,.k] (rM s))
  congr 1
  unfold rM
  simp only[A.bW,b3]
  rfl
theorem ajR {id:Nat} {vb:AV} {aV:Nat} {va:AV} (hp:d.params.isSome=true) {ids:Nat} {v:AV} {s:bX} (H:Hs B aC σ (iP id vb aV va d*(blk ids (.box (bl v s))*(Sl (fl aK) 10 v s.az*R)))) (hI:sV d) {t:Int} (hs:jk t s) (k:aB):CO [.op id 0,.op ids 0,.agg (aO k),.int .i64 t] σ=some (.int .i64 (rU d s k t),σ):=by
 have Jf:∀b∈s.az,rP b t:=fun b hb=>(hs.bs b hb).ok (Int.le_refl _) hs.n.2
 exact As (cM:=[.op id 0,.op ids 0,.agg (aO k),.int .i64 t]) (ts:=[.rp (qA d),.rp (rM s),.agg (aO k),.int .i64 t]) ⟨L6 hp H,ahl (wk H),MC (wq (zy k)) rfl,Q6 t,trivial⟩ (fun σ=>ajS (by have:=hs.len;unfold aW;omega) Jf hs.mo (fun _=>ZG hI Jf) σ) rfl
theorem aj5 (k:aB) (n:Int):(((A.cells 2 (.agg (aO k))).bind fun eF=>(A.splice 0 eF [ah,br,ah]).bind fun gr=>((A.cell (.int .i64 n)).bind fun v=>some [v]).bind fun gO=>(A.splice 2 gO gr).bind fun fM=>some fM).bind fun cs=>some (AV.agg cs))=some (.agg (dX ⟨k,n⟩)):=rfl
theorem akz (x:lK):(((A.cells 3 (.agg (dX x))).bind fun nQ=>(A.splice 0 nQ [ah,br,ah]).bind fun oG=>some oG).bind fun cs=>some (AV.sl 3 (chunks 3 1 cs)))=some (.sl 3 [dX x]):=rfl
theorem aeX {id:Nat} {vb:AV} {aV:Nat} {va:AV} (hp:d.params.isSome=true) {ids:Nat} {v:AV} {s:bX} (hI:sV d) {t:Int} (hs:jk t s) (hk:d.keys.length≤1000000) {i:Nat} {k:aB} (hi:d.keys[i]? =some k) {vo:AV} {out:List lK} (ho:out.length≤1000000) (H:Hs bP aC σ (iP id vb aV va d*(blk ids (.box (bl v s))*(Sl (fl aK) 10 v s.az*(Sl (fl dX) 3 vo out*R))))):
  ∃ gH σ', ((fun v11 kK =>
    (A.lss (v11.getD 1 AV.undef) (AV.int .i64 (d.keys.length:Int))).bind fun dc=>
    A.cond dc (
     (A.aU 2 (sl 2 aO d.keys) (v11.getD 1 AV.undef)).bind fun cU=>
     ((A.deref cU kK).bind fun mE=>A.ay 0 2 mE).bind fun cG=>
     (A.cells 2 cG).bind fun iZ=>
     (A.splice 0 iZ [ah,br]).bind fun gM=>
     (A.ay 0 2 gM).bind fun dg=>
     (A.ay 0 2 gM).bind fun bM=>
     (A.quiet (CO [(AV.op id 0),(AV.op ids 0),bM,(AV.int .i64 t)] kK) kK).bind fun dh=>
     (((A.cells 2 dg).bind fun eF=>(A.splice 0 eF [ah,br,ah]).bind fun gr=>((A.cell dh).bind fun v=>some [v]).bind fun gO=>(A.splice 2 gO gr).bind fun fM=>some fM).bind fun cs=>some (AV.agg cs)).bind fun dK=>
     (((A.cells 3 dK).bind fun nQ=>(A.splice 0 nQ [ah,br,ah]).bind fun oG=>some oG).bind fun cs=>some (AV.sl 3 (chunks 3 1 cs))).bind fun cH=>
     (A.append 3 (140737488355328 / 32) (v11.getD 0 AV.undef) cH kK).bind fun sD=>
     (A.add (v11.getD 1 AV.undef) aG).bind fun x32=>
     some (AX.normal,[sD.1,x32],sD.2)) (
     some (AX.exit 0,[(v11.getD 0 AV.undef),(v11.getD 1 AV.undef)],kK)))) [vo,.int .i64 (i:Int)] σ=some (.normal,[gH,.int .i64 ((i+1:Nat):Int)],σ')∧Hs bP aC σ' (iP id vb aV va d*(blk ids (.box (bl v s))*(Sl (fl aK) 10 v s.az*(Sl (fl dX) 3 gH (out++[⟨k,rU d s k t⟩])*R)))):=by
 simp only[List.getD_cons_zero,List.getD_cons_succ]
 rw[jF hi,bS,cQ,iO hi,bS,nv,bS,rJ,bS,Da,bS,HI _ _ rfl,bS,rJ,bS,bS,quiet_of (ajR hp H hI hs k),bS,aj5,bS,akz,bS]
 have K2:=hs_eq (show _=Sl (fl dX) 3 vo out*(els (fl dX) [dX ⟨k,rU d s k t⟩] [⟨k,rU d s k t⟩]*(iP id vb aV va d*(blk ids (.box (bl v s))*(Sl (fl aK) 10 v s.az*R)))) by
  rw[show els (fl dX) [dX ⟨k,rU d s k t⟩] [⟨k,rU d s k t⟩]=pr (dX ⟨k,rU d s k t⟩=dX ⟨k,rU d s k t⟩)*emp from rfl];ac_rfl) (mZ.2 ⟨(rfl:dX ⟨k,rU d s k t⟩=dX ⟨k,rU d s k t⟩),hs_eq (ym _).symm H⟩)
 obtain⟨gH,σ',f1,f2⟩:=HR (most:=140737488355328 / 32) K2 (by simp;omega) (fun _ _ _ _=>trivial)
 rw[f1,bS]
 simp only
 rw[gd hi (by unfold aW;omega),bS]
 exact⟨gH,σ',rfl,hs_eq (by ac_rfl) f2⟩
theorem Wq (hK:wF d) (hk:d.keys.length≤1000000) (t:Int) (H:Hs bP aC σ (lX pd d*R)):∃v σ',Ke [pd,.int .i64 t] σ=some (.aH [v,.int .i64 (rW d t).2],σ')∧Hs bP aC σ' (Sl (fl dX) 3 v (rW d t).1*(lX pd d*R)):=by
 suffices h:∃v σ',Kg pd (.int .i64 t) σ=some (.aH [v,.int .i64 (rW d t).2],σ')∧Hs bP aC σ' (Sl (fl dX) 3 v (rW d t).1*(lX pd d*R)) by
  obtain⟨v,σ',e,h⟩:=h
  exact⟨v,σ',Zc e,h⟩
 obtain⟨id,vb,aV,va,rfl,hp,H⟩:=Lu H
 have Gt:d.actions.length≤aW:=by have:=hK.len;unfold aW;omega
 have mK:=Mi H
 have Ni:=hs_eq (show _=Sl (fl aK) 10 vb d.state.az*(blk id (.box (gb vb aV va d))*(blk aV (.map ((d.params.getD []).map gL))*Sl (fl bE) 5 va d.actions)*R) by unfold iP;ac_rfl) H
 unfold Kg rW
 rw[alI hp Gt H,bS]
 simp only
 rw[gC,bS]
 by_cases h0:sU d.actions t=0
 case neg=>
  rw[decide_eq_true h0,cQ,if_pos h0]
  exact⟨.au,σ,rfl,qZ (C8 hp H) (.inl rfl)⟩
 rw[decide_eq_false (fun q=>q h0),cB,if_neg (fun q=>q h0)]
 obtain⟨t1,t2⟩:=ai8 h0
 have hrd:=Y3 hp H
 obtain⟨v,W,e1,e2⟩:=Yu hK.di hrd t1.2 hK.si t2 ⟨.op id 0,by simp [A.aA],by simp only[A.deref,mK];rfl⟩ (Y8 Ni)
 have IY:=PI hK.di hK.si t2 t1.2
 obtain⟨s1,hs1⟩:∃s1,s1=lN d d.state t:=⟨_,rfl⟩
 rw[←hs1]at e1 e2 IY ⊢
 rw[e1,bS]
 simp only
 rw[show A.cells 4 (.agg (bl v s1))=some (bl v s1)from rfl,bS]
 obtain⟨x1,x2,x3,x4⟩:=QX e2
 rw[x2,bS]
 obtain⟨ids,Sj⟩:∃ids,ids=W.length:=⟨_,rfl⟩
 obtain⟨W0,Cx⟩:∃W0,W0=W++[aJ.box (bl v s1)]:=⟨_,rfl⟩
 rw[←Sj]at x3 x4 ⊢
 rw[←Cx]at x3 x4 ⊢
 have Ix:∃ex,W0=σ++ex:=by rw[Cx];obtain⟨ex,rfl⟩:=x1;exact⟨_,List.append_assoc _ _ _⟩
 have hlen:σ.length≤ids:=by rw[Sj];obtain⟨ex,rfl⟩:=x1;simp
 have K:Hs bP aC W0 (iP id vb aV va d*(blk ids (.box (bl v s1))*(Sl (fl aK) 10 v s1.az*(Sl (fl dX) 3 .au []*R)))):=by
  rcases x4 with⟨q1,q2⟩|⟨g,q1,q2⟩
  ·have A1:=LF H Ix hlen x3
   rw[q2,q1]
   rw[q2]at A1
   have A2:=qZ (v:=.ez) (E:=fl aK) (sz:=10) (qZ (v:=.au) (E:=fl dX) (sz:=3) A1 (.inl rfl)) (.inr rfl)
   exact hs_eq (by ac_rfl) A2
  ·obtain⟨ex,hex⟩:=Ix
   obtain⟨exW,anS⟩:=x1
   -- the boards first, then the box
   have hA:∃ex',W=σ++ex':=⟨exW,anS⟩
   have yU:W[σ.length+1]? =some (.arr g 10 (s1.az.map aK)):=by
    have:=q2.b2
    rcases e2 with⟨z1,z2,_⟩|⟨g',z1,z2⟩
    ·rw[q1]at z2;cases z2
    ·have hl:σ.length+1<W.length:=by rw[z2];simp
     rw[Cx,List.getElem?_append_left hl]at this
     exact this
   have A1:=LF H hA (Nat.le_succ _) yU
   have A2:=LF A1 (W:=W0) ⟨_,Cx⟩ (by rw[Sj];exact Nat.le_refl _) x3
   rw[q1]
   rw[q1]at A2
   have A3:=qZ (v:=.au) (E:=fl dX) (sz:=3) A2 (.inl rfl)
   have A4:=hs_eq (show _=blk (σ.length+1) (.arr g 10 (s1.az.map aK))*(iP id vb aV va d*(blk ids (.box (bl (.os (σ.length+1) g 10 0 s1.az.length) s1))*(Sl (fl dX) 3 .au []*R))) by ac_rfl) A3
   exact hs_eq (by ac_rfl) (Ms (n:=s1.az.length) A4)
 simp only[show A.aL (.op id 0)=some (.op id 0)from rfl,bS,show ∀o,A.aA o (.op id 0)=some (.op id o)from fun o=>by simp [A.aA]]
 have anN:=Mi K
 rw[show((A.deref (.op id 9) W0).bind fun c=>A.aj 0 c)=some (sl 2 aO d.keys)from by simp only[A.deref,anN];rfl,bS,fE,bS]
 have hL:∃q,A.loop ((fun v11 kK=>
    (A.lss (v11.getD 1 AV.undef) (AV.int .i64 (d.keys.length:Int))).bind fun dc=>
    A.cond dc (
     (A.aU 2 (sl 2 aO d.keys) (v11.getD 1 AV.undef)).bind fun cU=>
     ((A.deref cU kK).bind fun mE=>A.ay 0 2 mE).bind fun cG=>
     (A.cells 2 cG).bind fun iZ=>
     (A.splice 0 iZ [ah,br]).bind fun gM=>
     (A.ay 0 2 gM).bind fun dg=>
     (A.ay 0 2 gM).bind fun bM=>
     (A.quiet (CO [(AV.op id 0),(AV.op ids 0),bM,(AV.int .i64 t)] kK) kK).bind fun dh=>
     (((A.cells 2 dg).bind fun eF=>(A.splice 0 eF [ah,br,ah]).bind fun gr=>((A.cell dh).bind fun v=>some [v]).bind fun gO=>(A.splice 2 gO gr).bind fun fM=>some fM).bind fun cs=>some (AV.agg cs)).bind fun dK=>
     (((A.cells 3 dK).bind fun nQ=>(A.splice 0 nQ [ah,br,ah]).bind fun oG=>some oG).bind fun cs=>some (AV.sl 3 (chunks 3 1 cs))).bind fun cH=>
     (A.append 3 (140737488355328 / 32) (v11.getD 0 AV.undef) cH kK).bind fun sD=>
     (A.add (v11.getD 1 AV.undef) aG).bind fun x32=>
     some (AX.normal,[sD.1,x32],sD.2)) (
     some (AX.exit 0,[(v11.getD 0 AV.undef),(v11.getD 1 AV.undef)],kK)))) [.au,.int .i64 0] W0=some q∧∃vo u W',q=(.exit 0,[vo,u],W')∧Hs bP aC W' (iP id vb aV va d*(blk ids (.box (bl v s1))*(Sl (fl aK) 10 v s1.az*(Sl (fl dX) 3 vo (d.keys.map (fun k=>⟨k,rU d s1 k t⟩))*R)))):=by
  refine mT (fun z u w=>∃(i:Nat) (vo:AV),i≤d.keys.length∧u=[vo,.int .i64 (i:Int)]∧z=d.keys.length-i∧Hs bP aC w (iP id vb aV va d*(blk ids (.box (bl v s1))*(Sl (fl aK) 10 v s1.az*(Sl (fl dX) 3 vo ((d.keys.take i).map (fun k=>⟨k,rU d s1 k t⟩))*R))))) ?_ (n:=d.keys.length) ⟨0,.au,Nat.zero_le _,rfl,rfl,K⟩
  rintro z u w ⟨i,vo,hi,rfl,hz,K⟩
  by_cases h:i<d.keys.length
  ·have hx:d.keys[i]? =some d.keys[i]:=List.getElem?_eq_getElem h
   obtain⟨gH,σ',f1,f2⟩:=aeX hp hK.di IY hk hx (by simp;omega) K
   refine .inl ⟨d.keys.length-(i+1),_,_,by omega,f1,i+1,gH,h,rfl,rfl,?_⟩
   rw[List.take_add_one,hx,Option.toList_some,List.map_append,List.map_cons,List.map_nil]
   exact f2
  ·have:i=d.keys.length:=by omega
   subst this
   rw[List.take_length]at K
   refine .inr ⟨(.exit 0,[vo,.int .i64 (d.keys.length:Int)],w),?_,by simp,vo,_,w,rfl,K⟩
   simp only[List.getD_cons_zero,List.getD_cons_succ]
   rw[jD,bS,cB]
 obtain⟨q,l1,vo,u,W',rfl,K'⟩:=hL
 refine⟨vo,W',?_,?_⟩
 ·refine(congrArg (fun z=>Option.bind z _) l1).trans ?_
  rw[bS]
  simp only[mJ,List.getD_cons_zero]
 ·have K2:=wk (hs_eq (show _=(blk ids (.box (bl v s1))*Sl (fl aK) 10 v s1.az)*(iP id vb aV va d*(Sl (fl dX) 3 vo (d.keys.map (fun k=>⟨k,rU d s1 k t⟩))*R)) by ac_rfl) K')
  have K3:=C8 hp K2
  exact hs_eq (by ac_rfl) K3
theorem ajs {α:Type} {c:α→List AV} {sz most:Nat} {v:AV} {l:List α} (hl:l.length≤most) (H:Hs bP aC σ (Sl (fl c) sz v l*R)) {r0:AV→Heap→Option (AV×Heap)} (hr:∀a σ,r0 a σ=(A.pY a AV.au).bind fun x1=>A.cond x1 (some (AV.au,σ)) ((A.append sz most AV.ez a σ).bind fun r2=>some (r2.1,r2.2))):
  ∃v' σ',A.qv (A.wrap false [] .k (A.cD r0)) [v] σ=some (v',σ')∧Hs bP aC σ' (Sl (fl c) sz v' l*(Sl (fl c) sz v l*R)):=by
 rcases vX H with⟨rfl,hv,K⟩|⟨id,g,rfl,K⟩
 ·refine⟨.ez,σ,?_,qZ H (.inr rfl)⟩
  rcases hv with rfl|rfl<;>rfl
 ·by_cases h0:l=[]
  ·subst h0
   exact⟨.ez,σ,rfl,qZ H (.inr rfl)⟩
  obtain⟨n,hn⟩:∃n,l.length=n+1:=by
   cases h:l with
   |nil=>exact absurd h h0
   |cons b l=>exact⟨l.length,rfl⟩
  have hg:=(iD K).2
  have e0:A.qv (A.wrap false [] .k (A.cD r0)) [.os id g sz 0 l.length] σ=A.wrap false [] .k (A.cD r0) [.os id g sz 0 l.length] σ:=by rw[hn];rfl
  have e1:A.cD r0 [.os id g sz 0 l.length] σ=some (.os σ.length l.length sz 0 l.length,σ++[.arr l.length sz (l.map c)]):=by
   show r0 (.os id g sz 0 l.length) σ=_
   rw[hr,show A.pY (.os id g sz 0 l.length) .au=some (.bool false)from rfl,bS,cB]
   have hel:A.elems sz (.os id g sz 0 l.length) σ=some (l.map c):=by
    simp only[A.elems,hg]
    simp [List.take_of_length_le]
   have hne:l.map c≠[]:=by simpa using h0
   have hap:A.append sz most .ez (.os id g sz 0 l.length) σ=some (.os σ.length l.length sz 0 l.length,σ++[.arr l.length sz (l.map c)]):=by
    unfold A.append
    rw[hel,bS]
    simp only[A.sM,if_neg hne,List.length_map]
    rw[if_pos hl]
   rw[hap,bS]
  refine⟨.os σ.length l.length sz 0 l.length,σ++[.arr l.length sz (l.map c)],?_,?_⟩
  ·rw[e0]
   simp only[A.wrap,Bool.false_and,cond_false,A.bW,e1,Option.map_some,iQ]
  ·exact Ms (n:=l.length) (FK H trivial)
theorem agI (hl:d.actions.length≤5000) (H:Hs bP aC σ (lX pd d*R)):∃v σ',NV [pd] σ=some (v,σ')∧Hs bP aC σ' (Sl (fl bE) 5 v d.actions*(lX pd d*R)):=by
 obtain⟨id,vb,aV,va,rfl,hp,H⟩:=Lu H
 have mK:=Mi H
 have p4:=hs_eq (show _=Sl (fl bE) 5 va d.actions*(Sl (fl aK) 10 vb d.state.az*blk id (.box (gb vb aV va d))*blk aV (.map ((d.params.getD []).map gL))*R) by unfold iP;ac_rfl) H
 obtain⟨v',σ',f1,f2⟩:=ajs (most:=140737488355328 / 40) (by omega) p4 (r0:=NG) (fun _ _=>rfl)
 refine⟨v',σ',?_,?_⟩
 ·have e:EM (.op id 0) σ=some (v',σ'):=by
   unfold EM
   rw[show A.aL (.op id 0)=some (.op id 0)from rfl,bS,show A.aA 11 (.op id 0)=some (.op id 11)from by simp [A.aA],bS,show((A.deref (.op id 11) σ).bind fun c=>A.aj 0 c)=some va from by simp only[A.deref,mK];exact Mj p4,bS,show J7 [va] σ=some (v',σ')from f1,bS]
  have:A.cD EM [.op id 0] σ=some (v',σ'):=e
  show A.wrap false [] .k (A.cD EM) [.op id 0] σ=_
  simp only[A.wrap,Bool.false_and,cond_false,A.bW,this,Option.map_some,iQ]
 ·have K:=hs_eq (show _=iP id vb aV va d*(Sl (fl bE) 5 v' d.actions*R) by unfold iP;ac_rfl) f2
  exact hs_eq (by ac_rfl) (C8 hp K)
theorem akX (hl:d.actions.length≤5000) (H:Hs bP aC σ (lX pd d*R)):Bk [pd] σ=some (.int .i64 (iy d.actions),σ):=by
 obtain⟨id,vb,aV,va,rfl,hp,H⟩:=Lu H
 exact Zf hp (by unfold aW;omega) H
end
end
section
set_option maxRecDepth 100000
open HP
structure FR (s : fU) : Prop where
 gG:s.aQ.aY.length≤1000000
 par:∀p∈s.aQ.aY,p.params.length≤1000000∧∀q∈p.params,q.ranges.length≤1000000
 un:s.aQ.units.length≤1000000
 pre:s.bH.length≤1000000∧∀p∈s.bH,p.jK.length≤1000000
 No:s.lists.length≤1000000
 bQ:∀l∈s.lists,l.bD.length≤1000000∧∀c∈l.bD,c.dw.length≤1000000∧c.fu.points.length≤1000000
 pl:s.bk.length≤1000000
theorem E9 {α:Type} {c:α→List AV} {sz most:Nat} {l:List α} {m:List AV→Heap→Option (AV×Heap)} {r0:AV→Heap→Option (AV×Heap)} (hc:∀x,iX (c x)) (hm:m=A.qv (A.wrap true [(.s sz)] .k (A.cD r0))) (hr:∀a σ,r0 a σ=(A.pY a .au).bind fun x1=>A.cond x1 (some (.au,σ)) ((A.append sz most .ez a σ).bind fun r2=>some (r2.1,r2.2))) (hl:l.length≤most) (σ:Heap):A.jl (.s sz) m [sl sz c l] σ=some (sl sz c l,σ):=by
 obtain⟨v,σ',e1,_,K⟩:=Qx (B:=bP) (r:=fun _ _=>none) hm hr hl (fun _ _ _ _=>trivial) (HQ σ)
 obtain⟨v',e2,e3⟩:=ajH hc K
 unfold A.jl
 rw[e1,Option.bind_some]
 simp only
 rw[e2,Option.map_some]
 simp only
 rw[e3]
theorem amz {σ:Heap} {id:Nat} {b:aJ} (h:σ[id]? =some b):σ.set id b=σ:=by
 obtain⟨hl,rfl⟩:=List.getElem?_eq_some_iff.1 h
 exact List.set_getElem_self hl
theorem agD {W:Heap} {id g sz i o:Nat} {rows:List (List AV)} {row new:List AV} (h:W[id]? =some (.arr g sz rows)) (hr:rows[i]? =some row) (hs:A.splice o new row=some row):A.storeAt (.oe id g i o) new W=some W:=by
 simp only[A.storeAt,h,if_true,hr,Option.bind_some,hs,Option.map_some]
 obtain⟨hl,rfl⟩:=List.getElem?_eq_some_iff.1 hr
 rw[List.set_getElem_self hl,amz h]
def Dt {α:Type} (c:α→List AV) (sz:Nat) (W:Heap) (v:AV) (l:List α):Prop:=(l=[]∧(v=.au∨v=.ez))∨∃id g,v=.os id g sz 0 l.length∧W[id]? =some (.arr g sz (l.map c))
theorem Y6 {α:Type} {c:α→List AV} {sz:Nat} {B:aJ→Prop} {aC σ:Heap} {R:HP} {v:AV} {l:List α} (H:Hs B aC σ (Sl (fl c) sz v l*R)):Dt c sz σ v l:=by
 rcases vX H with⟨h1,h2,_⟩|⟨id,g,h1,K⟩
 ·exact .inl ⟨h1,h2⟩
 ·exact .inr ⟨id,g,h1,(iD K).2⟩
theorem Dt.len {α:Type} {c:α→List AV} {sz:Nat} {W:Heap} {v:AV} {l:List α} (h:Dt c sz W v l):A.bG v=some (.int .i64 (l.length:Int)):=by
 rcases h with⟨rfl,rfl|rfl⟩|⟨id,g,rfl,_⟩<;>rfl
theorem Dt.at {α:Type} {c:α→List AV} {sz:Nat} {W:Heap} {v:AV} {l:List α} (h:Dt c sz W v l) {i:Nat} {x:α} (hx:l[i]? =some x):∃id g,A.aU sz v (.int .i64 (i:Int))=some (.oe id g i 0)∧(∀o,A.deref (.oe id g i o) W=some ((c x).drop o))∧∀o new,A.splice o new (c x)=some (c x)→A.storeAt (.oe id g i o) new W=some W:=by
 have hi:=(List.getElem?_eq_some_iff.1 hx).1
 rcases h with⟨rfl,_⟩|⟨id,g,rfl,hg⟩
 ·simp at hx
 ·have hr:(l.map c)[i]? =some (c x):=by rw[List.getElem?_map,hx];rfl
  refine⟨id,g,?_,fun o=>?_,fun o new hs=>agD hg hr hs⟩
  ·have:((i:Int)<(l.length:Int)):=by omega
   simp [A.aU,A.idx,this]
  ·simp only[A.deref,hg,if_true,hr,Option.map_some]
theorem QE {α:Type} {c:α→List AV} {sz:Nat} {B:aJ→Prop} {aC σ:Heap} {R:HP} {v:AV} {l:List α} (H:Hs B aC σ (Sl (fl c) sz v l*R)) (hc:∀x,iX (c x)) {n:Nat} (hn:n≤aC.length) (d:Nat):∃v',A.bw σ n (d+1) v=some v'∧((l=[]∧(v'=.au∨v'=.ez))∨v'=sl sz c l):=by
 rcases vX H with⟨rfl,rfl|rfl,_⟩|⟨id,g,rfl,K⟩
 ·exact⟨.au,by simp [A.bw],.inl ⟨rfl,.inl rfl⟩⟩
 ·exact⟨.ez,by simp [A.bw],.inl ⟨rfl,.inr rfl⟩⟩
 ·obtain⟨h1,h2⟩:=iD K
  exact⟨_,HO hc h2 (by omega) d,.inr rfl⟩
def uZ:List AV→cV→HP:=fun e x=>ex fun vp=>pr (e=[.str x.name,.int .i64 x.size,vp])*Sl (fl eU) 7 vp x.params
def uY:List AV→iU→HP:=fun e x=>ex fun vc=>pr (e=[.int .i64 x.number,vc])*Sl (fl aZ) 11 vc x.bD
section
variable {B : aJ → Prop} {aC σ : Heap} {R : HP} {e : List AV}
theorem aav {x:cV}:Hs B aC σ (uZ e x*R)↔∃vp,e=[.str x.name,.int .i64 x.size,vp]∧Hs B aC σ (Sl (fl eU) 7 vp x.params*R):=by
 unfold uZ
 rw[My]
 constructor
 ·rintro⟨vp,H⟩;rw[tJ,mZ]at H;exact⟨vp,H⟩
 ·rintro⟨vp,H⟩;exact⟨vp,by rw[tJ,mZ];exact H⟩
theorem aat {x:iU}:Hs B aC σ (uY e x*R)↔∃vc,e=[.int .i64 x.number,vc]∧Hs B aC σ (Sl (fl aZ) 11 vc x.bD*R):=by
 unfold uY
 rw[My]
 constructor
 ·rintro⟨vp,H⟩;rw[tJ,mZ]at H;exact⟨vp,H⟩
 ·rintro⟨vp,H⟩;exact⟨vp,by rw[tJ,mZ];exact H⟩
abbrev MG:List Sh:=[.k,.k,.k,.k,.k,.k,(.s 3)]
theorem Wx:∀{seg:List (List AV)} {l:List cV} {R:HP},Hs B aC σ (els uZ seg l*R)→∀{n:Nat},n≤aC.length→∀(d:Nat),∃ud,A.jh σ n (d+1) seg=some ud∧ud.map (A.bW [.k,.k,(.e 7 MG)])=l.map ck
 |[],[],R,H,n,hn,d=>⟨[],by simp [A.jh],rfl⟩
 |[],_::_,R,H,n,hn,d=>(mZ.1 H).1.elim
 |_::_,[],R,H,n,hn,d=>(mZ.1 H).1.elim
 |e::seg,x::l,R,H,n,hn,d=>by
  rw[els,tJ]at H
  obtain⟨vp,he,K⟩:=aav.1 H
  obtain⟨v',h1,h2⟩:=QE K PU hn d
  obtain⟨ud,k1,k2⟩:=Wx (wk H) hn d
  refine⟨[.str x.name,.int .i64 x.size,v']::ud,?_,?_⟩
  ·rw[he];simp [A.jh,A.eO,A.bw,h1,k1]
  ·have:A.nn (.e 7 MG) v'=sl 7 eU x.params:=by
    rcases h2 with⟨h2,rfl|rfl⟩|rfl
    ·rw[h2];rfl
    ·rw[h2];rfl
    ·exact tY (fun _=>rfl) _
   rw[List.map_cons,k2,List.map_cons]
   congr 1
   simp only[A.bW,iQ,this]
   rfl
theorem Ww:∀{seg:List (List AV)} {l:List iU} {R:HP},Hs B aC σ (els uY seg l*R)→∀{n:Nat},n≤aC.length→∀(d:Nat),∃ud,A.jh σ n (d+1) seg=some ud∧ud.map (A.bW [.k,(.e 11 FW)])=l.map dQ
 |[],[],R,H,n,hn,d=>⟨[],by simp [A.jh],rfl⟩
 |[],_::_,R,H,n,hn,d=>(mZ.1 H).1.elim
 |_::_,[],R,H,n,hn,d=>(mZ.1 H).1.elim
 |e::seg,x::l,R,H,n,hn,d=>by
  rw[els,tJ]at H
  obtain⟨vp,he,K⟩:=aat.1 H
  obtain⟨v',h1,h2⟩:=QE K L5 hn d
  obtain⟨ud,k1,k2⟩:=Ww (wk H) hn d
  refine⟨[.int .i64 x.number,v']::ud,?_,?_⟩
  ·rw[he];simp [A.jh,A.eO,A.bw,h1,k1]
  ·have:A.nn (.e 11 FW) v'=sl 11 aZ x.bD:=by
    rcases h2 with⟨h2,rfl|rfl⟩|rfl
    ·rw[h2];rfl
    ·rw[h2];rfl
    ·exact tY (fun _=>rfl) _
   rw[List.map_cons,k2,List.map_cons]
   congr 1
   simp only[A.bW,iQ,this]
   rfl
theorem aiS {v:AV} {l:List cV} (H:Hs B aC σ (Sl uZ 3 v l*R)) {n:Nat} (hn:n≤aC.length) (d:Nat):∃v',A.bw σ n (d+2) v=some v'∧A.nn (.e 3 [.k,.k,(.e 7 MG)]) v'=sl 3 ck l:=by
 rcases zu H with⟨rfl,rfl|rfl,_⟩|⟨id,g,seg,rfl,hl,H⟩
 ·exact⟨.au,by simp [A.bw],rfl⟩
 ·exact⟨.ez,by simp [A.bw],rfl⟩
 ·obtain⟨h1,h2⟩:=iD H
  obtain⟨ud,k1,k2⟩:=Wx (hs_eq (show _=els uZ seg l*(blk id (.arr g 3 seg)*R) by ac_rfl) H) hn d
  refine⟨.sl 3 ud,?_,?_⟩
  ·simp only[A.bw,if_neg (show ¬id<n by omega),h2]
   rw[if_pos (by simp;omega),List.drop_zero,List.take_of_length_le (by omega),Fj,k1]
   rfl
  ·simp only[A.nn,k2];rfl
theorem aiz {v:AV} {l:List iU} (H:Hs B aC σ (Sl uY 2 v l*R)) {n:Nat} (hn:n≤aC.length) (d:Nat):∃v',A.bw σ n (d+2) v=some v'∧A.nn (.e 2 [.k,(.e 11 FW)]) v'=sl 2 dQ l:=by
 rcases zu H with⟨rfl,rfl|rfl,_⟩|⟨id,g,seg,rfl,hl,H⟩
 ·exact⟨.au,by simp [A.bw],rfl⟩
 ·exact⟨.ez,by simp [A.bw],rfl⟩
 ·obtain⟨h1,h2⟩:=iD H
  obtain⟨ud,k1,k2⟩:=Ww (hs_eq (show _=els uY seg l*(blk id (.arr g 2 seg)*R) by ac_rfl) H) hn d
  refine⟨.sl 2 ud,?_,?_⟩
  ·simp only[A.bw,if_neg (show ¬id<n by omega),h2]
   rw[if_pos (by simp;omega),List.drop_zero,List.take_of_length_le (by omega),Fj,k1]
   rfl
  ·simp only[A.nn,k2];rfl
end
section
variable {aC σ : Heap} {R : HP}
theorem It {α β A1 A2:Type} {X:Option α} {v:α} {f:α→Option β} {g:A1→A2→β} {Q:A1→A2→Prop} (e:X=some v) (k:∃a b,f v=some (g a b)∧Q a b):∃a b,X.bind f=some (g a b)∧Q a b:=by
 rw[e];exact k
theorem R4 {α β A1:Type} {X:Option α} {v:α} {f:α→Option β} {g:A1→β} {Q:A1→Prop} (e:X=some v) (k:∃a,Q a∧f v=some (g a)):∃a,Q a∧X.bind f=some (g a):=by
 rw[e];exact k
theorem zP {α:Type} {E:List AV→α→HP} {sz:Nat} {B:aJ→Prop} {v:AV} {l:List α} (H:Hs B aC σ (Sl E sz v l*R)):A.cell v=some v:=by
 rcases zu H with⟨_,rfl|rfl,_⟩|⟨id,g,seg,rfl,_⟩<;>rfl
theorem ajv {W:Heap} {x:cV} {pv:AV} (hx:∀q∈x.params,q.ranges.length≤1000000) (hl:x.params.length≤1000000) (h:Dt eU 7 W pv x.params) (u0 u1 u2:AV):A.loop ((fun v30 jR=>
      (A.lss (v30.getD 4 AV.undef) (AV.int .i64 (x.params.length:Int))).bind fun ey=>
      A.cond ey (
       ((A.lb (v30.getD 3 AV.undef)).bind fun _=>some (2)).bind fun xI=>
       ((A.lb (v30.getD 3 AV.undef)).bind fun gX=>A.aj xI gX).bind fun gI=>
       ((A.lb (v30.getD 3 AV.undef)).bind fun _=>some (2)).bind fun A7=>
       ((A.lb (v30.getD 3 AV.undef)).bind fun lg=>A.aj A7 lg).bind fun ff=>
       (A.aU 7 ff (v30.getD 4 AV.undef)).bind fun cZ=>
       (A.aA 6 cZ).bind fun dW=>
       ((A.deref dW jR).bind fun lR=>A.aj 0 lR).bind fun fJ=>
       (A.quiet ((A.jl (.s 3) CI) [fJ] jR) jR).bind fun eR=>
       (A.aU 7 gI (v30.getD 4 AV.undef)).bind fun ef=>
       (A.aA 6 ef).bind fun fK=>
       ((A.cell eR).bind fun v=>some [v]).bind fun gZ=>
       (A.storeAt fK gZ jR).bind fun mG=>
       (A.add (v30.getD 4 AV.undef) aG).bind fun eA=>
       some (AX.normal,[(v30.getD 0 AV.undef),(v30.getD 1 AV.undef),(v30.getD 2 AV.undef),(v30.getD 3 AV.undef),eA],mG)) (
       some (AX.exit 2,[(v30.getD 0 AV.undef),(v30.getD 1 AV.undef),(v30.getD 2 AV.undef),(v30.getD 3 AV.undef),(v30.getD 4 AV.undef)],jR)))) [u0,u1,u2,.lbx [.str x.name,.int .i64 x.size,pv],.int .i64 0] W=some (.exit 2,[u0,u1,u2,.lbx [.str x.name,.int .i64 x.size,pv],.int .i64 (x.params.length:Int)],W):=by
 refine AT (mT (Q:=fun q=>q=(.exit 2,[u0,u1,u2,.lbx [.str x.name,.int .i64 x.size,pv],.int .i64 (x.params.length:Int)],W)) (fun z v w=>∃i:Nat,i≤x.params.length∧v=[u0,u1,u2,.lbx [.str x.name,.int .i64 x.size,pv],.int .i64 (i:Int)]∧w=W∧z=x.params.length-i) ?_ (n:=x.params.length) ⟨0,Nat.zero_le _,rfl,rfl,rfl⟩)
 have hc:A.cell pv=some pv:=by rcases h with⟨_,rfl|rfl⟩|⟨id,g,rfl,_⟩<;>rfl
 rintro z v w ⟨i,hi,rfl,rfl,hz⟩
 by_cases hlt:i<x.params.length
 ·have hq:x.params[i]? =some x.params[i]:=List.getElem?_eq_getElem hlt
  obtain⟨id,g,e1,e2,e3⟩:=h.at hq
  refine .inl ⟨x.params.length-(i+1),_,_,by omega,?_,i+1,hlt,rfl,rfl,rfl⟩
  simp only[List.getD_cons_zero,List.getD_cons_succ]
  have hp2:A.aj 2 [.str x.name,.int .i64 x.size,pv]=some pv:=hc
  rw[jF hq,bS,cQ]
  simp only[hG,bS,hp2,e1,show ∀o,A.aA o (.oe id g i 0)=some (.oe id g i o)from fun o=>by simp [A.aA],e2]
  rw[show A.aj 0 ((eU x.params[i]).drop 6)=some (sl 3 mm x.params[i].ranges)from rfl,bS,quiet_of (E9 (most:=140737488355328 / 32) (m:=CI) (r0:=NI) WM rfl (fun _ _=>rfl) (by have:=hx _ (List.getElem_mem hlt);omega) w),bS,show((A.cell (sl 3 mm x.params[i].ranges)).bind fun v=>some [v])=some [sl 3 mm x.params[i].ranges]from rfl,bS,e3 6 _ rfl,bS,gd hq (by unfold aW;omega),bS]
 ·have:i=x.params.length:=by omega
  subst this
  refine .inr ⟨_,?_,by simp,rfl⟩
  simp only[List.getD_cons_zero,List.getD_cons_succ]
  rw[jD,bS,cB]
theorem ajw {W : Heap} {x : iU} {pv : AV} (hx : ∀ c ∈ x.bD, c.dw.length ≤ 1000000 ∧ c.fu.points.length ≤ 1000000) (hl : x.bD.length ≤ 1000000) (h : Dt aZ 11 W pv x.bD) (u0 u1 : AV) : A.loop ((fun dz fQ =>
        (A.lss (dz.getD 3 AV.undef) (AV.int .i64 (x.bD.length:Int))).bind fun xg=>
        A.cond xg (
         ((A.lb (dz.getD 2 AV.undef)).bind fun _=>some (1)).bind fun Au=>
         ((A.lb (dz.getD 2 AV.undef)).bind fun nF=>A.aj Au nF).bind fun ue=>
         (A.aU 11 ue (dz.getD 3 AV.undef)).bind fun kg=>
         (A.aL kg).bind fun xh=>
         (A.aA 10 xh).bind fun xk=>
         ((A.deref xk fQ).bind fun lQ=>A.aj 0 lQ).bind fun nq=>
         (A.quiet ((A.jl (.s 8) CJ) [nq] fQ) fQ).bind fun sj=>
         (A.aL kg).bind fun uf=>
         (A.aA 6 uf).bind fun mz=>
         (A.aA 1 mz).bind fun nN=>
         ((A.deref nN fQ).bind fun nG=>A.aj 0 nG).bind fun ug=>
         (A.quiet ((A.jl (.s 2) CH) [ug] fQ) fQ).bind fun nO=>
         (A.aL kg).bind fun uh=>
         (A.aA 10 uh).bind fun mA=>
         ((A.cell sj).bind fun v=>some [v]).bind fun wK=>
         (A.storeAt mA wK fQ).bind fun wL=>
         (A.aL kg).bind fun uj=>
         (A.aA 6 uj).bind fun xm=>
         (A.aA 1 xm).bind fun mB=>
         ((A.cell nO).bind fun v=>some [v]).bind fun Aj=>
         (A.storeAt mB Aj wL).bind fun Ak=>
         (A.add (dz.getD 3 AV.undef) aG).bind fun AG=>
         some (AX.normal,[(dz.getD 0 AV.undef),(dz.getD 1 AV.undef),(dz.getD 2 AV.undef),AG],Ak)) (
         some (AX.exit 8,[(dz.getD 0 AV.undef),(dz.getD 1 AV.undef),(dz.getD 2 AV.undef),(dz.getD 3 AV.undef)],fQ)))) [u0,u1,.lbx [.int .i64 x.number,pv],.int .i64 0] W=some (.exit 8,[u0,u1,.lbx [.int .i64 x.number,pv],.int .i64 (x.bD.length:Int)],W):=by
 refine AT (mT (Q:=fun q=>q=(.exit 8,[u0,u1,.lbx [.int .i64 x.number,pv],.int .i64 (x.bD.length:Int)],W)) (fun z v w=>∃i:Nat,i≤x.bD.length∧v=[u0,u1,.lbx [.int .i64 x.number,pv],.int .i64 (i:Int)]∧w=W∧z=x.bD.length-i) ?_ (n:=x.bD.length) ⟨0,Nat.zero_le _,rfl,rfl,rfl⟩)
 have hc:A.cell pv=some pv:=by rcases h with⟨_,rfl|rfl⟩|⟨id,g,rfl,_⟩<;>rfl
 rintro z v w ⟨i,hi,rfl,rfl,hz⟩
 by_cases hlt:i<x.bD.length
 ·have hq:x.bD[i]? =some x.bD[i]:=List.getElem?_eq_getElem hlt
  obtain⟨id,g,e1,e2,e3⟩:=h.at hq
  have hb:=hx _ (List.getElem_mem hlt)
  refine .inl ⟨x.bD.length-(i+1),_,_,by omega,?_,i+1,hlt,rfl,rfl,rfl⟩
  simp only[List.getD_cons_zero,List.getD_cons_succ]
  have hp2:A.aj 1 [.int .i64 x.number,pv]=some pv:=hc
  rw[jF hq,bS,cQ]
  simp only[hG,bS,hp2,e1,show A.aL (.oe id g i 0)=some (.oe id g i 0)from rfl,show ∀o,A.aA o (.oe id g i 0)=some (.oe id g i o)from fun o=>by simp [A.aA],show A.aA 1 (.oe id g i 6)=some (.oe id g i 7)from rfl,e2]
  rw[show A.aj 0 ((aZ x.bD[i]).drop 10)=some (sl 8 fH x.bD[i].dw)from rfl,bS,quiet_of (E9 (most:=140737488355328 / 64) (m:=CJ) (r0:=NK) XO rfl (fun _ _=>rfl) (by omega) w),bS,show A.aj 0 ((aZ x.bD[i]).drop 7)=some (sl 2 gV x.bD[i].fu.points)from rfl,bS,quiet_of (E9 (most:=140737488355328 / 16) (m:=CH) (r0:=NH) PV rfl (fun _ _=>rfl) (by omega) w),bS,show((A.cell (sl 8 fH x.bD[i].dw)).bind fun v=>some [v])=some [sl 8 fH x.bD[i].dw]from rfl,bS,e3 10 _ rfl,bS,show((A.cell (sl 2 gV x.bD[i].fu.points)).bind fun v=>some [v])=some [sl 2 gV x.bD[i].fu.points]from rfl,bS,e3 7 _ rfl,bS,gd hq (by unfold aW;omega),bS]
 ·have:i=x.bD.length:=by omega
  subst this
  refine .inr ⟨_,?_,by simp,rfl⟩
  simp only[List.getD_cons_zero,List.getD_cons_succ]
  rw[jD,bS,cB]
theorem LW {α:Type} {E:List AV→α→HP} {sz most:Nat} {v:AV} {l:List α} {e:List AV} {x:α} (hl:l.length+1≤most) (H:Hs bP aC σ (Sl E sz v l*(E e x*R))):∃v' σ',A.append sz most v (.sl sz [e]) σ=some (v',σ')∧Hs bP aC σ' (Sl E sz v' (l++[x])*R):=
 HR (ys:=[e]) (xs:=[x]) (hs_eq (by rw[ajD]) H) (by simpa using hl) (fun _ _ _ _=>trivial)
theorem ak6 {l:List ep} (hl:l.length≤1000000) (H:Hs bP aC σ R):∃v σ',EI [sl 7 eU l] σ=some (v,σ')∧A.cell v=some v∧Hs bP aC σ' (Sl (fl eU) 7 v l*R):=
 Qx (most:=140737488355328 / 80) (r:=fun _ _=>none) rfl (fun _ _=>rfl) (by omega) (fun _ _ _ _=>trivial) H
theorem aiX (n:ByteArray) (m:Int) (v:AV):(((A.cells 3 (.agg [.str n,.int .i64 m,v])).bind fun i6=>(A.splice 0 i6 [br,ah,AV.au]).bind fun iR=>some iR).bind fun cs=>some (AV.sl 3 (chunks 3 1 cs)))=some (.sl 3 [[.str n,.int .i64 m,v]]):=rfl
theorem aiW (n:Int) (v:AV):(((A.cells 2 (.agg [.int .i64 n,v])).bind fun i6=>(A.splice 0 i6 [ah,AV.au]).bind fun iR=>some iR).bind fun cs=>some (AV.sl 2 (chunks 2 1 cs)))=some (.sl 2 [[.int .i64 n,v]]):=rfl
theorem alX {s:fU} (hb:FR s) (H:Hs bP aC σ R) (un pl u:AV):∃v W,A.loop ((fun cr iI=>
   (A.lss (cr.getD 3 AV.undef) (AV.int .i64 (s.aQ.aY.length:Int))).bind fun bK=>
   A.cond bK (
    (A.aU 3 (sl 3 ck s.aQ.aY) (cr.getD 3 AV.undef)).bind fun cW=>
    ((A.deref cW iI).bind fun iz=>A.ay 0 3 iz).bind fun bM=>
    (A.cells 3 bM).bind fun gq=>
    (A.splice 0 gq [br,ah,AV.au]).bind fun eF=>
    (A.aj 2 eF).bind fun x24=>
    (EI [x24] iI).bind fun jQ=>
    ((A.cell jQ.1).bind fun v=>some [v]).bind fun fM=>
    (A.splice 2 fM eF).bind fun kD=>
    (A.aj 2 kD).bind fun x28=>
    (A.bG x28).bind fun x29=>
    (A.loop (fun v30 jR=>
      (A.lss (v30.getD 4 AV.undef) x29).bind fun ey=>
      A.cond ey (
       ((A.lb (v30.getD 3 AV.undef)).bind fun _=>some (2)).bind fun xI=>
       ((A.lb (v30.getD 3 AV.undef)).bind fun gX=>A.aj xI gX).bind fun gI=>
       ((A.lb (v30.getD 3 AV.undef)).bind fun _=>some (2)).bind fun A7=>
       ((A.lb (v30.getD 3 AV.undef)).bind fun lg=>A.aj A7 lg).bind fun ff=>
       (A.aU 7 ff (v30.getD 4 AV.undef)).bind fun cZ=>
       (A.aA 6 cZ).bind fun dW=>
       ((A.deref dW jR).bind fun lR=>A.aj 0 lR).bind fun fJ=>
       (A.quiet ((A.jl (.s 3) CI) [fJ] jR) jR).bind fun eR=>
       (A.aU 7 gI (v30.getD 4 AV.undef)).bind fun ef=>
       (A.aA 6 ef).bind fun fK=>
       ((A.cell eR).bind fun v=>some [v]).bind fun gZ=>
       (A.storeAt fK gZ jR).bind fun mG=>
       (A.add (v30.getD 4 AV.undef) aG).bind fun eA=>
       some (AX.normal,[(v30.getD 0 AV.undef),(v30.getD 1 AV.undef),(v30.getD 2 AV.undef),(v30.getD 3 AV.undef),eA],mG)) (
       some (AX.exit 2,[(v30.getD 0 AV.undef),(v30.getD 1 AV.undef),(v30.getD 2 AV.undef),(v30.getD 3 AV.undef),(v30.getD 4 AV.undef)],jR))) [(cr.getD 0 AV.undef),(cr.getD 1 AV.undef),(cr.getD 2 AV.undef),(AV.lbx kD),ah] jQ.2).bind fun cE=>
    bif cE.1==AX.exit 2 then(
     ((A.lb (cE.2.1.getD 2 AV.undef)).bind fun _=>some (0)).bind fun Em=>
     ((A.lb (cE.2.1.getD 2 AV.undef)).bind fun _=>some (Em)).bind fun En=>
     ((A.lb (cE.2.1.getD 2 AV.undef)).bind fun nS=>A.aj En nS).bind fun gy=>
     ((A.lb (cE.2.1.getD 3 AV.undef)).bind fun iA=>A.ay 0 3 iA).bind fun gz=>
     (((A.cells 3 gz).bind fun i6=>(A.splice 0 i6 [br,ah,AV.au]).bind fun iR=>some iR).bind fun cs=>some (AV.sl 3 (chunks 3 1 cs))).bind fun eG=>
     (A.append 3 (140737488355328 / 48) gy eG cE.2.2).bind fun xM=>
     ((A.lb (cE.2.1.getD 2 AV.undef)).bind fun _=>some (0)).bind fun Eo=>
     ((A.lb (cE.2.1.getD 2 AV.undef)).bind fun _=>some (Eo)).bind fun Ep=>
     (A.lb (cE.2.1.getD 2 AV.undef)).bind fun xx=>
     ((A.cell xM.1).bind fun v=>some [v]).bind fun ur=>
     (A.splice Ep ur xx).bind fun pS=>
     (A.add (cr.getD 3 AV.undef) aG).bind fun fP=>
     some (AX.normal,[(cE.2.1.getD 0 AV.undef),(cE.2.1.getD 1 AV.undef),(AV.lbx pS),fP],xM.2))else
    none) (
    some (AX.exit 0,[(cr.getD 0 AV.undef),(cr.getD 1 AV.undef),(cr.getD 2 AV.undef),(cr.getD 3 AV.undef)],iI)))) [.lbx (bB s),u,.lbx [.au,un,.au,.au,pl],.int .i64 0] σ=some (.exit 0,[.lbx (bB s),u,.lbx [v,un,.au,.au,pl],.int .i64 (s.aQ.aY.length:Int)],W)∧Hs bP aC W (Sl uZ 3 v s.aQ.aY*R):=by
 suffices h:∃q,A.loop ((fun cr iI=>
   (A.lss (cr.getD 3 AV.undef) (AV.int .i64 (s.aQ.aY.length:Int))).bind fun bK=>
   A.cond bK (
    (A.aU 3 (sl 3 ck s.aQ.aY) (cr.getD 3 AV.undef)).bind fun cW=>
    ((A.deref cW iI).bind fun iz=>A.ay 0 3 iz).bind fun bM=>
    (A.cells 3 bM).bind fun gq=>
    (A.splice 0 gq [br,ah,AV.au]).bind fun eF=>
    (A.aj 2 eF).bind fun x24=>
    (EI [x24] iI).bind fun jQ=>
    ((A.cell jQ.1).bind fun v=>some [v]).bind fun fM=>
    (A.splice 2 fM eF).bind fun kD=>
    (A.aj 2 kD).bind fun x28=>
    (A.bG x28).bind fun x29=>
    (A.loop (fun v30 jR=>
      (A.lss (v30.getD 4 AV.undef) x29).bind fun ey=>
      A.cond ey (
       ((A.lb (v30.getD 3 AV.undef)).bind fun _=>some (2)).bind fun xI=>
       ((A.lb (v30.getD 3 AV.undef)).bind fun gX=>A.aj xI gX).bind fun gI=>
       ((A.lb (v30.getD 3 AV.undef)).bind fun _=>some (2)).bind fun A7=>
       ((A.lb (v30.getD 3 AV.undef)).bind fun lg=>A.aj A7 lg).bind fun ff=>
       (A.aU 7 ff (v30.getD 4 AV.undef)).bind fun cZ=>
       (A.aA 6 cZ).bind fun dW=>
       ((A.deref dW jR).bind fun lR=>A.aj 0 lR).bind fun fJ=>
       (A.quiet ((A.jl (.s 3) CI) [fJ] jR) jR).bind fun eR=>
       (A.aU 7 gI (v30.getD 4 AV.undef)).bind fun ef=>
       (A.aA 6 ef).bind fun fK=>
       ((A.cell eR).bind fun v=>some [v]).bind fun gZ=>
       (A.storeAt fK gZ jR).bind fun mG=>
       (A.add (v30.getD 4 AV.undef) aG).bind fun eA=>
       some (AX.normal,[(v30.getD 0 AV.undef),(v30.getD 1 AV.undef),(v30.getD 2 AV.undef),(v30.getD 3 AV.undef),eA],mG)) (
       some (AX.exit 2,[(v30.getD 0 AV.undef),(v30.getD 1 AV.undef),(v30.getD 2 AV.undef),(v30.getD 3 AV.undef),(v30.getD 4 AV.undef)],jR))) [(cr.getD 0 AV.undef),(cr.getD 1 AV.undef),(cr.getD 2 AV.undef),(AV.lbx kD),ah] jQ.2).bind fun cE=>
    bif cE.1==AX.exit 2 then(
     ((A.lb (cE.2.1.getD 2 AV.undef)).bind fun _=>some (0)).bind fun Em=>
     ((A.lb (cE.2.1.getD 2 AV.undef)).bind fun _=>some (Em)).bind fun En=>
     ((A.lb (cE.2.1.getD 2 AV.undef)).bind fun nS=>A.aj En nS).bind fun gy=>
     ((A.lb (cE.2.1.getD 3 AV.undef)).bind fun iA=>A.ay 0 3 iA).bind fun gz=>
     (((A.cells 3 gz).bind fun i6=>(A.splice 0 i6 [br,ah,AV.au]).bind fun iR=>some iR).bind fun cs=>some (AV.sl 3 (chunks 3 1 cs))).bind fun eG=>
     (A.append 3 (140737488355328 / 48) gy eG cE.2.2).bind fun xM=>
     ((A.lb (cE.2.1.getD 2 AV.undef)).bind fun _=>some (0)).bind fun Eo=>
     ((A.lb (cE.2.1.getD 2 AV.undef)).bind fun _=>some (Eo)).bind fun Ep=>
     (A.lb (cE.2.1.getD 2 AV.undef)).bind fun xx=>
     ((A.cell xM.1).bind fun v=>some [v]).bind fun ur=>
     (A.splice Ep ur xx).bind fun pS=>
     (A.add (cr.getD 3 AV.undef) aG).bind fun fP=>
     some (AX.normal,[(cE.2.1.getD 0 AV.undef),(cE.2.1.getD 1 AV.undef),(AV.lbx pS),fP],xM.2))else
    none) (
    some (AX.exit 0,[(cr.getD 0 AV.undef),(cr.getD 1 AV.undef),(cr.getD 2 AV.undef),(cr.getD 3 AV.undef)],iI)))) [.lbx (bB s),u,.lbx [.au,un,.au,.au,pl],.int .i64 0] σ=some q∧∃v W,q=(.exit 0,[.lbx (bB s),u,.lbx [v,un,.au,.au,pl],.int .i64 (s.aQ.aY.length:Int)],W)∧Hs bP aC W (Sl uZ 3 v s.aQ.aY*R) by
  obtain⟨q,e,v,W,rfl,K⟩:=h
  exact⟨v,W,e,K⟩
 refine mT (fun z v w=>∃(i:Nat) (vo:AV),i≤s.aQ.aY.length∧v=[.lbx (bB s),u,.lbx [vo,un,.au,.au,pl],.int .i64 (i:Int)]∧z=s.aQ.aY.length-i∧Hs bP aC w (Sl uZ 3 vo (s.aQ.aY.take i)*R)) ?_ (n:=s.aQ.aY.length) ⟨0,.au,Nat.zero_le _,rfl,rfl,qZ H (.inl rfl)⟩
 rintro z v w ⟨i,vo,hi,rfl,hz,K⟩
 by_cases h:i<s.aQ.aY.length
 ·obtain⟨x,ct⟩:∃x,x=s.aQ.aY[i]:=⟨_,rfl⟩
  have hx:s.aQ.aY[i]? =some x:=by rw[ct];exact List.getElem?_eq_getElem h
  have hpb:=hb.par x (List.mem_of_getElem? hx)
  have hlb:=hb.gG
  have step:∃gH w',((fun cr iI=>
   (A.lss (cr.getD 3 AV.undef) (AV.int .i64 (s.aQ.aY.length:Int))).bind fun bK=>
   A.cond bK (
    (A.aU 3 (sl 3 ck s.aQ.aY) (cr.getD 3 AV.undef)).bind fun cW=>
    ((A.deref cW iI).bind fun iz=>A.ay 0 3 iz).bind fun bM=>
    (A.cells 3 bM).bind fun gq=>
    (A.splice 0 gq [br,ah,AV.au]).bind fun eF=>
    (A.aj 2 eF).bind fun x24=>
    (EI [x24] iI).bind fun jQ=>
    ((A.cell jQ.1).bind fun v=>some [v]).bind fun fM=>
    (A.splice 2 fM eF).bind fun kD=>
    (A.aj 2 kD).bind fun x28=>
    (A.bG x28).bind fun x29=>
    (A.loop (fun v30 jR=>
      (A.lss (v30.getD 4 AV.undef) x29).bind fun ey=>
      A.cond ey (
       ((A.lb (v30.getD 3 AV.undef)).bind fun _=>some (2)).bind fun xI=>
       ((A.lb (v30.getD 3 AV.undef)).bind fun gX=>A.aj xI gX).bind fun gI=>
       ((A.lb (v30.getD 3 AV.undef)).bind fun _=>some (2)).bind fun A7=>
       ((A.lb (v30.getD 3 AV.undef)).bind fun lg=>A.aj A7 lg).bind fun ff=>
       (A.aU 7 ff (v30.getD 4 AV.undef)).bind fun cZ=>
       (A.aA 6 cZ).bind fun dW=>
       ((A.deref dW jR).bind fun lR=>A.aj 0 lR).bind fun fJ=>
       (A.quiet ((A.jl (.s 3) CI) [fJ] jR) jR).bind fun eR=>
       (A.aU 7 gI (v30.getD 4 AV.undef)).bind fun ef=>
       (A.aA 6 ef).bind fun fK=>
       ((A.cell eR).bind fun v=>some [v]).bind fun gZ=>
       (A.storeAt fK gZ jR).bind fun mG=>
       (A.add (v30.getD 4 AV.undef) aG).bind fun eA=>
       some (AX.normal,[(v30.getD 0 AV.undef),(v30.getD 1 AV.undef),(v30.getD 2 AV.undef),(v30.getD 3 AV.undef),eA],mG)) (
       some (AX.exit 2,[(v30.getD 0 AV.undef),(v30.getD 1 AV.undef),(v30.getD 2 AV.undef),(v30.getD 3 AV.undef),(v30.getD 4 AV.undef)],jR))) [(cr.getD 0 AV.undef),(cr.getD 1 AV.undef),(cr.getD 2 AV.undef),(AV.lbx kD),ah] jQ.2).bind fun cE=>
    bif cE.1==AX.exit 2 then(
     ((A.lb (cE.2.1.getD 2 AV.undef)).bind fun _=>some (0)).bind fun Em=>
     ((A.lb (cE.2.1.getD 2 AV.undef)).bind fun _=>some (Em)).bind fun En=>
     ((A.lb (cE.2.1.getD 2 AV.undef)).bind fun nS=>A.aj En nS).bind fun gy=>
     ((A.lb (cE.2.1.getD 3 AV.undef)).bind fun iA=>A.ay 0 3 iA).bind fun gz=>
     (((A.cells 3 gz).bind fun i6=>(A.splice 0 i6 [br,ah,AV.au]).bind fun iR=>some iR).bind fun cs=>some (AV.sl 3 (chunks 3 1 cs))).bind fun eG=>
     (A.append 3 (140737488355328 / 48) gy eG cE.2.2).bind fun xM=>
     ((A.lb (cE.2.1.getD 2 AV.undef)).bind fun _=>some (0)).bind fun Eo=>
     ((A.lb (cE.2.1.getD 2 AV.undef)).bind fun _=>some (Eo)).bind fun Ep=>
     (A.lb (cE.2.1.getD 2 AV.undef)).bind fun xx=>
     ((A.cell xM.1).bind fun v=>some [v]).bind fun ur=>
     (A.splice Ep ur xx).bind fun pS=>
     (A.add (cr.getD 3 AV.undef) aG).bind fun fP=>
     some (AX.normal,[(cE.2.1.getD 0 AV.undef),(cE.2.1.getD 1 AV.undef),(AV.lbx pS),fP],xM.2))else
    none) (
    some (AX.exit 0,[(cr.getD 0 AV.undef),(cr.getD 1 AV.undef),(cr.getD 2 AV.undef),(cr.getD 3 AV.undef)],iI)))) [.lbx (bB s),u,.lbx [vo,un,.au,.au,pl],.int .i64 (i:Int)] w=some (.normal,[.lbx (bB s),u,.lbx [gH,un,.au,.au,pl],.int .i64 ((i+1:Nat):Int)],w')∧Hs bP aC w' (Sl uZ 3 gH (s.aQ.aY.take i++[x])*R):=by
   simp only[List.getD_cons_zero,List.getD_cons_succ]
   rw[jF hx,bS,cQ,iO hx,bS,nv,bS,show A.ay 0 3 (ck x)=some (.agg (ck x))from rfl,bS,show A.cells 3 (.agg (ck x))=some (ck x)from rfl,bS,show A.splice 0 (ck x) [br,ah,AV.au]=some (ck x)from rfl,bS,qg,bS]
   obtain⟨pv,w1,c1,c2,c3⟩:=ak6 hpb.1 K
   have xE:=Y6 c3
   rw[c1,bS]
   simp only
   rw[show((A.cell pv).bind fun v=>some [v])=some [pv]from by rw[c2];rfl,bS,show A.splice 2 [pv] (ck x)=some [.str x.name,.int .i64 x.size,pv]from rfl,bS,show A.aj 2 [.str x.name,.int .i64 x.size,pv]=some pv from c2,bS,xE.len,bS]
   refine It (ajv hpb.2 hpb.1 xE _ _ _) ?_
   simp only[mJ,List.getD_cons_zero,List.getD_cons_succ,hG,bS]
   have IS:=zP K
   rw[show A.aj 0 [vo,un,.au,.au,pl]=some vo from IS,bS,show A.ay 0 3 [.str x.name,.int .i64 x.size,pv]=some (.agg [.str x.name,.int .i64 x.size,pv])from rfl,bS,aiX,bS]
   obtain⟨gH,w2,f1,f2⟩:=LW (most:=140737488355328 / 48) (E:=uZ) (l:=s.aQ.aY.take i) (v:=vo) (e:=[.str x.name,.int .i64 x.size,pv]) (x:=x) (R:=R) (by rw[List.length_take];omega) (hs_eq (by ac_rfl) (aav.2 ⟨pv,rfl,c3⟩))
   rw[f1,bS]
   simp only
   rw[show((A.cell gH).bind fun v=>some [v])=some [gH]from by rw[zP f2];rfl,bS,show A.splice 0 [gH] [vo,un,.au,.au,pl]=some [gH,un,.au,.au,pl]from rfl,bS,gd hx (by unfold aW;omega),bS]
   exact⟨gH,w2,rfl,f2⟩
  obtain⟨gH,w',s1,s2⟩:=step
  refine .inl ⟨s.aQ.aY.length-(i+1),_,_,by omega,s1,i+1,gH,h,rfl,rfl,?_⟩
  rw[List.take_add_one,hx]
  exact s2
 ·have:i=s.aQ.aY.length:=by omega
  subst this
  rw[List.take_length]at K
  refine .inr ⟨(.exit 0,[.lbx (bB s),u,.lbx [vo,un,.au,.au,pl],.int .i64 (s.aQ.aY.length:Int)],w),?_,by simp,vo,w,rfl,K⟩
  simp only[List.getD_cons_zero,List.getD_cons_succ]
  rw[jD,bS,cB]
theorem alY {s:fU} (hb:FR s) (H:Hs bP aC σ R) (vl un pl u:AV) (hvl:A.cell vl=some vl):∃v W,A.loop ((fun v72 sI=>
    (A.lss (v72.getD 3 AV.undef) (AV.int .i64 (s.bH.length:Int))).bind fun eC=>
    A.cond eC (
     (A.aU 3 (sl 3 dL s.bH) (v72.getD 3 AV.undef)).bind fun jf=>
     ((A.deref jf sI).bind fun lS=>A.ay 0 3 lS).bind fun jA=>
     (A.cells 3 jA).bind fun AL=>
     (A.splice 0 AL [ah,br,AV.au]).bind fun uu=>
     (A.aj 2 uu).bind fun p6=>
     ((A.jl (.s 3) EF) [p6] sI).bind fun xP=>
     ((A.cell xP.1).bind fun v=>some [v]).bind fun kE=>
     (A.splice 2 kE uu).bind fun i7=>
     ((A.lb (v72.getD 2 AV.undef)).bind fun _=>some (2)).bind fun Et=>
     ((A.lb (v72.getD 2 AV.undef)).bind fun xz=>A.aj Et xz).bind fun mQ=>
     (A.ay 0 3 i7).bind fun iM=>
     (((A.cells 3 iM).bind fun nV=>(A.splice 0 nV [ah,br,AV.au]).bind fun nW=>some nW).bind fun cs=>some (AV.sl 3 (chunks 3 1 cs))).bind fun x91=>
     (A.append 3 (140737488355328 / 48) mQ x91 xP.2).bind fun xS=>
     ((A.lb (v72.getD 2 AV.undef)).bind fun _=>some (2)).bind fun Ev=>
     (A.lb (v72.getD 2 AV.undef)).bind fun D9=>
     ((A.cell xS.1).bind fun v=>some [v]).bind fun sx=>
     (A.splice Ev sx D9).bind fun jt=>
     (A.add (v72.getD 3 AV.undef) aG).bind fun xX=>
     some (AX.normal,[(v72.getD 0 AV.undef),(v72.getD 1 AV.undef),(AV.lbx jt),xX],xS.2)) (
     some (AX.exit 4,[(v72.getD 0 AV.undef),(v72.getD 1 AV.undef),(v72.getD 2 AV.undef),(v72.getD 3 AV.undef)],sI)))) [.lbx (bB s),u,.lbx [vl,un,.au,.au,pl],.int .i64 0] σ=some (.exit 4,[.lbx (bB s),u,.lbx [vl,un,v,.au,pl],.int .i64 (s.bH.length:Int)],W)∧Hs bP aC W (Sl (fl dL) 3 v s.bH*R):=by
 suffices h:∃q,A.loop ((fun v72 sI=>
    (A.lss (v72.getD 3 AV.undef) (AV.int .i64 (s.bH.length:Int))).bind fun eC=>
    A.cond eC (
     (A.aU 3 (sl 3 dL s.bH) (v72.getD 3 AV.undef)).bind fun jf=>
     ((A.deref jf sI).bind fun lS=>A.ay 0 3 lS).bind fun jA=>
     (A.cells 3 jA).bind fun AL=>
     (A.splice 0 AL [ah,br,AV.au]).bind fun uu=>
     (A.aj 2 uu).bind fun p6=>
     ((A.jl (.s 3) EF) [p6] sI).bind fun xP=>
     ((A.cell xP.1).bind fun v=>some [v]).bind fun kE=>
     (A.splice 2 kE uu).bind fun i7=>
     ((A.lb (v72.getD 2 AV.undef)).bind fun _=>some (2)).bind fun Et=>
     ((A.lb (v72.getD 2 AV.undef)).bind fun xz=>A.aj Et xz).bind fun mQ=>
     (A.ay 0 3 i7).bind fun iM=>
     (((A.cells 3 iM).bind fun nV=>(A.splice 0 nV [ah,br,AV.au]).bind fun nW=>some nW).bind fun cs=>some (AV.sl 3 (chunks 3 1 cs))).bind fun x91=>
     (A.append 3 (140737488355328 / 48) mQ x91 xP.2).bind fun xS=>
     ((A.lb (v72.getD 2 AV.undef)).bind fun _=>some (2)).bind fun Ev=>
     (A.lb (v72.getD 2 AV.undef)).bind fun D9=>
     ((A.cell xS.1).bind fun v=>some [v]).bind fun sx=>
     (A.splice Ev sx D9).bind fun jt=>
     (A.add (v72.getD 3 AV.undef) aG).bind fun xX=>
     some (AX.normal,[(v72.getD 0 AV.undef),(v72.getD 1 AV.undef),(AV.lbx jt),xX],xS.2)) (
     some (AX.exit 4,[(v72.getD 0 AV.undef),(v72.getD 1 AV.undef),(v72.getD 2 AV.undef),(v72.getD 3 AV.undef)],sI)))) [.lbx (bB s),u,.lbx [vl,un,.au,.au,pl],.int .i64 0] σ=some q∧∃v W,q=(.exit 4,[.lbx (bB s),u,.lbx [vl,un,v,.au,pl],.int .i64 (s.bH.length:Int)],W)∧Hs bP aC W (Sl (fl dL) 3 v s.bH*R) by
  obtain⟨q,e,v,W,rfl,K⟩:=h
  exact⟨v,W,e,K⟩
 refine mT (fun z v w=>∃(i:Nat) (vo:AV),i≤s.bH.length∧v=[.lbx (bB s),u,.lbx [vl,un,vo,.au,pl],.int .i64 (i:Int)]∧z=s.bH.length-i∧Hs bP aC w (Sl (fl dL) 3 vo (s.bH.take i)*R)) ?_ (n:=s.bH.length) ⟨0,.au,Nat.zero_le _,rfl,rfl,qZ H (.inl rfl)⟩
 rintro z v w ⟨i,vo,hi,rfl,hz,K⟩
 by_cases h:i<s.bH.length
 ·obtain⟨x,ct⟩:∃x,x=s.bH[i]:=⟨_,rfl⟩
  have hx:s.bH[i]? =some x:=by rw[ct];exact List.getElem?_eq_getElem h
  have hpb:=hb.pre.2 x (List.mem_of_getElem? hx)
  have hlb:=hb.pre.1
  have step:∃gH w',((fun v72 sI=>
    (A.lss (v72.getD 3 AV.undef) (AV.int .i64 (s.bH.length:Int))).bind fun eC=>
    A.cond eC (
     (A.aU 3 (sl 3 dL s.bH) (v72.getD 3 AV.undef)).bind fun jf=>
     ((A.deref jf sI).bind fun lS=>A.ay 0 3 lS).bind fun jA=>
     (A.cells 3 jA).bind fun AL=>
     (A.splice 0 AL [ah,br,AV.au]).bind fun uu=>
     (A.aj 2 uu).bind fun p6=>
     ((A.jl (.s 3) EF) [p6] sI).bind fun xP=>
     ((A.cell xP.1).bind fun v=>some [v]).bind fun kE=>
     (A.splice 2 kE uu).bind fun i7=>
     ((A.lb (v72.getD 2 AV.undef)).bind fun _=>some (2)).bind fun Et=>
     ((A.lb (v72.getD 2 AV.undef)).bind fun xz=>A.aj Et xz).bind fun mQ=>
     (A.ay 0 3 i7).bind fun iM=>
     (((A.cells 3 iM).bind fun nV=>(A.splice 0 nV [ah,br,AV.au]).bind fun nW=>some nW).bind fun cs=>some (AV.sl 3 (chunks 3 1 cs))).bind fun x91=>
     (A.append 3 (140737488355328 / 48) mQ x91 xP.2).bind fun xS=>
     ((A.lb (v72.getD 2 AV.undef)).bind fun _=>some (2)).bind fun Ev=>
     (A.lb (v72.getD 2 AV.undef)).bind fun D9=>
     ((A.cell xS.1).bind fun v=>some [v]).bind fun sx=>
     (A.splice Ev sx D9).bind fun jt=>
     (A.add (v72.getD 3 AV.undef) aG).bind fun xX=>
     some (AX.normal,[(v72.getD 0 AV.undef),(v72.getD 1 AV.undef),(AV.lbx jt),xX],xS.2)) (
     some (AX.exit 4,[(v72.getD 0 AV.undef),(v72.getD 1 AV.undef),(v72.getD 2 AV.undef),(v72.getD 3 AV.undef)],sI)))) [.lbx (bB s),u,.lbx [vl,un,vo,.au,pl],.int .i64 (i:Int)] w=some (.normal,[.lbx (bB s),u,.lbx [vl,un,gH,.au,pl],.int .i64 ((i+1:Nat):Int)],w')∧Hs bP aC w' (Sl (fl dL) 3 gH (s.bH.take i++[x])*R):=by
   simp only[List.getD_cons_zero,List.getD_cons_succ]
   rw[jF hx,bS,cQ,iO hx,bS,nv,bS,show A.ay 0 3 (dL x)=some (.agg (dL x))from rfl,bS,show A.cells 3 (.agg (dL x))=some (dL x)from rfl,bS,show A.splice 0 (dL x) [ah,br,AV.au]=some (dL x)from rfl,bS,show A.aj 2 (dL x)=some (sl 3 dX x.jK)from rfl,bS,E9 (most:=140737488355328 / 32) (m:=EF) (r0:=ND) KC rfl (fun _ _=>rfl) (by omega) w,bS]
   simp only[hG,bS]
   have IS:=zP K
   rw[show((A.cell (sl 3 dX x.jK)).bind fun v=>some [v])=some [sl 3 dX x.jK]from rfl,bS,show A.splice 2 [sl 3 dX x.jK] (dL x)=some (dL x)from rfl,bS,show A.aj 2 [vl,un,vo,.au,pl]=some vo from IS,bS,show A.ay 0 3 (dL x)=some (.agg (dL x))from rfl,bS,show(((A.cells 3 (.agg (dL x))).bind fun i6=>(A.splice 0 i6 [ah,br,AV.au]).bind fun iR=>some iR).bind fun cs=>some (AV.sl 3 (chunks 3 1 cs)))=some (.sl 3 [dL x])from rfl,bS]
   obtain⟨gH,w2,f1,f2⟩:=LW (most:=140737488355328 / 48) (E:=fl dL) (l:=s.bH.take i) (v:=vo) (e:=dL x) (x:=x) (R:=R) (by rw[List.length_take];omega) (hs_eq (by ac_rfl) (mZ.2 ⟨(rfl:dL x=dL x),K⟩))
   rw[f1,bS]
   simp only
   rw[show((A.cell gH).bind fun v=>some [v])=some [gH]from by rw[zP f2];rfl,bS,show A.splice 2 [gH] [vl,un,vo,.au,pl]=some [vl,un,gH,.au,pl]from rfl,bS,gd hx (by unfold aW;omega),bS]
   exact⟨gH,w2,rfl,f2⟩
  obtain⟨gH,w',s1,s2⟩:=step
  refine .inl ⟨s.bH.length-(i+1),_,_,by omega,s1,i+1,gH,h,rfl,rfl,?_⟩
  rw[List.take_add_one,hx]
  exact s2
 ·have:i=s.bH.length:=by omega
  subst this
  rw[List.take_length]at K
  refine .inr ⟨(.exit 4,[.lbx (bB s),u,.lbx [vl,un,vo,.au,pl],.int .i64 (s.bH.length:Int)],w),?_,by simp,vo,w,rfl,K⟩
  simp only[List.getD_cons_zero,List.getD_cons_succ]
  rw[jD,bS,cB]
theorem ak5 {l:List bg} (hl:l.length≤1000000) (H:Hs bP aC σ R):∃v σ',CK [sl 11 aZ l] σ=some (v,σ')∧A.cell v=some v∧Hs bP aC σ' (Sl (fl aZ) 11 v l*R):=anA (by omega) H
theorem alZ {s:fU} (hb:FR s) (H:Hs bP aC σ R) (vl un vp pl u:AV):∃v W,A.loop ((fun iG rZ=>
     (A.lss (iG.getD 2 AV.undef) (AV.int .i64 (s.lists.length:Int))).bind fun nK=>
     A.cond nK (
      (A.aU 2 (sl 2 dQ s.lists) (iG.getD 2 AV.undef)).bind fun nL=>
      ((A.deref nL rZ).bind fun Dw=>A.ay 0 2 Dw).bind fun nM=>
      (A.cells 2 nM).bind fun Dx=>
      (A.splice 0 Dx [ah,AV.au]).bind fun mq=>
      (A.aj 1 mq).bind fun x112=>
      (CK [x112] rZ).bind fun tc=>
      ((A.cell tc.1).bind fun v=>some [v]).bind fun Dz=>
      (A.splice 1 Dz mq).bind fun tU=>
      (A.aj 1 tU).bind fun DT=>
      (A.bG DT).bind fun pO=>
      (A.loop (fun dz fQ=>
        (A.lss (dz.getD 3 AV.undef) pO).bind fun xg=>
        A.cond xg (
         ((A.lb (dz.getD 2 AV.undef)).bind fun _=>some (1)).bind fun Au=>
         ((A.lb (dz.getD 2 AV.undef)).bind fun nF=>A.aj Au nF).bind fun ue=>
         (A.aU 11 ue (dz.getD 3 AV.undef)).bind fun kg=>
         (A.aL kg).bind fun xh=>
         (A.aA 10 xh).bind fun xk=>
         ((A.deref xk fQ).bind fun lQ=>A.aj 0 lQ).bind fun nq=>
         (A.quiet ((A.jl (.s 8) CJ) [nq] fQ) fQ).bind fun sj=>
         (A.aL kg).bind fun uf=>
         (A.aA 6 uf).bind fun mz=>
         (A.aA 1 mz).bind fun nN=>
         ((A.deref nN fQ).bind fun nG=>A.aj 0 nG).bind fun ug=>
         (A.quiet ((A.jl (.s 2) CH) [ug] fQ) fQ).bind fun nO=>
         (A.aL kg).bind fun uh=>
         (A.aA 10 uh).bind fun mA=>
         ((A.cell sj).bind fun v=>some [v]).bind fun wK=>
         (A.storeAt mA wK fQ).bind fun wL=>
         (A.aL kg).bind fun uj=>
         (A.aA 6 uj).bind fun xm=>
         (A.aA 1 xm).bind fun mB=>
         ((A.cell nO).bind fun v=>some [v]).bind fun Aj=>
         (A.storeAt mB Aj wL).bind fun Ak=>
         (A.add (dz.getD 3 AV.undef) aG).bind fun AG=>
         some (AX.normal,[(dz.getD 0 AV.undef),(dz.getD 1 AV.undef),(dz.getD 2 AV.undef),AG],Ak)) (
         some (AX.exit 8,[(dz.getD 0 AV.undef),(dz.getD 1 AV.undef),(dz.getD 2 AV.undef),(dz.getD 3 AV.undef)],fQ))) [(iG.getD 0 AV.undef),(iG.getD 1 AV.undef),(AV.lbx tU),ah] tc.2).bind fun iF=>
      bif iF.1==AX.exit 8 then(
       ((A.lb (iF.2.1.getD 1 AV.undef)).bind fun _=>some (3)).bind fun DO=>
       ((A.lb (iF.2.1.getD 1 AV.undef)).bind fun wM=>A.aj DO wM).bind fun x150=>
       ((A.lb (iF.2.1.getD 2 AV.undef)).bind fun wN=>A.ay 0 2 wN).bind fun x152=>
       (((A.cells 2 x152).bind fun tX=>(A.splice 0 tX [ah,AV.au]).bind fun DB=>some DB).bind fun cs=>some (AV.sl 2 (chunks 2 1 cs))).bind fun AH=>
       (A.append 2 (140737488355328 / 32) x150 AH iF.2.2).bind fun w8=>
       ((A.lb (iF.2.1.getD 1 AV.undef)).bind fun _=>some (3)).bind fun DP=>
       (A.lb (iF.2.1.getD 1 AV.undef)).bind fun wP=>
       ((A.cell w8.1).bind fun v=>some [v]).bind fun sX=>
       (A.splice DP sX wP).bind fun wO=>
       (A.add (iG.getD 2 AV.undef) aG).bind fun DU=>
       some (AX.normal,[(iF.2.1.getD 0 AV.undef),(AV.lbx wO),DU],w8.2))else
      none) (
      some (AX.exit 6,[(iG.getD 0 AV.undef),(iG.getD 1 AV.undef),(iG.getD 2 AV.undef)],rZ)))) [u,.lbx [vl,un,vp,.au,pl],.int .i64 0] σ=some (.exit 6,[u,.lbx [vl,un,vp,v,pl],.int .i64 (s.lists.length:Int)],W)∧Hs bP aC W (Sl uY 2 v s.lists*R):=by
 suffices h:∃q,A.loop ((fun iG rZ=>
     (A.lss (iG.getD 2 AV.undef) (AV.int .i64 (s.lists.length:Int))).bind fun nK=>
     A.cond nK (
      (A.aU 2 (sl 2 dQ s.lists) (iG.getD 2 AV.undef)).bind fun nL=>
      ((A.deref nL rZ).bind fun Dw=>A.ay 0 2 Dw).bind fun nM=>
      (A.cells 2 nM).bind fun Dx=>
      (A.splice 0 Dx [ah,AV.au]).bind fun mq=>
      (A.aj 1 mq).bind fun x112=>
      (CK [x112] rZ).bind fun tc=>
      ((A.cell tc.1).bind fun v=>some [v]).bind fun Dz=>
      (A.splice 1 Dz mq).bind fun tU=>
      (A.aj 1 tU).bind fun DT=>
      (A.bG DT).bind fun pO=>
      (A.loop (fun dz fQ=>
        (A.lss (dz.getD 3 AV.undef) pO).bind fun xg=>
        A.cond xg (
         ((A.lb (dz.getD 2 AV.undef)).bind fun _=>some (1)).bind fun Au=>
         ((A.lb (dz.getD 2 AV.undef)).bind fun nF=>A.aj Au nF).bind fun ue=>
         (A.aU 11 ue (dz.getD 3 AV.undef)).bind fun kg=>
         (A.aL kg).bind fun xh=>
         (A.aA 10 xh).bind fun xk=>
         ((A.deref xk fQ).bind fun lQ=>A.aj 0 lQ).bind fun nq=>
         (A.quiet ((A.jl (.s 8) CJ) [nq] fQ) fQ).bind fun sj=>
         (A.aL kg).bind fun uf=>
         (A.aA 6 uf).bind fun mz=>
         (A.aA 1 mz).bind fun nN=>
         ((A.deref nN fQ).bind fun nG=>A.aj 0 nG).bind fun ug=>
         (A.quiet ((A.jl (.s 2) CH) [ug] fQ) fQ).bind fun nO=>
         (A.aL kg).bind fun uh=>
         (A.aA 10 uh).bind fun mA=>
         ((A.cell sj).bind fun v=>some [v]).bind fun wK=>
         (A.storeAt mA wK fQ).bind fun wL=>
         (A.aL kg).bind fun uj=>
         (A.aA 6 uj).bind fun xm=>
         (A.aA 1 xm).bind fun mB=>
         ((A.cell nO).bind fun v=>some [v]).bind fun Aj=>
         (A.storeAt mB Aj wL).bind fun Ak=>
         (A.add (dz.getD 3 AV.undef) aG).bind fun AG=>
         some (AX.normal,[(dz.getD 0 AV.undef),(dz.getD 1 AV.undef),(dz.getD 2 AV.undef),AG],Ak)) (
         some (AX.exit 8,[(dz.getD 0 AV.undef),(dz.getD 1 AV.undef),(dz.getD 2 AV.undef),(dz.getD 3 AV.undef)],fQ))) [(iG.getD 0 AV.undef),(iG.getD 1 AV.undef),(AV.lbx tU),ah] tc.2).bind fun iF=>
      bif iF.1==AX.exit 8 then(
       ((A.lb (iF.2.1.getD 1 AV.undef)).bind fun _=>some (3)).bind fun DO=>
       ((A.lb (iF.2.1.getD 1 AV.undef)).bind fun wM=>A.aj DO wM).bind fun x150=>
       ((A.lb (iF.2.1.getD 2 AV.undef)).bind fun wN=>A.ay 0 2 wN).bind fun x152=>
       (((A.cells 2 x152).bind fun tX=>(A.splice 0 tX [ah,AV.au]).bind fun DB=>some DB).bind fun cs=>some (AV.sl 2 (chunks 2 1 cs))).bind fun AH=>
       (A.append 2 (140737488355328 / 32) x150 AH iF.2.2).bind fun w8=>
       ((A.lb (iF.2.1.getD 1 AV.undef)).bind fun _=>some (3)).bind fun DP=>
       (A.lb (iF.2.1.getD 1 AV.undef)).bind fun wP=>
       ((A.cell w8.1).bind fun v=>some [v]).bind fun sX=>
       (A.splice DP sX wP).bind fun wO=>
       (A.add (iG.getD 2 AV.undef) aG).bind fun DU=>
       some (AX.normal,[(iF.2.1.getD 0 AV.undef),(AV.lbx wO),DU],w8.2))else
      none) (
      some (AX.exit 6,[(iG.getD 0 AV.undef),(iG.getD 1 AV.undef),(iG.getD 2 AV.undef)],rZ)))) [u,.lbx [vl,un,vp,.au,pl],.int .i64 0] σ=some q∧∃v W,q=(.exit 6,[u,.lbx [vl,un,vp,v,pl],.int .i64 (s.lists.length:Int)],W)∧Hs bP aC W (Sl uY 2 v s.lists*R) by
  obtain⟨q,e,v,W,rfl,K⟩:=h
  exact⟨v,W,e,K⟩
 refine mT (fun z v w=>∃(i:Nat) (vo:AV),i≤s.lists.length∧v=[u,.lbx [vl,un,vp,vo,pl],.int .i64 (i:Int)]∧z=s.lists.length-i∧Hs bP aC w (Sl uY 2 vo (s.lists.take i)*R)) ?_ (n:=s.lists.length) ⟨0,.au,Nat.zero_le _,rfl,rfl,qZ H (.inl rfl)⟩
 rintro z v w ⟨i,vo,hi,rfl,hz,K⟩
 by_cases h:i<s.lists.length
 ·obtain⟨x,ct⟩:∃x,x=s.lists[i]:=⟨_,rfl⟩
  have hx:s.lists[i]? =some x:=by rw[ct];exact List.getElem?_eq_getElem h
  have hpb:=hb.bQ x (List.mem_of_getElem? hx)
  have hlb:=hb.No
  have step:∃gH w',((fun iG rZ=>
     (A.lss (iG.getD 2 AV.undef) (AV.int .i64 (s.lists.length:Int))).bind fun nK=>
     A.cond nK (
      (A.aU 2 (sl 2 dQ s.lists) (iG.getD 2 AV.undef)).bind fun nL=>
      ((A.deref nL rZ).bind fun Dw=>A.ay 0 2 Dw).bind fun nM=>
      (A.cells 2 nM).bind fun Dx=>
      (A.splice 0 Dx [ah,AV.au]).bind fun mq=>
      (A.aj 1 mq).bind fun x112=>
      (CK [x112] rZ).bind fun tc=>
      ((A.cell tc.1).bind fun v=>some [v]).bind fun Dz=>
      (A.splice 1 Dz mq).bind fun tU=>
      (A.aj 1 tU).bind fun DT=>
      (A.bG DT).bind fun pO=>
      (A.loop (fun dz fQ=>
        (A.lss (dz.getD 3 AV.undef) pO).bind fun xg=>
        A.cond xg (
         ((A.lb (dz.getD 2 AV.undef)).bind fun _=>some (1)).bind fun Au=>
         ((A.lb (dz.getD 2 AV.undef)).bind fun nF=>A.aj Au nF).bind fun ue=>
         (A.aU 11 ue (dz.getD 3 AV.undef)).bind fun kg=>
         (A.aL kg).bind fun xh=>
         (A.aA 10 xh).bind fun xk=>
         ((A.deref xk fQ).bind fun lQ=>A.aj 0 lQ).bind fun nq=>
         (A.quiet ((A.jl (.s 8) CJ) [nq] fQ) fQ).bind fun sj=>
         (A.aL kg).bind fun uf=>
         (A.aA 6 uf).bind fun mz=>
         (A.aA 1 mz).bind fun nN=>
         ((A.deref nN fQ).bind fun nG=>A.aj 0 nG).bind fun ug=>
         (A.quiet ((A.jl (.s 2) CH) [ug] fQ) fQ).bind fun nO=>
         (A.aL kg).bind fun uh=>
         (A.aA 10 uh).bind fun mA=>
         ((A.cell sj).bind fun v=>some [v]).bind fun wK=>
         (A.storeAt mA wK fQ).bind fun wL=>
         (A.aL kg).bind fun uj=>
         (A.aA 6 uj).bind fun xm=>
         (A.aA 1 xm).bind fun mB=>
         ((A.cell nO).bind fun v=>some [v]).bind fun Aj=>
         (A.storeAt mB Aj wL).bind fun Ak=>
         (A.add (dz.getD 3 AV.undef) aG).bind fun AG=>
         some (AX.normal,[(dz.getD 0 AV.undef),(dz.getD 1 AV.undef),(dz.getD 2 AV.undef),AG],Ak)) (
         some (AX.exit 8,[(dz.getD 0 AV.undef),(dz.getD 1 AV.undef),(dz.getD 2 AV.undef),(dz.getD 3 AV.undef)],fQ))) [(iG.getD 0 AV.undef),(iG.getD 1 AV.undef),(AV.lbx tU),ah] tc.2).bind fun iF=>
      bif iF.1==AX.exit 8 then(
       ((A.lb (iF.2.1.getD 1 AV.undef)).bind fun _=>some (3)).bind fun DO=>
       ((A.lb (iF.2.1.getD 1 AV.undef)).bind fun wM=>A.aj DO wM).bind fun x150=>
       ((A.lb (iF.2.1.getD 2 AV.undef)).bind fun wN=>A.ay 0 2 wN).bind fun x152=>
       (((A.cells 2 x152).bind fun tX=>(A.splice 0 tX [ah,AV.au]).bind fun DB=>some DB).bind fun cs=>some (AV.sl 2 (chunks 2 1 cs))).bind fun AH=>
       (A.append 2 (140737488355328 / 32) x150 AH iF.2.2).bind fun w8=>
       ((A.lb (iF.2.1.getD 1 AV.undef)).bind fun _=>some (3)).bind fun DP=>
       (A.lb (iF.2.1.getD 1 AV.undef)).bind fun wP=>
       ((A.cell w8.1).bind fun v=>some [v]).bind fun sX=>
       (A.splice DP sX wP).bind fun wO=>
       (A.add (iG.getD 2 AV.undef) aG).bind fun DU=>
       some (AX.normal,[(iF.2.1.getD 0 AV.undef),(AV.lbx wO),DU],w8.2))else
      none) (
      some (AX.exit 6,[(iG.getD 0 AV.undef),(iG.getD 1 AV.undef),(iG.getD 2 AV.undef)],rZ)))) [u,.lbx [vl,un,vp,vo,pl],.int .i64 (i:Int)] w=some (.normal,[u,.lbx [vl,un,vp,gH,pl],.int .i64 ((i+1:Nat):Int)],w')∧Hs bP aC w' (Sl uY 2 gH (s.lists.take i++[x])*R):=by
   simp only[List.getD_cons_zero,List.getD_cons_succ]
   rw[jF hx,bS,cQ,iO hx,bS,nv,bS,show A.ay 0 2 (dQ x)=some (.agg (dQ x))from rfl,bS,show A.cells 2 (.agg (dQ x))=some (dQ x)from rfl,bS,show A.splice 0 (dQ x) [ah,AV.au]=some (dQ x)from rfl,bS,Py,bS]
   obtain⟨pv,w1,c1,c2,c3⟩:=ak5 hpb.1 K
   have xE:=Y6 c3
   rw[c1,bS]
   simp only
   rw[show((A.cell pv).bind fun v=>some [v])=some [pv]from by rw[c2];rfl,bS,show A.splice 1 [pv] (dQ x)=some [.int .i64 x.number,pv]from rfl,bS,show A.aj 1 [.int .i64 x.number,pv]=some pv from c2,bS,xE.len,bS]
   refine It (ajw hpb.2 hpb.1 xE _ _) ?_
   simp only[mJ,List.getD_cons_zero,List.getD_cons_succ,hG,bS]
   have IS:=zP K
   rw[show A.aj 3 [vl,un,vp,vo,pl]=some vo from IS,bS,show A.ay 0 2 [.int .i64 x.number,pv]=some (.agg [.int .i64 x.number,pv])from rfl,bS,aiW,bS]
   obtain⟨gH,w2,f1,f2⟩:=LW (most:=140737488355328 / 32) (E:=uY) (l:=s.lists.take i) (v:=vo) (e:=[.int .i64 x.number,pv]) (x:=x) (R:=R) (by rw[List.length_take];omega) (hs_eq (by ac_rfl) (aat.2 ⟨pv,rfl,c3⟩))
   rw[f1,bS]
   simp only
   rw[show((A.cell gH).bind fun v=>some [v])=some [gH]from by rw[zP f2];rfl,bS,show A.splice 3 [gH] [vl,un,vp,vo,pl]=some [vl,un,vp,gH,pl]from rfl,bS,gd hx (by unfold aW;omega),bS]
   exact⟨gH,w2,rfl,f2⟩
  obtain⟨gH,w',s1,s2⟩:=step
  refine .inl ⟨s.lists.length-(i+1),_,_,by omega,s1,i+1,gH,h,rfl,rfl,?_⟩
  rw[List.take_add_one,hx]
  exact s2
 ·have:i=s.lists.length:=by omega
  subst this
  rw[List.take_length]at K
  refine .inr ⟨(.exit 6,[u,.lbx [vl,un,vp,vo,pl],.int .i64 (s.lists.length:Int)],w),?_,by simp,vo,w,rfl,K⟩
  simp only[List.getD_cons_zero,List.getD_cons_succ]
  rw[jD,bS,cB]
end
theorem ahR {s:fU} (hb:FR s) (σ:Heap):Kv [.agg (bB s)] σ=some (.agg (bB s),σ):=by
 suffices h:∃v,A.nn (.a [(.e 3 Dq),(.s 4),(.e 3 [.k,.k,(.s 3)]),(.e 2 [.k,(.e 11 uk)]),(.s 3)]) v=.agg (bB s)∧OI (.agg (bB s)) σ=some (v,σ) by
  obtain⟨v,h1,h2⟩:=h
  exact Ft rfl (iV (qJ rfl) rfl) h1 h2
 unfold OI
 have hu:=hb.un
 have hpl:=hb.pl
 rw[show A.cells 5 (.agg (bB s))=some (bB s)from rfl,bS,show A.aj 4 (bB s)=some (sl 3 bO s.bk)from rfl,bS,E9 (most:=140737488355328 / 24) (m:=NB) (r0:=NC) OK rfl (fun _ _=>rfl) (by omega) σ,bS]
 simp only
 rw[show((((A.cell (sl 3 bO s.bk)).bind fun v=>some [v]).bind fun c4=>(A.splice 4 c4 zX).bind fun c5=>some c5).bind fun cs=>some (AV.agg cs))=some (.agg [AV.au,AV.au,AV.au,AV.au,sl 3 bO s.bk])from rfl,bS,show A.cells 5 (.agg [AV.au,AV.au,AV.au,AV.au,sl 3 bO s.bk])=some [AV.au,AV.au,AV.au,AV.au,sl 3 bO s.bk]from rfl,bS,show A.splice 0 [AV.au,AV.au,AV.au,AV.au,sl 3 bO s.bk] zX=some [AV.au,AV.au,AV.au,AV.au,sl 3 bO s.bk]from rfl,bS,show A.aj 1 (bB s)=some (sl 4 bV s.aQ.units)from rfl,bS,E9 (most:=140737488355328 / 40) (m:=NJ) (r0:=NL) Qf rfl (fun _ _=>rfl) (by omega) σ,bS]
 simp only
 rw[show((A.cell (sl 4 bV s.aQ.units)).bind fun v=>some [v])=some [sl 4 bV s.aQ.units]from rfl,bS,show A.splice 1 [sl 4 bV s.aQ.units] [AV.au,AV.au,AV.au,AV.au,sl 3 bO s.bk]=some [AV.au,sl 4 bV s.aQ.units,AV.au,AV.au,sl 3 bO s.bk]from rfl,bS,VC,bS,fE,bS]
 obtain⟨v1,W1,l1,K1⟩:=alX hb (R:=emp) (HQ (B:=bP) σ) (sl 4 bV s.aQ.units) (sl 3 bO s.bk) (.lbx zX)
 refine R4 l1 ?_
 simp only[mJ,List.getD_cons_zero,List.getD_cons_succ,hG,bS]
 rw[show A.aj 2 (bB s)=some (sl 3 dL s.bH)from rfl,bS,fE,bS]
 obtain⟨v2,W2,l2,K2⟩:=alY hb K1 v1 (sl 4 bV s.aQ.units) (sl 3 bO s.bk) (.lbx zX) (zP K1)
 refine R4 l2 ?_
 simp only[mJ,List.getD_cons_zero,List.getD_cons_succ,hG,bS]
 rw[show A.aj 3 (bB s)=some (sl 2 dQ s.lists)from rfl,bS,fE,bS]
 obtain⟨v3,W3,l3,K3⟩:=alZ hb K2 v1 (sl 4 bV s.aQ.units) v2 (sl 3 bO s.bk) (.lbx zX)
 refine R4 l3 ?_
 simp only[mJ,List.getD_cons_zero,List.getD_cons_succ,hG,bS]
 rw[show A.ay 0 5 [v1,sl 4 bV s.aQ.units,v2,v3,sl 3 bO s.bk]=some (.agg [v1,sl 4 bV s.aQ.units,v2,v3,sl 3 bO s.bk])from rfl,bS,show A.cells 5 (.agg [v1,sl 4 bV s.aQ.units,v2,v3,sl 3 bO s.bk])=some [v1,sl 4 bV s.aQ.units,v2,v3,sl 3 bO s.bk]from rfl,bS,show A.splice 0 [v1,sl 4 bV s.aQ.units,v2,v3,sl 3 bO s.bk] zX=some [v1,sl 4 bV s.aQ.units,v2,v3,sl 3 bO s.bk]from rfl,bS,show A.ay 0 5 [v1,sl 4 bV s.aQ.units,v2,v3,sl 3 bO s.bk]=some (.agg [v1,sl 4 bV s.aQ.units,v2,v3,sl 3 bO s.bk])from rfl,bS]
 have J1:=hs_eq (show _=Sl uZ 3 v1 s.aQ.aY*(Sl uY 2 v3 s.lists*(Sl (fl dL) 3 v2 s.bH*emp)) by ac_rfl) K3
 have J2:=hs_eq (show _=Sl (fl dL) 3 v2 s.bH*(Sl uY 2 v3 s.lists*(Sl uZ 3 v1 s.aQ.aY*emp)) by ac_rfl) K3
 obtain⟨v1',a1,a2⟩:=aiS J1 (Nat.le_refl _) 6
 obtain⟨v2',b1,b2⟩:=QE J2 VU (Nat.le_refl _) 7
 obtain⟨v3',c1,c2⟩:=aiz K3 (Nat.le_refl _) 6
 refine⟨.agg [v1',sl 4 bV s.aQ.units,v2',v3',sl 3 bO s.bk],?_,Mm K3 ?_ ?_⟩
 ·have Jk:A.nn (.e 3 [.k,.k,(.s 3)]) v2'=sl 3 dL s.bH:=by
   rcases b2 with⟨h,rfl|rfl⟩|rfl
   ·rw[h];rfl
   ·rw[h];rfl
   ·exact tY (fun _=>rfl) _
  show AV.agg (A.bW [(.e 3 [.k,.k,(.e 7 MG)]),(.s 4),(.e 3 [.k,.k,(.s 3)]),(.e 2 [.k,(.e 11 FW)]),(.s 3)] _)=_
  simp only[A.bW,a2,Jk,c2]
  rfl
 ·simp only[A.bw,A.eO,a1,b1,c1,oZ Qf _ W3 σ.length 8,oZ OK _ W3 σ.length 8,Option.bind_some,Option.map_some]
 ·intro e
  have n1:v1'=v1:=by
   rcases zu J1 with⟨_,rfl|rfl,_⟩|⟨id,g,seg,rfl,hl,K⟩
   ·simp [A.bw]at a1;exact a1.symm
   ·simp [A.bw]at a1;exact a1.symm
   ·obtain⟨k1,k2⟩:=iD K
    have:=(List.getElem?_eq_some_iff.1 k2).1
    subst e;omega
  have n2:v2'=v2:=by
   rcases zu J2 with⟨_,rfl|rfl,_⟩|⟨id,g,seg,rfl,hl,K⟩
   ·simp [A.bw]at b1;exact b1.symm
   ·simp [A.bw]at b1;exact b1.symm
   ·obtain⟨k1,k2⟩:=iD K
    have:=(List.getElem?_eq_some_iff.1 k2).1
    subst e;omega
  have n3:v3'=v3:=by
   rcases zu K3 with⟨_,rfl|rfl,_⟩|⟨id,g,seg,rfl,hl,K⟩
   ·simp [A.bw]at c1;exact c1.symm
   ·simp [A.bw]at c1;exact c1.symm
   ·obtain⟨k1,k2⟩:=iD K
    have:=(List.getElem?_eq_some_iff.1 k2).1
    subst e;omega
  rw[n1,n2,n3]
end
end Go.Proofs.YtooknfkholjpbaaGreat
