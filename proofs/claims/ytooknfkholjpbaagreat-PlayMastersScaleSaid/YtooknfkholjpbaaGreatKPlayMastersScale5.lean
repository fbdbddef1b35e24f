/- Parts of the proof of PlayMastersScale, in order. -/
import Derived.Orders
import Derived.Below
import Derived.WalkKit
import Derived.Laws.StructEq
import Derived.Laws.Append
import Derived.Laws.AppendOwn
import Derived.Test.YtooknfkholjpbaaGreatRows
import Derived.KernelRfl
import Derived.Lib.Bytealg
import Derived.Sort.Defs
import Derived.Lib.BitFns
import Derived.Test.YtooknfkholjpbaaGreatShelf
import Derived.Laws.Externs
import Derived.WalkSpells
import Derived.ProofKit
import Derived.OpenShut
import Derived.Deep.QuietTactic
import Derived.BigQuiet
import Derived.Lib.Hide
import Derived.IntWalk
import Derived.Deep.RegionHeld3
import Derived.Deep.Slices
import Derived.OwnWalk
import Derived.Laws.OwnMore
import Derived.Deep.OwnRows
import Derived.Deep.RegionHeld
import Derived.Deep.AppendLies
import Derived.Lib.Overlaps
import Derived.Sort.Statements
import Derived.Shelf.SlSortCmp.WholeK
import Derived.Shelf.SlSortCmp.NoneTotal
import Derived.Sort.AssemblyPlain
import Derived.Lib.Strings
import Derived.Test.YtooknfkholjpbaaGreatKPlayMastersScale4
namespace Go.Proofs.YtooknfkholjpbaaGreat
set_option linter.unusedVariables false
set_option linter.unusedSimpArgs false
set_option linter.unusedSectionVars false
section
open HP Go.Sort
theorem ad6{α:Type}{r:α→α→Prop}(Rh:∀x,¬r x x)(tr:∀x y z,r x y→r y z→r x z):∀{a b:List α},a.Pairwise r→b.Pairwise r→(∀x,x∈a↔x∈b)→a=b
 |[],[],_,_,_=>rfl
 |[],y::b,_,_,h=>by have:=(h y).2 (by simp);simp at this
 |x::a,[],_,_,h=>by have:=(h x).1 (by simp);simp at this
 |x::a,y::b,ha,hb,h=>by
  have ha':=List.pairwise_cons.1 ha;have hb':=List.pairwise_cons.1 hb
  have hxy:x=y:=by
   rcases jt.1 ((h x).1 (by simp))with e|m1
   ·exact e
   rcases jt.1 ((h y).2 (by simp))with e|m2
   ·exact e.symm
   exact(Rh y (tr _ _ _ (hb'.1 x m1) (ha'.1 y m2))).elim
  subst hxy;congr 1;refine ad6 Rh tr ha'.2 hb'.2 λz=>⟨λhz=>?_,λhz=>?_⟩
  ·rcases jt.1 ((h z).1 (by simp [hz]))with e|m
   ·exact(Rh x (e▸ha'.1 z hz)).elim
   ·exact m
  ·rcases jt.1 ((h z).2 (by simp [hz]))with e|m
   ·exact(Rh x (e▸hb'.1 z hz)).elim
   ·exact m
theorem O0{α:Type}[Inhabited α]{cf:α→α→Int}(hS:SWO (λx y=>decide (cf x y<0))) (l:List α):(xP cf l).Perm l∧(xP cf l).Pairwise λx y=>¬cf y x<0:=by
 obtain⟨⟨h1,_,h3⟩,h2⟩:=pdq_sorts (λx y=>decide (cf x y<0)) hS l.toArray 0 l.length (Lib.bitLen l.length) true true (jQ _) (by simp) (Or.inl rfl);unfold xP;generalize pdq (λx y=>decide (cf x y<0)) l.toArray 0 l.length (Lib.bitLen l.length) true true=d' at h1 h2 h3;have hs:d'.size=l.length:=by simpa using h1
 refine⟨?_,?_⟩
 ·have e1:d'.extract 0 l.length=d':=by rw[←hs];simp
  have e2:l.toArray.extract 0 l.length=l.toArray:=by simp
  rw[e1,e2]at h3;exact h3
 ·rw[List.pairwise_iff_getElem];intro i j hi hj hij;simp only[Array.length_toList]at hi hj;have:=h2 i j (jQ _) hij (by omega);simp only[getElem!_pos d' i hi,getElem!_pos d' j hj]at this;simpa using this
theorem anN{α:Type}[Inhabited α](f:α→aG){l:List α}(hn:∀x∈l,∀y∈l,f x=f y→x=y)(hd:l.Nodup):(xP (λa b=>ud (f a) (f b)) l).Pairwise λa b=>gQ (f a) (f b)=true:=by
 obtain⟨h1,h2⟩:=O0 (Jh f) l;have hnd:(xP (λa b=>ud (f a) (f b)) l).Pairwise (λx y=>x≠y):=(h1.nodup_iff).2 hd;refine List.Pairwise.imp_of_mem (R:=λx y=>(¬ud (f y) (f x)<0)∧x≠y) ?_ (h2.and hnd);rintro x y hx hy ⟨q1,q2⟩;cases e:gQ (f x) (f y)
 ·exfalso
  have e2:gQ (f y) (f x)=false:=by
   cases e2:gQ (f y) (f x)
   ·rfl
   ·exact absurd ((DZ _ _).2 e2) q1
  exact q2 (hn x (h1.mem_iff.1 hx) y (h1.mem_iff.1 hy) (UT e e2))
 ·rfl
theorem Z6{l:List bD}(h:pO l){k:aG}{x:bD}:nM l k=some x↔x∈l∧x.key=k:=by
 constructor
 ·intro e;exact⟨An e,of_decide_eq_true (List.find?_some (p:=λm:bD=>decide (m.key=k)) e)⟩
 ·rintro⟨hm,hk⟩;cases e:nM l k with
  |none=>have:=List.find?_eq_none.1 e x hm;simp [hk]at this
  |some y=>have hy:=An e;have hyk:y.key=k:=of_decide_eq_true (List.find?_some (p:=λm:bD=>decide (m.key=k)) e);obtain⟨i,hi⟩:=um.1 hm;obtain⟨j,hj⟩:=um.1 hy;have e1:=PR h hi hk;have e2:=PR h hj hyk;rw[←e1,e2,hj]at hi;exact hi
theorem Ug{k:aG}{v:bD}:∀{s:List (aG×bD)},sX s→(dh k s=some v↔(k,v)∈s)
 |[],_=>by simp [dh]
 |(a,b)::s,h=>by
  unfold sX at h;rw[eY,qt]at h;rw[dh];by_cases e:k=a
  ·subst e;rw[aO rfl];constructor
   ·intro q;injection q with q;simp [q]
   ·intro q;rcases jt.1 q with q|q
    ·injection q with _ q;rw[q]
    ·exact(h.1 (ia.2 ⟨_,q,rfl⟩)).elim
  ·rw[aK e,Ug h.2];constructor
   ·intro q;exact sM _ q
   ·intro q;rcases jt.1 q with q|q
    ·injection q with q _;exact(e q).elim
    ·exact q
def EP(s:List (aG×bD)):Prop:=∀p∈s,p.2.key=p.1
theorem ab5{ν:Type}{k:aG}{v:ν}:∀{s:List (aG×ν)}{x:aG×ν},x∈eH k v s→x∈s∨x=(k,v)
 |[],x,h=>by simp [eH]at h;exact .inr h
 |(a,b)::s,x,h=>by
  rw[eH]at h;split at h
  ·rcases jt.1 h with rfl|h
   ·exact .inr rfl
   ·exact .inl (sM _ h)
  ·rcases jt.1 h with rfl|h
   ·exact .inl List.mem_cons_self
   ·rcases ab5 h with h|h
    ·exact .inl (sM _ h)
    ·exact .inr h
theorem akp(l:List bE):EP (Gc l):=by
 have inner:∀(n:Int)(ms:List gX)(s:List (aG×bD)),EP s→EP (ms.foldl (sK n) s):=by
  intro n ms;induction ms with
  |nil=>intro s h;exact h
  |cons m ms ih=>
   intro s hs;refine ih _ (λp hp=>?_);unfold sK at hp;split at hp
   ·exact hs p (UU hp)
   ·rcases ab5 hp with hp|hp
    ·exact hs p hp
    ·rw[hp]
 have key:∀(l:List bE)(s:List (aG×bD)),EP s→EP (l.foldl (λs c=>c.eB.foldl (sK c.aA) s) s):=by
  intro l;induction l with
  |nil=>intro s h;exact h
  |cons c l ih=>intro s hs;exact ih _ (inner c.aA c.eB s hs)
 exact key l [] (by intro p hp;cases hp)
theorem aiT{s d:List (aG×bD)}{st:List bD}(hS:CK s st)(hk:EP s)(hp:d.Perm s)[Inhabited bD]:xP (λa b:bD=>ud a.key b.key) (d.map (·.2))=st:=by
 obtain⟨h1,h2,h3⟩:=hS
 have rX:sX d:=by unfold sX at h1 ⊢;exact((hp.map (·.1)).nodup_iff).2 h1
 have Q9:EP d:=λp hp'=>hk p (hp.mem_iff.1 hp')
 have he:d.map (·.1)=(d.map (·.2)).map (·.key):=by rw[List.map_map];exact(List.map_congr_left λp hp'=>(Q9 p hp').symm)
 have hnk:((d.map (·.2)).map (·.key)).Nodup:=by rw[←he];exact rX
 have hinj:∀x∈d.map (·.2),∀y∈d.map (·.2),x.key=y.key→x=y:=by
  intro x hx y hy e;obtain⟨i,hi⟩:=um.1 hx;obtain⟨j,hj⟩:=um.1 hy;have hi':=(bQ.1 hi).1
  have hij:i=j:=by
   refine(List.getElem?_inj (l:=(d.map (·.2)).map (·.key)) (by simpa using hi') hnk).1 ?_;have q1:((d.map (·.2)).map (·.key))[i]? =some x.key:=by rw[qH,hi];rfl
   have q2:((d.map (·.2)).map (·.key))[j]? =some y.key:=by rw[qH,hj];rfl
   rw[q1,q2,e]
  subst hij;rw[hi]at hj;injection hj
 have hs:=anN (f:=λe:bD=>e.key) hinj ((List.pairwise_map.1 hnk).imp λh e=>h (congrArg _ e));refine ad6 (r:=λa b:bD=>gQ a.key b.key=true) (λx q=>by rw[Ed]at q;cases q) (λx y z=>IU) hs h2 λx=>?_
 have hmem:=(O0 (Jh λe:bD=>e.key) (d.map (·.2))).1.mem_iff (a:=x);rw[hmem,(hp.map (·.2)).mem_iff];constructor
 ·intro hx;obtain⟨p,hp1,hp2⟩:=ia.1 hx;have hpk:=hk p hp1;have:dh p.1 s=some p.2:=(Ug h1).2 hp1;rw[h3]at this;rw[←hp2];exact((Z6 h2).1 this).1
 ·intro hx;have:nM st x.key=some x:=(Z6 h2).2 ⟨hx,rfl⟩;rw[←h3]at this;exact ia.2 ⟨_,(Ug h1).1 this,rfl⟩
section
variable {aJ σ : Heap} {R : HP}
theorem an6{α:Type}[Inhabited α]{c:α→aq}{sz:Nat}{cf:α→α→Int}(hinj:∀x y,c x=c y→x=y){v:AV}{l:List α}(hl:l≠[])(hlen:l.length<4611686018427387904)(hS:SWO (λx y=>decide (cf x y<0))) (H:Hs cS aJ σ (Sl (fl c) sz v l*R)):
  ∃σ',A.LN sz c cf v σ=some (.aL [],σ')∧Hs cS aJ σ' (Sl (fl c) sz v (xP cf l)*R):=by
 rcases Bw H with⟨h,_,_⟩|⟨id,g,rfl,K⟩
 ·exact absurd h hl
 obtain⟨_,h2⟩:=kC K;have hp:0<l.length:=List.length_pos_iff.2 hl
 have hc:(g=g∧sz=sz∧sz=sz∧0+l.length≤(l.map c).length∧0<l.length∧l.length<4611686018427387904)∧∃l':List α,((l.map c).drop 0).take l.length=l'.map c:=
  ⟨⟨rfl,rfl,rfl,by simp,hp,hlen⟩,l,by rw[List.drop_zero,rS (by simp)]⟩
 have hch:Classical.choose hc.2=l:=by
  have h9:=Classical.choose_spec hc.2;have e9:((l.map c).drop 0).take l.length=l.map c:=by rw[List.drop_zero,rS (by simp)]
  exact((List.map_inj_right hinj).1 (e9.symm.trans h9)).symm
 refine⟨σ.set id (.arr g sz ((xP cf l).map c)),?_,?_⟩
 ·unfold A.LN;simp only[h2];rw[dif_pos hc,hch,List.take_zero,List.nil_append,List.drop_of_length_le (by simp),List.append_nil]
 ·have hle:(xP cf l).length=l.length:=(O0 hS l).1.length_eq;exact Qc (CC (b':=.arr g sz ((xP cf l).map c)) K trivial) hle.symm
theorem amq(e:bD):(((A.cells 5 (.agg (dR e))).bind λiM=>(A.au 0 iM [(AV.ah 0),bB,(AV.ah 0),(AV.ah 0),(AV.ah 0)]).bind λfJ=>some fJ).bind λcs=>some (AV.sl 5 (gf 5 1 cs)))=some (.sl 5 [dR e]):=rfl
theorem arL{B:aS→Prop}{v:AV}{l:List bD}(k:bD)(hl:l.length<1000000)(hB:∀g g' seg,(seg=[]∨B (.arr g 5 seg))→B (.arr g' 5 (seg++[dR k])))(H:Hs B aJ σ (Sl (fl dR) 5 v l*R)):
  ∃v' σ',A.append 5 (140737488355328 / 48) v (.sl 5 [dR k]) σ=some (v',σ')∧Hs B aJ σ' (Sl (fl dR) 5 v' (l++[k])*R):=
 LG (ys:=[dR k]) (xs:=[k]) (eu (show pr (dR k=dR k)*(Sl (fl dR) 5 v l*R)=_ by
  rw[show els (fl dR) [dR k] [k]=pr (dR k=dR k)*emp from rfl,w8,D2];ac_rfl) (qm.2 ⟨rfl,H⟩)) (by simp;omega) hB
theorem aok{l:List bE}(hl:gE Ew l){n:Int}(hn:aU n)(σ:Heap):Ox [sl 11 bA l,.ah n] σ=some (.aL [sl 5 dR (BA l n).1,.ah (BA l n).2],σ):=by
 have run:OC (sl 11 bA l) (.ah n) σ=some (.aL [sl 5 dR (BA l n).1,.ah (BA l n).2],σ):=by
  unfold OC BA;rw[Z4 (adF l hl),aY,aeW,aY];by_cases hf:uj l=0
  case neg=>
   rw[ct hf,dO,aO hf,cg,cC];exact congrArg (λz=>some (z,σ)) (PM rfl)
  have hg:=UO hf;have hlen:=hg.len;rw[bZ (by simp [hf]),dw,aK (by simp [hf])];obtain⟨p,e1,e2,e3⟩:=apw hg hn σ;rw[e1,aY,mo,aY,ext1,aY,show A.not (.bool (AF l n))=some (.bool (!AF l n))from rfl,aY];cases hh:AF l n
  ·rw[show(!false)=true from rfl,dO,aO rfl,cg,cC];exact congrArg (λz=>some (z,σ)) (PM rfl)
  rw[show(!true)=false from rfl,dw,aK (by decide)];have e4:=e3 (.inr hh);subst e4;obtain⟨x,hx,hxn⟩:=ao0 hg hh;generalize nQ l n=a at hx ⊢;have Dv:=(bQ.1 hx).1;obtain⟨st,hst⟩:∃st,st=Gc (l.take (a+1)):=⟨_,rfl⟩
  have hS:CK st (D7 (l.take (a+1))):=hst▸akW _;have hk:EP st:=hst▸akp _
  have oB:st.length≤600000:=by
   have h1:=amB (l:=l.take (a+1)) (λc hc=>(hg.mv c (wC hc)).1);have h2:(l.take (a+1)).length≤300:=by simp;omega
   rw[hst];exact Nat.le_trans h1 (qp 2000 h2)
  have hcs:KL [sl 11 bA (l.take (a+1))] σ=some (fmS st,σ):=by rw[hst];exact ajd (apM (by simp;unfold bu;omega) (λc hc=>by have:=(hg.mv c (wC hc)).1;unfold bu;omega))
  rw[Qv (by omega),aY,show A.Gb 11 (sl 11 bA l) none (some (.ah ((a+1:Nat):Int))) σ=some (sl 11 bA (l.take (a+1)))from ajI 11 bA l (by omega),aY,hcs,aY];rw[show A.Eo (fmS st)=some (st.map AE)from rfl,aY];simp only;refine TM (α:=aG×bD) (enc:=AE) (it:=σ.length) (es:=st) _ _ (λ_ _ _=>rfl) (λd lf w s=>∃h c,w=[h]∧(d=[]→h=.az)∧Hs cS σ s (blk σ.length (.it c (lf.map AE))*(Sl (fl dR) 5 h (d.map (·.2))*emp))) ?_ ?_ ?_ ?_
  ·rintro d lf w s ⟨h,c,rfl,_,K⟩;exact⟨c,(kC K).2⟩
  ·rintro d lf w s j p hp ⟨h,c,rfl,_,K⟩ hj;have K':=CC (b':=.it [AE p] ((lf.eraseIdx j).map AE)) K trivial;obtain⟨_,hgt⟩:=kC K';generalize s.set σ.length (aS.it [AE p] ((lf.eraseIdx j).map AE))=jJ at K' hgt ⊢;have oz:d.length≤st.length:=by have:=hp.length_eq;simp at this;omega
   obtain⟨h',s',g1,K2⟩:=arL p.2 (by simp;omega) (λ_ _ _ _=>trivial) (eu (show _=Sl (fl dR) 5 h (d.map (·.2))*(blk σ.length (.it [AE p] ((lf.eraseIdx j).map AE))*emp) by ac_rfl) K');have Mm:A.yO (.op σ.length 0) jJ=some (.aL [.agg (aX p.1),.agg (dR p.2)]):=by simp only[A.yO,hgt];rfl
   refine⟨[h'],s',λk=>?_,h',_,rfl,λq=>by simp at q,eu (by rw[List.map_append];show Sl (fl dR) 5 h' (d.map (·.2)++[p.2])*_=_;ac_rfl) K2⟩;rw[Mm,aY,ext1,aY,show A.cells 5 (.agg (dR p.2))=some (dR p.2)from rfl,aY,amA p.2 _ rfl,aY,show A.aC 0 5 (dR p.2)=some (.agg (dR p.2))from rfl,aY,amq,aY];simp only[bW];rw[g1,aY]
  ·rintro d w s hp ⟨h,c,rfl,ate,K⟩;have K2:=zX K;simp only[Xq,bW]
   letI:Inhabited bD:=⟨⟨⟨0,⟨#[]⟩⟩,⟨0,0⟩,0⟩⟩
   have hsort:∃s',Kp [h,.fn 297 []] s=some (.aL [],s')∧Hs cS σ s' (Sl (fl dR) 5 h (D7 (l.take (a+1)))*emp):=by
    have hres:=aiT hS hk hp;by_cases hd:d=[]
    ·subst hd;rw[ate rfl]at K2 ⊢;refine⟨s,rfl,?_⟩;rw[List.map_nil]at hres K2
     have:D7 (l.take (a+1))=[]:=by rw[←hres];exact Am (by rw[(O0 (Jh λe:bD=>e.key) []).1.length_eq];rfl)
     rw[this];exact K2
    ·have oz:d.length≤st.length:=by have:=hp.length_eq;omega
     obtain⟨s',g1,K3⟩:=an6 (cf:=λa b:bD=>ud a.key b.key) ZT (by simpa using hd) (by simp;omega) (Jh λe:bD=>e.key) K2;rw[hres]at K3;exact⟨s',g1,K3⟩
   obtain⟨s',g1,K3⟩:=hsort;rw[g1,aY];obtain⟨v',j1,j2⟩:=anb (e:=0) aaT K3;rw[j1,cC];exact congrArg (λz=>some (z,σ)) (PM j2)
  ·have K2:=Jn (b:=aS.it [] (st.map AE)) (LF (B:=cS) σ) trivial;refine⟨.az,[],rfl,λ_=>rfl,?_⟩;rw[List.map_nil];exact eu (show _=blk σ.length (aS.it [] (st.map AE))*(Sl (fl dR) 5 .az []*emp) by ac_rfl) (uL (v:=.az) (E:=fl dR) (sz:=5) K2 (.inl rfl))
 refine wrap_eq rfl ?_ (PM (v:=sl 5 dR (BA l n).1) rfl);rw[show A.dr [Sh.e 11 [.k,.k,.k,.k,.k,.k,.k,.s 2,.k,.k,.s 8]] [sl 11 bA l,.ah n]=[sl 11 bA l,.ah n]from apl l _];exact run
end
end
def qy{κ ν:Type}(eK:κ→AV)(eV:ν→AV):Option (List (κ×ν))→AV
 |none=>.nm
 |some l=>yg eK eV l
theorem aoU{κ ν:Type}{eK:κ→AV}{eV:ν→AV}(hk:∀k,Fz (eK k))(hv:∀v,Fz (eV v))(l:List (κ×ν)):Fz (yg eK eV l):=by
 intro σ n d
 have:A.sU σ n d (l.map λp=>(eK p.1,eV p.2))=some (l.map λp=>(eK p.1,eV p.2)):=by
  induction l with
  |nil=>simp [A.sU]
  |cons x l ih=>simp [A.sU,hk x.1 σ n d,hv x.2 σ n d,ih]
 cases d<;>simp [A.bM,yg,this]
theorem arb:Fz .nm:=λ_ _ d=>by cases d<;>simp [A.bM]
theorem aqg{κ ν:Type}{eK:κ→AV}{eV:ν→AV}(hk:∀k,Fz (eK k))(hv:∀v,Fz (eV v))(o:Option (List (κ×ν))):Fz (qy eK eV o):=by
 cases o with
 |none=>exact arb
 |some l=>exact aoU hk hv l
structure Cz where
 shown:Int
 since:Int
 mD:Bool
def yM(x:Cz):aq:=[.ah x.shown,.ah x.since,.bool x.mD]
theorem ZG(x:Cz):A.ak 0 (yM x)=some (.ah x.shown):=rfl
theorem ajn(x:Cz):A.ak 1 (yM x)=some (.ah x.since):=rfl
theorem ajo(x:Cz):A.ak 2 (yM x)=some (.bool x.mD):=rfl
theorem TW(x:Cz):A.cells 3 (.agg (yM x))=some (yM x):=rfl
structure dB where
 l6:jd
 oJ:Int
 ending:Bool
def gO(x:dB):aq:=[.ah x.l6.eD,.ah x.l6.to,.ah x.l6.start,.ah x.l6.cD,.ah x.l6.time,.ah x.l6.gP.kind,sl 2 jB x.l6.gP.ck,.ah x.oJ,.bool x.ending]
theorem alu(x:dB):(gO x).length=9:=rfl
theorem akA(x:dB):A.ak 1 (gO x)=some (.ah x.l6.to):=rfl
theorem akB(x:dB):A.ak 2 (gO x)=some (.ah x.l6.start):=rfl
theorem akC(x:dB):A.ak 3 (gO x)=some (.ah x.l6.cD):=rfl
theorem akD(x:dB):A.ak 4 (gO x)=some (.ah x.l6.time):=rfl
theorem KU(x:dB):A.ak 7 (gO x)=some (.ah x.oJ):=rfl
theorem OL(x:dB):A.ak 8 (gO x)=some (.bool x.ending):=rfl
theorem ah5(x:dB):A.aC 0 7 (gO x)=some (.agg (gY x.l6)):=rfl
theorem yI(x:dB):A.aC 0 9 (gO x)=some (.agg (gO x)):=rfl
theorem By(x:dB):A.cells 9 (.agg (gO x))=some (gO x):=rfl
theorem D6(x:dB)(l:aq)(h:l.length=9):A.au 0 (gO x) l=some (gO x):=by simp [A.au,alu,h]
theorem abW(x:dB):lC (gO x):=(dm (fA _ _) (dm (fA _ _) (dm (fA _ _) (dm (fA _ _) (dm (fA _ _) (dm (fA _ _) (dm (sF T3 _) (dm (fA _ _) (dm (Ea _) sv)))))))))
structure bC where
 aM:Cz
 aA:Int
 ku:Int
 bU:(List bE)
 cZ:Int
 kY:Int
 eF:Int
 runs:(Option (List (aG×dB)))
def aV(x:bC):aq:=[.ah x.aM.shown,.ah x.aM.since,.bool x.aM.mD,.ah x.aA,.ah x.ku,sl 11 bA x.bU,.ah x.cZ,.ah x.kY,.ah x.eF,qy (λx=>AV.agg (aX x)) (λx=>AV.agg (gO x)) x.runs]
theorem ajm(x:bC):A.ak 3 (aV x)=some (.ah x.aA):=rfl
theorem amd(x:bC):A.aC 0 10 (aV x)=some (.agg (aV x)):=rfl
theorem alx(x:bC):A.cells 10 (.agg (aV x))=some (aV x):=rfl
theorem FK(x:bC):lC (aV x):=(dm (fA _ _) (dm (fA _ _) (dm (Ea _) (dm (fA _ _) (dm (fA _ _) (dm (sF PK _) (dm (fA _ _) (dm (fA _ _) (dm (fA _ _) (dm (aqg (λx=>Ab (Cu x)) (λx=>Ab (abW x)) _) sv))))))))))
theorem ai4(x:bC){σ:Heap}:((A.deref (.rp ((aV x).drop 1)) σ).bind λc=>A.ak 0 c)=some (.ah x.aM.since):=rfl
theorem ai5(x:bC){σ:Heap}:((A.deref (.rp ((aV x).drop 2)) σ).bind λc=>A.ak 0 c)=some (.bool x.aM.mD):=rfl
theorem Ou(x:bC){σ:Heap}:((A.deref (.rp ((aV x).drop 3)) σ).bind λc=>A.ak 0 c)=some (.ah x.aA):=rfl
theorem KK(x:bC){σ:Heap}:((A.deref (.rp ((aV x).drop 4)) σ).bind λc=>A.ak 0 c)=some (.ah x.ku):=rfl
theorem ai6(x:bC){σ:Heap}:((A.deref (.rp ((aV x).drop 7)) σ).bind λc=>A.ak 0 c)=some (.ah x.kY):=rfl
theorem Zs(x:bC){σ:Heap}:((A.deref (.rp ((aV x).drop 8)) σ).bind λc=>A.ak 0 c)=some (.ah x.eF):=rfl
theorem Ov(x:bC){σ:Heap}:((A.deref (.rp ((aV x).drop 9)) σ).bind λc=>A.ak 0 c)=some (qy (λx=>AV.agg (aX x)) (λx=>AV.agg (gO x)) x.runs):=(by unfold aV;cases x.runs<;>rfl)
structure cE where
 aD:(List bC)
 aA:Int
 l5:Int
 black:Bool
def uV(x:cE):aq:=[sl 10 aV x.aD,.ah x.aA,.ah x.l5,.bool x.black]
theorem Zv(x:cE){σ:Heap}:((A.deref (.rp ((uV x).drop 0)) σ).bind λc=>A.ak 0 c)=some (sl 10 aV x.aD):=rfl
theorem ai7(x:cE){σ:Heap}:((A.deref (.rp ((uV x).drop 2)) σ).bind λc=>A.ak 0 c)=some (.ah x.l5):=rfl
theorem ai8(x:cE){σ:Heap}:((A.deref (.rp ((uV x).drop 3)) σ).bind λc=>A.ak 0 c)=some (.bool x.black):=rfl
structure bJ where
 state:cE
 setup:iT
 keys:(List aG)
 params:(Option (List (aG×fu)))
 bV:(List fk)
def uh(x:bJ):aq:=[sl 10 aV x.state.aD,.ah x.state.aA,.ah x.state.l5,.bool x.state.black,sl 3 cI x.setup.aZ.bg,sl 4 dg x.setup.aZ.cW,sl 3 fq x.setup.cA,sl 2 fD x.setup.cV,sl 3 dI x.setup.cm,sl 2 aX x.keys,qy (λx=>AV.agg (aX x)) (λx=>AV.agg (eX x)) x.params,sl 5 bX x.bV]
theorem Zt(x:bJ){σ:Heap}:((A.deref (.rp ((uh x).drop 10)) σ).bind λc=>A.ak 0 c)=some (qy (λx=>AV.agg (aX x)) (λx=>AV.agg (eX x)) x.params):=(by unfold uh;cases x.params<;>rfl)
theorem Zu(x:bJ){σ:Heap}:((A.deref (.rp ((uh x).drop 11)) σ).bind λc=>A.ak 0 c)=some (sl 5 bX x.bV):=rfl
section
set_option maxRecDepth 100000
open HP
def wd(n:Nat):aq:=[.int .u64 ((n / 18446744073709551616:Nat):Int),.int .u64 ((n % 18446744073709551616:Nat):Int)]
theorem QN{n:Nat}(h:n<18446744073709551616):IntKind.u64.wrap (n:Int)=(n:Int):=by rw[IntKind.wrap_u64];omega
theorem PV{r:AV→AV→Heap→aH}{x y v:AV}{σ:Heap}(h:[x,y].any A.own=false)(e:r x y σ=some (v,σ)):A.wrap true [] .k (A.dL r) [x,y] σ=some (v,σ):=by refine wrap_eq h ?_ (kF _);rw[show A.dr [] [x,y]=[x,y] by simp [A.dr]];exact e
theorem BW{n:Nat}(h:n<9223372036854775808)(σ:Heap):rA [.ah (n:Int)] σ=some (.agg (wd n),σ):=by
 refine wrap_eq rfl ?_ (kF _);show TK (.ah (n:Int)) σ=_;unfold TK;rw[show A.conv .u64 (.ah (n:Int))=some (.int .u64 (IntKind.u64.wrap (n:Int)))from rfl,bS,QN (by omega)]
 have e:wd n=[.int .u64 0,.int .u64 (n:Int)]:=by unfold wd;rw[Nat.div_eq_of_lt (by omega),Nat.mod_eq_of_lt (by omega)];rfl
 rw[e];exact cg _ _
theorem ape{x y:Nat}(hx:x<18446744073709551616)(hy:y<18446744073709551616)(σ:Heap):KH [.int .u64 (x:Int),.int .u64 (y:Int)] σ=some (.aL [.int .u64 ((x*y / 18446744073709551616:Nat):Int),.int .u64 ((x*y % 18446744073709551616:Nat):Int)],σ):=by
 have h:0≤(x:Int)∧(x:Int)<18446744073709551616∧0≤(y:Int)∧(y:Int)<18446744073709551616:=by omega
 have e:∀(a b:Int),KH [.int .u64 a,.int .u64 b] σ=if 0≤a∧a<18446744073709551616∧0≤b∧b<18446744073709551616 then some (.aL [.int .u64 ((a.toNat*b.toNat / 18446744073709551616:Nat):Int),.int .u64 ((a.toNat*b.toNat % 18446744073709551616:Nat):Int)],σ)else none:=λa b=>rfl
 rw[e,aO h,Int.toNat_natCast,Int.toNat_natCast]
theorem acC{x y c:Nat}(hx:x<18446744073709551616)(hy:y<18446744073709551616)(hc:c≤1)(σ:Heap):IB [.int .u64 (x:Int),.int .u64 (y:Int),.int .u64 (c:Int)] σ=some (.aL [.int .u64 (((x+y+c) % 18446744073709551616:Nat):Int),.int .u64 (((x+y+c) / 18446744073709551616:Nat):Int)],σ):=by
 have h:0≤(x:Int)∧(x:Int)<18446744073709551616∧0≤(y:Int)∧(y:Int)<18446744073709551616∧0≤(c:Int)∧(c:Int)≤1:=by omega
 have e:∀(a b d:Int),IB [.int .u64 a,.int .u64 b,.int .u64 d] σ=if 0≤a∧a<18446744073709551616∧0≤b∧b<18446744073709551616∧0≤d∧d≤1 then some (.aL [.int .u64 (((a.toNat+b.toNat+d.toNat) % 18446744073709551616:Nat):Int),.int .u64 (((a.toNat+b.toNat+d.toNat) / 18446744073709551616:Nat):Int)],σ)else none:=λa b d=>rfl
 rw[e,aO h,Int.toNat_natCast,Int.toNat_natCast,Int.toNat_natCast]
theorem Aa{a n:Nat}(h:a*n<340282366920938463463374607431768211456)(ha:a<340282366920938463463374607431768211456)(hn:n<9223372036854775808)(σ:Heap):tW [.agg (wd a),.ah (n:Int)] σ=some (.agg (wd (a*n)),σ):=by
 have e0:R6 (.agg (wd a)) (.ah (n:Int)) σ=some (.agg (wd (a*n)),σ)→tW [.agg (wd a),.ah (n:Int)] σ=some (.agg (wd (a*n)),σ):=λq=>PV rfl q
 refine e0 ?_;unfold R6;have hlo:a % 18446744073709551616<18446744073709551616:=Nat.mod_lt _ (by decide)
 have e1:a*n=(a / 18446744073709551616*n)*18446744073709551616+a % 18446744073709551616*n:=by have q:=Nat.div_add_mod a 18446744073709551616;generalize a / 18446744073709551616=hi at q;generalize a % 18446744073709551616=lo at q;subst q;rw[gJ,Nat.mul_assoc,Nat.mul_comm]
 generalize hp:a / 18446744073709551616*n=p at e1;generalize hq:a % 18446744073709551616*n=q at e1;have hhi:p+q / 18446744073709551616<18446744073709551616:=by omega
 have hd:(a*n) / 18446744073709551616=p+q / 18446744073709551616:=by omega
 have hm:(a*n) % 18446744073709551616=q % 18446744073709551616:=by omega
 rw[show A.cells 2 (.agg (wd a))=some (wd a)from rfl,bS,show A.ak 1 (wd a)=some (.int .u64 ((a % 18446744073709551616:Nat):Int))from rfl,bS,show A.conv .u64 (.ah (n:Int))=some (.int .u64 (IntKind.u64.wrap (n:Int)))from rfl,bS,QN (by omega),ape hlo (by omega),bS,mo,bS,ext1,bS,show A.ak 0 (wd a)=some (.int .u64 ((a / 18446744073709551616:Nat):Int))from rfl,bS,bS];rw[show A.mul (.int .u64 ((a / 18446744073709551616:Nat):Int)) (.int .u64 (n:Int))=some (.int .u64 (IntKind.u64.wrap (((a / 18446744073709551616:Nat):Int)*(n:Int))))from rfl,bS,←Int.natCast_mul,hp,hq,QN (by omega)];rw[show A.add (.int .u64 (p:Int)) (.int .u64 ((q / 18446744073709551616:Nat):Int))=some (.int .u64 (IntKind.u64.wrap ((p:Int)+((q / 18446744073709551616:Nat):Int))))from rfl,bS,←Int.natCast_add,QN hhi];have e:wd (a*n)=[.int .u64 ((p+q / 18446744073709551616:Nat):Int),.int .u64 ((q % 18446744073709551616:Nat):Int)]:=by unfold wd;rw[hd,hm]
 rw[e];exact cg _ _
theorem aqz{a b:Nat}(h:a+b<340282366920938463463374607431768211456)(σ:Heap):N7 [.agg (wd a),.agg (wd b)] σ=some (.agg (wd (a+b)),σ):=by
 have e0:Sc (.agg (wd a)) (.agg (wd b)) σ=some (.agg (wd (a+b)),σ)→N7 [.agg (wd a),.agg (wd b)] σ=some (.agg (wd (a+b)),σ):=λq=>PV rfl q
 refine e0 ?_;unfold Sc;have ha:a % 18446744073709551616<18446744073709551616:=Nat.mod_lt _ (by decide);have hb:b % 18446744073709551616<18446744073709551616:=Nat.mod_lt _ (by decide);rw[show A.cells 2 (.agg (wd a))=some (wd a)from rfl,bS,show A.cells 2 (.agg (wd b))=some (wd b)from rfl,bS,show A.ak 1 (wd a)=some (.int .u64 ((a % 18446744073709551616:Nat):Int))from rfl,bS,show A.ak 1 (wd b)=some (.int .u64 ((b % 18446744073709551616:Nat):Int))from rfl,bS];have e0:=acC ha hb (c:=0) (by omega) σ;rw[show((0:Nat):Int)=0 from rfl]at e0;rw[e0,bS,mo,bS,ext1,bS,show A.ak 0 (wd a)=some (.int .u64 ((a / 18446744073709551616:Nat):Int))from rfl,bS,show A.ak 0 (wd b)=some (.int .u64 ((b / 18446744073709551616:Nat):Int))from rfl,bS];simp only;rw[acC (by omega) (by omega) (by omega),bS,mo,bS,ext1,bS]
 have e:wd (a+b)=[.int .u64 (((a / 18446744073709551616+b / 18446744073709551616+(a % 18446744073709551616+b % 18446744073709551616+0) / 18446744073709551616) % 18446744073709551616:Nat):Int),.int .u64 (((a % 18446744073709551616+b % 18446744073709551616+0) % 18446744073709551616:Nat):Int)]:=by
  have d1:(a+b) / 18446744073709551616=(a / 18446744073709551616+b / 18446744073709551616+(a % 18446744073709551616+b % 18446744073709551616+0) / 18446744073709551616) % 18446744073709551616:=by omega
  have d2:(a+b) % 18446744073709551616=(a % 18446744073709551616+b % 18446744073709551616+0) % 18446744073709551616:=by omega
  unfold wd;rw[d1,d2]
 rw[e];exact cg _ _
theorem adQ(a b:Nat)(σ:Heap):Ir [.agg (wd a),.agg (wd b)] σ=some (.bool (decide (a<b)),σ):=by
 refine wrap_eq rfl ?_ (kF _);show Sb (.agg (wd a)) (.agg (wd b)) σ=_;unfold Sb
 rw[show A.cells 2 (.agg (wd a))=some (wd a)from rfl,bS,show A.cells 2 (.agg (wd b))=some (wd b)from rfl,bS,show A.ak 0 (wd a)=some (.int .u64 ((a / 18446744073709551616:Nat):Int))from rfl,bS,show A.ak 0 (wd b)=some (.int .u64 ((b / 18446744073709551616:Nat):Int))from rfl,bS,
  show A.lss (.int .u64 ((a / 18446744073709551616:Nat):Int)) (.int .u64 ((b / 18446744073709551616:Nat):Int))=some (.bool (decide (((a / 18446744073709551616:Nat):Int)<((b / 18446744073709551616:Nat):Int))))from rfl,bS]
 by_cases h1:a / 18446744073709551616<b / 18446744073709551616
 ·rw[ct (show((a / 18446744073709551616:Nat):Int)<((b / 18446744073709551616:Nat):Int) by omega)];rw[ct (show a<b by omega)];exact cg _ _
 rw[bZ (show ¬((a / 18446744073709551616:Nat):Int)<((b / 18446744073709551616:Nat):Int) by omega)]
 have hq:A.eql .i (.int .u64 ((a / 18446744073709551616:Nat):Int)) (.int .u64 ((b / 18446744073709551616:Nat):Int))=some (.bool (decide (((a / 18446744073709551616:Nat):Int)=((b / 18446744073709551616:Nat):Int)))):=by simp only[A.eql,A.fN,A.pX,if_true,cC];congr 2
 simp only[gF,bS];rw[hq];by_cases h2:a / 18446744073709551616=b / 18446744073709551616
 ·rw[ct (show((a / 18446744073709551616:Nat):Int)=((b / 18446744073709551616:Nat):Int) by omega)];simp only[gT,bS];rw[show A.ak 1 (wd a)=some (.int .u64 ((a % 18446744073709551616:Nat):Int))from rfl,bS,show A.ak 1 (wd b)=some (.int .u64 ((b % 18446744073709551616:Nat):Int))from rfl,bS,show A.lss (.int .u64 ((a % 18446744073709551616:Nat):Int)) (.int .u64 ((b % 18446744073709551616:Nat):Int))=some (.bool (decide (((a % 18446744073709551616:Nat):Int)<((b % 18446744073709551616:Nat):Int))))from rfl,bS];rw[show decide (((a % 18446744073709551616:Nat):Int)<((b % 18446744073709551616:Nat):Int))=decide (a<b)from decide_eq_decide.2 (by omega)];exact cg _ _
 ·rw[bZ (show ¬((a / 18446744073709551616:Nat):Int)=((b / 18446744073709551616:Nat):Int) by omega)];simp only[wO,bS];rw[bZ (show ¬a<b by omega)];exact cg _ _
end
section
set_option maxRecDepth 100000
open HP
theorem apV{r:AV→AV→AV→AV→Heap→aH}{x y z t v:AV}{σ:Heap}(h:[x,y,z,t].any A.own=false)(e:r x y z t σ=some (v,σ)):A.wrap true [] .k (A.zi r) [x,y,z,t] σ=some (v,σ):=by refine wrap_eq h ?_ (kF _);rw[show A.dr [] [x,y,z,t]=[x,y,z,t] by simp [A.dr]];exact e
theorem D1{a b:Nat}(h:a+b<9223372036854775808):A.add (.ah (a:Int)) (.ah (b:Int))=some (.ah ((a+b:Nat):Int)):=by rw[nv,←Int.natCast_add,cR (by unfold aU;omega)]
theorem al6{a b:Nat}(h:a*b<9223372036854775808):A.mul (.ah (a:Int)) (.ah (b:Int))=some (.ah ((a*b:Nat):Int)):=by rw[Aq,←Int.natCast_mul,cR (by unfold aU;omega)]
theorem T6{a b:Nat}(h:b≤a)(h2:a<9223372036854775808):A.sub (.ah (a:Int)) (.ah (b:Int))=some (.ah ((a-b:Nat):Int)):=by rw[sO,cR (by unfold aU;omega)];congr 2;omega
theorem acV{a:Nat}(h:a<9223372036854775808):A.quo (.ah (a:Int)) (.ah 2)=some (.ah ((a / 2:Nat):Int)):=by rw[aeY _ _ (by decide),show((a:Int)).tdiv 2=((a / 2:Nat):Int)from by rw[Int.tdiv_eq_ediv_of_nonneg (by omega)];omega,cR (by unfold aU;omega)]
def GN(a b:Int)(n d:Nat):Int:=if a≤b then a+((2*(b-a).toNat*n+d) / (2*d):Nat)else a-((2*(a-b).toNat*n+d-1) / (2*d):Nat)
theorem qD(n:Nat):A.cells 2 (.agg (wd n))=some (wd n):=rfl
theorem qi(n:Nat):A.aC 0 2 (wd n)=some (.agg (wd n)):=rfl
theorem sB(n:Nat):A.au 0 (wd n) [(AV.int .u64 0),(AV.int .u64 0)]=some (wd n):=rfl
theorem Qw(n:Nat):((A.lb (.lbx (wd n))).bind λc=>A.aC 0 2 c)=some (.agg (wd n)):=rfl
theorem ajL(k:Nat):A.mul (.ah 2) (.ah (k:Int))=some (.ah (IntKind.i64.wrap (2*(k:Int)))):=rfl
theorem IX{k:Nat}(h:k<4611686018427387904):A.mul (.ah 2) (.ah (k:Int))=some (.ah ((2*k:Nat):Int)):=by rw[ajL,cR (by unfold aU;omega)];congr 2
theorem apQ{d X K m:Nat}(hd:0<d)(hd2:d<100000000000000000000000000)(hm2:m≤65535)(hX:X≤200000*d)(hK:K≤m)(hle:∀k:Nat,k≤K↔d*(2*k)≤X)(σ:Heap):∃q,A.loop ((λv12 vT=>
    (A.lss (aj v12 2) (aj v12 3)).bind λdV=>
    A.cond dV (
     (A.add (aj v12 2) (aj v12 3)).bind λdM=>
     (A.add dM (AV.ah 1)).bind λdQ=>
     (A.quo dQ (AV.ah 2)).bind λcN=>
     ((A.lb (aj v12 1)).bind λiW=>A.aC 0 2 iW).bind λeC=>
     ((A.lb (aj v12 0)).bind λlJ=>A.aC 0 2 lJ).bind λdW=>
     (A.mul (AV.ah 2) cN).bind λfT=>
     (A.quiet (tW [dW,fT] vT) vT).bind λx24=>
     (A.quiet (Ir [eC,x24] vT) vT).bind λx25=>
     (A.cond x25 (
      (A.sub cN (AV.ah 1)).bind λeE=>
      some ([(aj v12 0),(aj v12 1),(aj v12 2),eE],vT)) (
      some ([(aj v12 0),(aj v12 1),cN,(aj v12 3)],vT))).bind λmA=>
     some (AX.normal,[(aj mA.1 0),(aj mA.1 1),(aj mA.1 2),(aj mA.1 3)],mA.2)) (
     some (AX.exit 0,[(aj v12 0),(aj v12 1),(aj v12 2),(aj v12 3)],vT)))) [.lbx (wd d),.lbx (wd X),.ah 0,.ah (m:Int)] σ=some q∧∃w,q=(.exit 0,[.lbx (wd d),.lbx (wd X),.ah (K:Int),w],σ):=by
 refine pE (λz v w=>∃lo hi:Nat,v=[.lbx (wd d),.lbx (wd X),.ah (lo:Int),.ah (hi:Int)]∧w=σ∧z=hi-lo∧lo≤K∧K≤hi∧hi≤m) ?_ (n:=m) ⟨0,m,rfl,rfl,by omega,by omega,hK,aQ _⟩;rintro z v w ⟨lo,hi,rfl,rfl,hz,h1,h2,h3⟩;simp only[bW,cQ];rw[mU,bS];by_cases hlt:lo<hi
 ·rw[ct (by omega),dO,D1 (by omega),bS,show A.add (.ah ((lo+hi:Nat):Int)) (.ah 1)=some (.ah ((lo+hi+1:Nat):Int))from D1 (b:=1) (by omega),bS,acV (by omega),bS,Qw,bS,Qw,bS,IX (by omega),bS];generalize hk:(lo+hi+1) / 2=k;have hk1:lo<k:=by omega
  have hk2:k≤hi:=by omega
  have hdk:d*(2*k)≤131070*d:=by rw[Nat.mul_comm];exact Nat.mul_le_mul (by omega) (aQ _)
  rw[fM (Aa (by omega) (by omega) (by omega) w),bS,fM (adQ X (d*(2*k)) w),bS];by_cases hc:X<d*(2*k)
  ·rw[ct hc,dO,show A.sub (.ah (k:Int)) (.ah 1)=some (.ah ((k-1:Nat):Int))from T6 (b:=1) (by omega) (by omega),bS,bS];have hnk:¬k≤K:=λq=>by have:=(hle k).1 q;omega
   exact .inl ⟨k-1-lo,_,_,by omega,rfl,lo,k-1,rfl,rfl,rfl,h1,by omega,by omega⟩
  ·rw[bZ hc,dw,bS];have hkK:k≤K:=(hle k).2 (by omega);exact .inl ⟨hi-k,_,_,by omega,rfl,k,hi,rfl,rfl,rfl,hkK,h2,h3⟩
 ·rw[bZ (by omega),dw];refine .inr ⟨_,rfl,by simp,.ah (hi:Int),?_⟩;rw[show lo=K by omega]
theorem aoG{d X K m:Nat}(hd:0<d)(hd2:d<100000000000000000000000000)(hm2:m≤65535)(hX:X≤200000*d)(hK:K≤m)(hle:∀k:Nat,k<K↔d*(2*k+1)<X)(σ:Heap):∃q,A.loop ((λkU vW=>
    (A.lss (aj kU 2) (aj kU 3)).bind λgH=>
    A.cond gH (
     (A.add (aj kU 2) (aj kU 3)).bind λeA=>
     (A.quo eA (AV.ah 2)).bind λfF=>
     ((A.lb (aj kU 0)).bind λmI=>A.aC 0 2 mI).bind λiy=>
     (A.mul (AV.ah 2) fF).bind λgA=>
     (A.add gA (AV.ah 1)).bind λfO=>
     (A.quiet (tW [iy,fO] vW) vW).bind λiz=>
     ((A.lb (aj kU 1)).bind λjH=>A.aC 0 2 jH).bind λjo=>
     (A.quiet (Ir [iz,jo] vW) vW).bind λgB=>
     (A.cond gB (
      (A.add fF (AV.ah 1)).bind λjy=>
      some ([(aj kU 0),(aj kU 1),jy,(aj kU 3)],vW)) (
      some ([(aj kU 0),(aj kU 1),(aj kU 2),fF],vW))).bind λew=>
     some (AX.normal,[(aj ew.1 0),(aj ew.1 1),(aj ew.1 2),(aj ew.1 3)],ew.2)) (
     some (AX.exit 2,[(aj kU 0),(aj kU 1),(aj kU 2),(aj kU 3)],vW)))) [.lbx (wd d),.lbx (wd X),.ah 0,.ah (m:Int)] σ=some q∧∃w,q=(.exit 2,[.lbx (wd d),.lbx (wd X),.ah (K:Int),w],σ):=by
 refine pE (λz v w=>∃lo hi:Nat,v=[.lbx (wd d),.lbx (wd X),.ah (lo:Int),.ah (hi:Int)]∧w=σ∧z=hi-lo∧lo≤K∧K≤hi∧hi≤m) ?_ (n:=m) ⟨0,m,rfl,rfl,by omega,by omega,hK,aQ _⟩;rintro z v w ⟨lo,hi,rfl,rfl,hz,h1,h2,h3⟩;simp only[bW,cQ];rw[mU,bS];by_cases hlt:lo<hi
 ·rw[ct (by omega),dO,D1 (by omega),bS,acV (by omega),bS,Qw,bS,IX (by omega),bS];generalize hk:(lo+hi) / 2=k;have hk1:lo≤k:=by omega
  have hk2:k<hi:=by omega
  have hdk:d*(2*k+1)≤131071*d:=by rw[Nat.mul_comm];exact Nat.mul_le_mul (by omega) (aQ _)
  rw[show A.add (.ah ((2*k:Nat):Int)) (.ah 1)=some (.ah ((2*k+1:Nat):Int))from D1 (b:=1) (by omega),bS,fM (Aa (by omega) (by omega) (by omega) w),bS,Qw,bS,fM (adQ (d*(2*k+1)) X w),bS];by_cases hc:d*(2*k+1)<X
  ·rw[ct hc,dO,show A.add (.ah (k:Int)) (.ah 1)=some (.ah ((k+1:Nat):Int))from D1 (b:=1) (by omega),bS,bS];have hkK:k<K:=(hle k).2 hc;exact .inl ⟨hi-(k+1),_,_,by omega,rfl,k+1,hi,rfl,rfl,rfl,by omega,h2,h3⟩
  ·rw[bZ hc,dw,bS];have hnk:¬k<K:=λq=>hc ((hle k).1 q)
   exact .inl ⟨k-lo,_,_,by omega,rfl,lo,k,rfl,rfl,rfl,h1,by omega,by omega⟩
 ·rw[bZ (by omega),dw];refine .inr ⟨_,rfl,by simp,.ah (hi:Int),?_⟩;rw[show lo=K by omega]
theorem aob{a b:Int}(ha:0≤a)(ha2:a≤65535)(hb:0≤b)(nV:b≤65535){n d:Nat}(hd:0<d)(hnd:n≤d)(hd2:d<100000000000000000000000000)(σ:Heap):Sw [.ah a,.ah b,.agg (wd n),.agg (wd d)] σ=some (.ah (GN a b n d),σ):=by
 have run:∃q,SC (.ah a) (.ah b) (.agg (wd n)) (.agg (wd d)) σ=some q∧q=(.ah (GN a b n d),σ):=by
  unfold SC GN;rw[qD,bS,qD,bS,vi,bS];by_cases hab:a≤b
  ·rw[ct hab,dO,aO hab];obtain⟨m,hm⟩:∃m:Nat,b-a=m:=⟨(b-a).toNat,by omega⟩
   have hm2:m≤65535:=by omega
   have b1:2*m*n≤131070*d:=Nat.mul_le_mul (by omega) hnd;have b2:n*(2*m)=2*m*n:=Nat.mul_comm _ _;rw[sO,cR (by unfold aU;omega),hm,bS,qi,bS,IX (by omega),bS,fM (Aa (by omega) (by omega) (by omega) σ),bS,qi,bS,fM (aqz (by omega) σ),bS,qD,bS,sB,bS];rw[Int.toNat_natCast,b2];generalize hX:2*m*n+d=X
   have hK:X / (2*d)≤m:=by
    refine Nat.lt_succ_iff.1 ((Nat.div_lt_iff_lt_mul (by omega)).2 ?_);have:m*n≤m*d:=Nat.mul_le_mul (aQ _) hnd;have e1:2*m*n=2*(m*n):=Nat.mul_assoc _ _ _;have e2:(m+1)*(2*d)=2*(m*d)+2*d:=by rw[gJ,Nat.mul_left_comm];omega
    show X<(m+1)*(2*d)
    omega
   generalize Xx:X / (2*d)=K at hK
   have hle:∀k:Nat,k≤K↔d*(2*k)≤X:=λk=>by rw[←Xx,Nat.le_div_iff_mul_le (by omega),show k*(2*d)=d*(2*k) by rw[Nat.mul_left_comm,Nat.mul_left_comm d];congr 1;exact Nat.mul_comm _ _]
   refine Jo (apQ hd hd2 hm2 (by omega) hK hle σ) ?_
   ·rintro q ⟨w,rfl⟩;simp only[oT,bW,cQ];rw[nv,cR (by unfold aU;omega),bS];exact⟨_,cg _ _,rfl⟩
  ·rw[bZ hab,dw,aK hab];obtain⟨m,hm⟩:∃m:Nat,a-b=m:=⟨(a-b).toNat,by omega⟩
   have hm2:m≤65535:=by omega
   have b1:2*m*n≤131070*d:=Nat.mul_le_mul (by omega) hnd;have b2:n*(2*m)=2*m*n:=Nat.mul_comm _ _;rw[sO,cR (by unfold aU;omega),hm,bS,qi,bS,IX (by omega),bS,Aa (by omega) (by omega) (by omega) σ,bS,qD,bS,sB,bS];rw[Int.toNat_natCast,b2];generalize hX:2*m*n=X
   have hK:(X+d-1) / (2*d)≤m:=by
    refine Nat.lt_succ_iff.1 ((Nat.div_lt_iff_lt_mul (by omega)).2 ?_);have:m*n≤m*d:=Nat.mul_le_mul (aQ _) hnd;have e1:2*m*n=2*(m*n):=Nat.mul_assoc _ _ _;have e2:(m+1)*(2*d)=2*(m*d)+2*d:=by rw[gJ,Nat.mul_left_comm];omega
    show X+d-1<(m+1)*(2*d)
    omega
   generalize Xx:(X+d-1) / (2*d)=K at hK
   have hle:∀k:Nat,k<K↔d*(2*k+1)<X:=λk=>by
    have q:=Nat.le_div_iff_mul_le (k:=2*d) (x:=k+1) (y:=X+d-1) (by omega);rw[Xx]at q;have e:(k+1)*(2*d)=d*(2*k+1)+d:=by rw[Nat.mul_add,gJ,Nat.mul_left_comm,Nat.mul_left_comm d];rw[Nat.mul_comm k d];omega
    constructor
    ·intro h;have:=q.1 h;omega
    ·intro h;exact q.2 (by omega)
   refine Jo (aoG hd hd2 hm2 (by omega) hK hle σ) ?_
   ·rintro q ⟨w,rfl⟩;simp only[oT,bW,cQ];rw[sO,cR (by unfold aU;omega),bS];exact⟨_,cg _ _,rfl⟩
 obtain⟨q,h1,rfl⟩:=run;exact apV rfl h1
end
section
set_option maxRecDepth 100000
noncomputable def KI (a0:Int) (a1:Int):Option Int:=
 (My a0 a1).bind λx1=>
 (Mz a0 a1).bind λx2=>
 (show Option Int from
   if x2<0 then
    some (IntKind.i64.wrap (x1-1))
   else
   some x1).bind λj4=>
 some j4
theorem air{a0:Int}{a1:Int}{σ:Heap}{r:Int}(h:KI a0 a1=some r):SR [(AV.ah a0),(AV.ah a1)] σ=some ((AV.ah r),σ):=by
 refine zV (f:=S7) (y0:=(AV.ah a0)) (y1:=(AV.ah a1)) (enc:=λr:Int=>(AV.ah r)) (T:=KI a0 a1) rfl rfl ?_ r h;unfold S7 KI;refine nS (λx1:Int=>(AV.ah x1)) (λx1 hx1=>aqB hx1) (λx1 hx1=>?_);refine nS (λx2:Int=>(AV.ah x2)) (λx2 hx2=>aqD hx2) (λx2 hx2=>?_);refine aB _ rfl ?_
 refine QL (ω:=Int) (λj4 a=>a=(([(AV.ah j4)]:aq),σ)) (
   by
    refine oc (p:=x2<0) (λc3=>?_) (λc3=>?_)
    ·refine aB _ rfl ?_;exact dJ rfl
    exact dJ rfl
   ) (λj4 a ha=>?_)
 subst ha;exact gI _ (cg _ _) ⟨rfl,rfl⟩
noncomputable def KJ (a0:Int) (a1:Int):Option Int:=(KI (IntKind.i64.wrap (IntKind.i64.wrap (2*a0)+a1)) (IntKind.i64.wrap (2*a1))).bind λr1=>some r1
theorem ais{a0:Int}{a1:Int}{σ:Heap}{r:Int}(h:KJ a0 a1=some r):SS [(AV.ah a0),(AV.ah a1)] σ=some ((AV.ah r),σ):=by refine zV (f:=S8) (y0:=(AV.ah a0)) (y1:=(AV.ah a1)) (enc:=λr:Int=>(AV.ah r)) (T:=KJ a0 a1) rfl rfl ?_ r h;unfold S8 KJ;refine aB _ rfl<|aB _ rfl<|aB _ rfl ?_;refine nS (λr1:Int=>((AV.ah r1),σ)) (λr1 l9=>air l9) (λr1 l9=>?_);exact gI _ (cg _ _) ⟨rfl,rfl⟩
noncomputable def Oh (a0:Int):Option Bool:=some (bf a0 0 36000000)
theorem KB{a0:Int}{σ:Heap}{r:Bool}(h:Oh a0=some r):Fl [(AV.ah a0)] σ=some ((AV.bool r),σ):=by refine Bz (f:=Sz) (y0:=(AV.ah a0)) (enc:=λr:Bool=>(AV.bool r)) (T:=Oh a0) rfl rfl ?_ r h;unfold Sz Oh;refine aB _ (mh a0 0 36000000 σ) ?_;exact gI _ (cg _ _) ⟨rfl,rfl⟩
noncomputable def Fo (a0:(List Int)):Option Int:=
 oa a0 (λ(i8:Nat)e7(s1:Unit)=>(show Option (Lr Unit Unit Int)from
   if(!(bf e7 0 65535))=true then
    some (.ret 1)
   else
   some (.go ()))) (λs1=>some ()) () (λb2=>
  some 0) (λb2=>
  some b2)
theorem YT{a0:(List Int)}{σ:Heap}{r:Int}(h:Fo a0=some r):Oe [(sl 1 vq a0)] σ=some ((AV.ah r),σ):=by
 refine Bz (f:=SB) (y0:=(sl 1 vq a0)) (enc:=λr:Int=>(AV.ah r)) (T:=Fo a0) rfl rfl ?_ r h;unfold SB Fo;refine aB _ (iS _ _ _) ?_;refine uX (B:=Unit) (R:=Int) (λ(i8:Nat)(s1:Unit)v w3=>v=[(AV.ah 0),(AV.ah (i8:Int))]∧σ=w3) (λ(b2:Unit)(q:LS)=>∃u2 u7,q=((AX.exit 0),([u2,u7]:aq),σ)) (λ(b2:Int)(q:LS)=>∃u7,q=(AX.ret,([(AV.ah b2),u7]:aq),σ)) ?_ ?_ ⟨rfl,rfl⟩ ?_ ?_
 ·intro GD i8 e7 s1 v w3 vO hI;obtain⟨rfl,rfl⟩:=hI;refine aB _ (lF vO)<|ve<|aB _ (kK vO)<|aB _ rfl<|aB _ (ajf e7 σ)<|aB _ rfl ?_;refine lg (c:=(!(bf e7 0 65535))) (λc9=>?_) (λc9=>?_)
  ·exact dJ (jZ (by simp) ⟨_,rfl⟩)
  refine aB _ (iF vO GD) ?_;exact dJ (uY ⟨rfl,rfl⟩)
 ·intro hl s1 v w3 hI;obtain⟨rfl,rfl⟩:=hI;refine aB _ (lR _)<|u9 ?_;exact dJ ⟨by simp,⟨_,_,rfl⟩⟩
 ·intro hl b2 q hq;obtain⟨u2,u7,rfl⟩:=hq;refine mT rfl ?_;exact gI _ (cg _ _) ⟨rfl,rfl⟩
 ·intro hl b2 q hq;obtain⟨u7,rfl⟩:=hq;refine Ah rfl<|mT rfl ?_;exact gI _ (cg _ _) ⟨rfl,rfl⟩
noncomputable def Kv (a0:jd):Option Int:=
 (Fo ([a0.eD,a0.to]:(List Int))).bind λr1=>
 if ¬(r1=0)then
  some r1
 else
 if((((!((bf a0.start 0 36000000)))||(!((bf a0.cD 0 36000000))))||(!((bf a0.time 0 36000000))))||(!((bf (IntKind.i64.wrap (IntKind.i64.wrap (a0.start+a0.cD)+a0.time)) 0 36000000))))=true then
  some 1
 else
 some (sA a0.gP)
theorem ag1{a0:jd}{σ:Heap}{r:Int}(h:Kv a0=some r):R8 [(AV.agg (gY a0))] σ=some ((AV.ah r),σ):=by
 refine Bz (f:=Sa) (y0:=(AV.agg (gY a0))) (enc:=λr:Int=>(AV.ah r)) (T:=Kv a0) rfl rfl ?_ r h;unfold Sa Kv;refine aB _ rfl<|aB _ rfl<|aB _ rfl<|aB (sl 1 vq ([a0.eD,a0.to]:(List Int))) rfl ?_;refine nS (λr1:Int=>((AV.ah r1),σ)) (λr1 l9=>YT l9) (λr1 l9=>?_);refine aB _ (fW _ _ _) ?_;refine oc (p:=¬(r1=0)) (λc3=>?_) (λc3=>?_)
 ·exact gI _ (cg _ _) ⟨rfl,rfl⟩
 refine aB _ rfl<|aB _ (KB (σ:=σ) (r:=(bf a0.start 0 36000000)) rfl)<|aB _ rfl<|fU (AV.ah a0.cD) (λhg=>rfl)<|fU (AV.bool ((bf a0.cD 0 36000000))) (λhg=>by(try rw[hg]);exact(fM (KB (σ:=σ) (r:=(bf a0.cD 0 36000000)) rfl)))<|fU (AV.bool (!((bf a0.cD 0 36000000)))) (λhg=>by(try rw[hg]);exact rfl)<|aB _ (sJ _ _)<|fU (AV.ah a0.time) (λhg=>rfl)<|fU (AV.bool ((bf a0.time 0 36000000))) (λhg=>by(try rw[hg]);exact(fM (KB (σ:=σ) (r:=(bf a0.time 0 36000000)) rfl)))<|fU (AV.bool (!((bf a0.time 0 36000000)))) (λhg=>by(try rw[hg]);exact rfl)<|aB _ (sJ _ _)<|fU (AV.ah a0.start) (λhg=>rfl)<|fU (AV.ah a0.cD) (λhg=>rfl)<|fU (AV.ah (IntKind.i64.wrap (a0.start+a0.cD))) (λhg=>by(try rw[hg]);exact rfl)<|fU (AV.ah a0.time) (λhg=>rfl)<|fU (AV.ah (IntKind.i64.wrap (IntKind.i64.wrap (a0.start+a0.cD)+a0.time))) (λhg=>by(try rw[hg]);exact rfl)<|fU (AV.bool ((bf (IntKind.i64.wrap (IntKind.i64.wrap (a0.start+a0.cD)+a0.time)) 0 36000000))) (λhg=>by(try rw[hg]);exact(fM (KB (σ:=σ) (r:=(bf (IntKind.i64.wrap (IntKind.i64.wrap (a0.start+a0.cD)+a0.time)) 0 36000000)) rfl)))<|fU (AV.bool (!((bf (IntKind.i64.wrap (IntKind.i64.wrap (a0.start+a0.cD)+a0.time)) 0 36000000)))) (λhg=>by(try rw[hg]);exact rfl)<|aB _ (sJ _ _) ?_;refine lg (c:=((((!((bf a0.start 0 36000000)))||(!((bf a0.cD 0 36000000))))||(!((bf a0.time 0 36000000))))||(!((bf (IntKind.i64.wrap (IntKind.i64.wrap (a0.start+a0.cD)+a0.time)) 0 36000000))))) (λc2=>?_) (λc2=>?_)
 ·exact gI _ (cg _ _) ⟨rfl,rfl⟩
 refine aB _ rfl<|aB _ (YZ a0.gP σ) ?_;exact gI _ (cg _ _) ⟨rfl,rfl⟩
noncomputable def KF (a0:Int) (a1:Int):Option (Int×Int):=
 (Fo ([a0,a1]:(List Int))).bind λr1=>
 if ¬(r1=0)then
  some (0,r1)
 else
 (KJ (IntKind.i64.wrap (a0*a1)) 65535).bind λr2=>
 some (r2,0)
theorem ah1{a0:Int}{a1:Int}{σ:Heap}{r:(Int×Int)}(h:KF a0 a1=some r):Fp [(AV.ah a0),(AV.ah a1)] σ=some ((AV.aL [(AV.ah r.1),(AV.ah r.2)]),σ):=by
 refine zV (f:=SK) (y0:=(AV.ah a0)) (y1:=(AV.ah a1)) (enc:=λr:(Int×Int)=>(AV.aL [(AV.ah r.1),(AV.ah r.2)])) (T:=KF a0 a1) rfl rfl ?_ r h;unfold SK KF;refine aB (sl 1 vq ([a0,a1]:(List Int))) rfl ?_;refine nS (λr1:Int=>((AV.ah r1),σ)) (λr1 l9=>YT l9) (λr1 l9=>?_);refine aB _ (fW _ _ _) ?_;refine oc (p:=¬(r1=0)) (λc3=>?_) (λc3=>?_)
 ·exact gI _ (cg _ _) ⟨rfl,rfl⟩
 refine aB _ rfl ?_;refine nS (λr2:Int=>((AV.ah r2),σ)) (λr2 wS=>ais wS) (λr2 wS=>?_);exact gI _ (cg _ _) ⟨rfl,rfl⟩
end
section
set_option maxRecDepth 100000
open HP
theorem apU{s:List Sh}{ro:Sh}{r:AV→AV→AV→Heap→aH}{x y z v v':AV}{σ:Heap}(h:[x,y,z].any A.own=false)(e1:A.dr s [x,y,z]=[x,y,z])(e2:A.nn ro v=v')(e:r x y z σ=some (v,σ)):A.wrap true s ro (A.nE r) [x,y,z] σ=some (v',σ):=by refine wrap_eq h ?_ e2;rw[e1];exact e
theorem Em{x y X Y:Int}(hx:0≤x)(hx2:x≤X)(hy:0≤y)(hy2:y≤Y):0≤x*y∧x*y≤X*Y:=⟨Int.mul_nonneg hx hy,Int.mul_le_mul hx2 hy2 hy (by omega)⟩
def pG(l:List nL)(p q:Int):Nat→Nat→Nat
 |0,i=>i
 |f+1,i=>if i+2<l.length∧(l.getD (i+1) fC).time*q≤1000*p then pG l p q f (i+1)else i
def WH(l:List nL)(p q:Int):Int:=(l.getD (pG l p q l.length 0) fC).way*((l.getD (pG l p q l.length 0+1) fC).time-(l.getD (pG l p q l.length 0) fC).time)*q+((l.getD (pG l p q l.length 0+1) fC).way-(l.getD (pG l p q l.length 0) fC).way)*(1000*p-(l.getD (pG l p q l.length 0) fC).time*q)
def WG(l:List nL)(p q:Int):Int:=(l.getD (pG l p q l.length 0+1) fC).time-(l.getD (pG l p q l.length 0) fC).time
def qu(c:sy)(p q:Nat):Nat×Nat:=
 if c.kind=2 then(p*p,q*q)else if c.kind=3 then(p*(2*q-p),q*q)else if c.kind=4 then(p*p*(3*q-2*p),q*q*q)else if c.kind=5 then(if p<q then(0,1)else(1,1))
 else if c.kind=6 then((WH c.ck p q).toNat,(1000*WG c.ck p q).toNat*q)else(p,q)
structure aej (l : List nL) : Prop where
 two:2≤l.length
 len:l.length≤20
 bd:∀i,i<l.length→0≤(l.getD i fC).time∧(l.getD i fC).time≤1000∧0≤(l.getD i fC).way∧(l.getD i fC).way≤1000
 fst:(l.getD 0 fC).time=0
 lst:(l.getD (l.length-1) fC).time=1000
 ord:∀i,i+1<l.length→(l.getD i fC).time<(l.getD (i+1) fC).time∧(l.getD i fC).way≤(l.getD (i+1) fC).way
theorem aqA{c:sy}(h:sA c=0)(h6:c.kind=6):aej c.ck:=by
 unfold sA at h;split at h
 ·cases h
 try rw[aO h6]at h
 split at h
 ·cases h
 split at h
 ·cases h
 rename_i h2 MP;unfold Wy at h;split at h
 ·cases h
 rename_i hb;split at h
 ·cases h
 rename_i hf;split at h
 ·cases h
 rename_i hl;split at h
 ·cases h
 rename_i ho
 have hb':∀p∈c.ck,Gm p=false:=by
  intro p hp;cases q:Gm p
  ·rfl
  ·exact absurd (List.any_eq_true.2 ⟨p,hp,q⟩) hb
 have hf:=Decidable.not_not.1 hf;have hl:=Decidable.not_not.1 hl;refine⟨by omega,by omega,λi hi=>?_,hf.1,hl.1,λi hi=>?_⟩
 ·have e:=Eb hi;have:=hb' _ (dA e);unfold Gm bf at this;simp only[pK,Bool.not_eq_false',decide_eq_true_eq]at this;omega
 ·have h1:¬GI c.ck (i+1)=true:=λq=>ho (List.any_eq_true.2 ⟨i+1,by rw[List.mem_range'];exact⟨i,by omega,by omega⟩,q⟩)
  unfold GI at h1;simp only[decide_eq_true_eq,Nat.add_sub_cancel]at h1;omega
theorem acr{l:List nL}{p q:Int}:∀(f i:Nat),i+f=l.length→i+1<l.length→(l.getD i fC).time*q≤1000*p→pG l p q f i+1<l.length∧(l.getD (pG l p q f i) fC).time*q≤1000*p∧(1000*p<(l.getD (pG l p q f i+1) fC).time*q∨pG l p q f i+2=l.length)
 |0,i,h1,h2,_=>by omega
 |f+1,i,h1,h2,h3=>by
  rw[pG];split
  ·rename_i h;exact acr f (i+1) (by omega) (by omega) h.2
  ·rename_i h;refine⟨h2,h3,?_⟩;by_cases h4:i+2<l.length
   ·exact .inl (Int.lt_of_not_ge λq=>h ⟨h4,q⟩)
   ·exact .inr (by omega)
theorem an9{l : List nL}(hl : aej l){p q : Int}(hp : 0 ≤ p)(hp2 : p ≤ 36000000)(hq : 0 < q)(vP : q ≤ 36000000)(σ : Heap) : ∃ r, A.loop ((λv64 iX =>
        (A.add (aj v64 2) (AV.ah 2)).bind λmg=>
        (A.bY (sl 2 jB l)).bind λjK=>
        (A.lss mg jK).bind λiE=>
        (A.guard iE true (some (AV.ah p)) ay).bind λgM=>
        (A.guard iE true (A.mul (AV.ah 1000) gM) ay).bind λp5=>
        (A.guard iE true (some (sl 2 jB l)) ay).bind λtT=>
        (A.guard iE true (some (aj v64 2)) ay).bind λjL=>
        (A.guard iE true (A.add jL (AV.ah 1)) ay).bind λjq=>
        (A.guard iE true (A.bh 2 tT jq) ay).bind λfG=>
        (A.guard iE true (A.aF 0 fG) ay).bind λkq=>
        (A.guard iE true ((A.deref kq iX).bind λow=>A.ak 0 ow) ay).bind λkW=>
        (A.guard iE true (some (AV.ah q)) ay).bind λlP=>
        (A.guard iE true (A.mul kW lP) ay).bind λiA=>
        (A.guard iE true (A.geq p5 iA) ay).bind λtU=>
        (A.pick iE tU aR).bind λp6=>
        A.cond p6 (
         (A.add (aj v64 2) (AV.ah 1)).bind λsj=>
         some (AX.normal,[(aj v64 0),(aj v64 1),sj],iX)) (
         some (AX.exit 1,[(aj v64 0),(aj v64 1),(aj v64 2)],iX)))) [.lbx [(AV.int .u64 0),(AV.int .u64 0)],.lbx [(AV.int .u64 0),(AV.int .u64 0)],.ah 0] σ=some r∧r=(.exit 1,[.lbx [(AV.int .u64 0),(AV.int .u64 0)],.lbx [(AV.int .u64 0),(AV.int .u64 0)],.ah (pG l p q l.length 0:Nat)],σ):=by
 have MP:=hl.len;refine pE (λz v w=>∃i:Nat,v=[.lbx [(AV.int .u64 0),(AV.int .u64 0)],.lbx [(AV.int .u64 0),(AV.int .u64 0)],.ah (i:Int)]∧w=σ∧z=l.length-i∧i≤l.length∧pG l p q (l.length-i) i=pG l p q l.length 0) ?_ (n:=l.length) ⟨0,rfl,rfl,rfl,jQ _,rfl⟩;rintro z v w ⟨i,rfl,rfl,hz,hi,hT⟩;simp only[bW,cQ];rw[show A.add (.ah (i:Int)) (.ah 2)=some (.ah ((i+2:Nat):Int))from D1 (b:=2) (by omega),bS,iS,bS,mU,bS];by_cases h1:i+2<l.length
 ·obtain⟨b1,b2,_,_⟩:=hl.bd (i+1) (by omega);have m1:=Em b1 b2 (Int.le_of_lt hq) vP;have ex:=Eb (l:=l) (i:=i+1) (by omega);rw[ct (by omega)];simp only[gT,bS];rw[Aq,cR (by unfold aU;omega),bS,show A.add (.ah (i:Int)) (.ah 1)=some (.ah ((i+1:Nat):Int))from D1 (b:=1) (by omega),bS,kK ex,bS,show A.aF 0 (.rp (jB (l.getD (i+1) fC)))=some (.rp (jB (l.getD (i+1) fC)))from rfl,bS,qx,bS,show A.ak 0 (jB (l.getD (i+1) fC))=some (.ah (l.getD (i+1) fC).time)from rfl,bS,Aq,cR (by unfold aU;omega),bS,vi,bS];simp only[mM,bS];rw[show l.length-i=(l.length-(i+1))+1 by omega,pG]at hT;by_cases h2:(l.getD (i+1) fC).time*q≤1000*p
  ·rw[ct h2,dO];rw[aO ⟨h1,h2⟩]at hT;exact .inl ⟨l.length-(i+1),_,_,by omega,rfl,i+1,rfl,rfl,rfl,by omega,hT⟩
  ·rw[bZ h2,dw];rw[aK (λq=>h2 q.2)]at hT;exact .inr ⟨_,rfl,by simp,by rw[hT]⟩
 ·rw[bZ (by omega)];simp only[wO,bS,mZ];rw[dw];refine .inr ⟨_,rfl,by simp,?_⟩
  have:pG l p q (l.length-i) i=i:=by
   cases hf:l.length-i with
   |zero=>rfl
   |succ f=>rw[pG,aK (λq=>h1 q.1)]
  rw[←hT,this]
theorem Du{α:Type}{X:Option α}{v:α}(h:∃b,X=some b∧b=v):X=some v:=by obtain⟨b,h,rfl⟩:=h;exact h
theorem aeQ{c:sy}(hc:sA c=0){p q:Nat}(hp:0<p)(hpq:p<q)(hq:q≤36000000)(σ:Heap):Oy [.agg (nZ c),.ah (p:Int),.ah (q:Int)] σ=some (.aL [.agg (wd (qu c p q).1),.agg (wd (qu c p q).2)],σ)∧(qu c p q).1≤(qu c p q).2∧0<(qu c p q).2∧(qu c p q).2<100000000000000000000000000:=by
 have q2:q*q≤36000000*36000000:=Nat.mul_le_mul hq hq;have q3:q*q*q≤36000000*36000000*36000000:=Nat.mul_le_mul q2 hq;have X1:0<q*q:=Nat.mul_pos (by omega) (by omega);have q3p:0<q*q*q:=Nat.mul_pos X1 (by omega);have pp:p*p≤q*q:=Nat.mul_le_mul (by omega) (by omega);have head:∀{v:AV},A.nn .k v=v→True:=λ_=>trivial
 have go:(OE (.agg (nZ c)) (.ah (p:Int)) (.ah (q:Int)) σ=some (.aL [.agg (wd (qu c p q).1),.agg (wd (qu c p q).2)],σ))→Oy [.agg (nZ c),.ah (p:Int),.ah (q:Int)] σ=some (.aL [.agg (wd (qu c p q).1),.agg (wd (qu c p q).2)],σ):=λh=>apU rfl (kM (uv rfl) rfl) (kF _) h
 suffices OE (.agg (nZ c)) (.ah (p:Int)) (.ah (q:Int)) σ=some (.aL [.agg (wd (qu c p q).1),.agg (wd (qu c p q).2)],σ)∧(qu c p q).1≤(qu c p q).2∧0<(qu c p q).2∧(qu c p q).2<100000000000000000000000000 from⟨go this.1,this.2⟩
 clear go head;unfold OE qu;rw[show A.cells 2 (.agg (nZ c))=some (nZ c)from rfl,bS,BW (by omega),bS,Aa (by omega) (by omega) (by omega),bS,qD,bS,sB,bS,show A.ak 0 (nZ c)=some (.ah c.kind)from rfl,bS,jU,bS];by_cases k2:c.kind=2
 ·rw[ct k2,dO,aO k2,fM (BW (by omega) σ),bS,fM (Aa (by omega) (by omega) (by omega) σ),bS,qi,bS,qD,bS,sB,bS,qD,bS,sB,bS,qi,bS,qi,bS];exact⟨cg _ _,pp,X1,by omega⟩
 rw[bZ k2,dw,aK k2,jU,bS];by_cases k3:c.kind=3
 ·have hm:p*(2*q-p)≤q*q:=by
   obtain⟨t,rfl⟩:∃t,q=p+t:=⟨q-p,by omega⟩
   rw[show 2*(p+t) -p=p+2*t by omega,Nat.mul_add,gJ,Nat.mul_add,Nat.mul_add];have e1:p*(2*t)=p*t+p*t:=by rw[←Nat.mul_add];congr 1;omega
   have e2:t*p=p*t:=Nat.mul_comm _ _;rw[e1,e2];omega
  rw[ct k3,dO,aO k3,fM (BW (by omega) σ),bS,IX (by omega),bS,T6 (by omega) (by omega),bS,fM (Aa (by omega) (by omega) (by omega) σ),bS,qi,bS,qD,bS,sB,bS,qD,bS,sB,bS,qi,bS,qi,bS];exact⟨cg _ _,hm,X1,by omega⟩
 rw[bZ k3,dw,aK k3,jU,bS];by_cases k4:c.kind=4
 ·have hm:p*p*(3*q-2*p)≤q*q*q:=by
   obtain⟨t,rfl⟩:∃t,q=p+t:=⟨q-p,by omega⟩
   rw[show 3*(p+t) -2*p=p+3*t by omega]
   have e1:(p+t)*(p+t)*(p+t)=p*p*(p+3*t)+(3*p*(t*t)+t*t*t):=by
    simp only[gJ,Nat.mul_add];have a1:p*p*(3*t)=p*p*t+p*p*t+p*p*t:=by rw[show 3*t=t+t+t by omega,Nat.mul_add,Nat.mul_add]
    have a2:p*t*p=p*p*t:=by rw[Nat.mul_right_comm]
    have a3:t*p*p=p*p*t:=by rw[Nat.mul_comm t p,Nat.mul_right_comm]
    have a4:t*p*t=p*(t*t):=by rw[Nat.mul_comm t p,Nat.mul_assoc]
    have a5:p*t*t=p*(t*t):=Nat.mul_assoc _ _ _;have a6:t*t*p=p*(t*t):=Nat.mul_comm _ _;have a7:3*p*(t*t)=p*(t*t)+p*(t*t)+p*(t*t):=by rw[show 3*p=p+p+p by omega,gJ,gJ]
    rw[a1,a2,a3,a4,a5,a6,a7];omega
   rw[e1];omega
  rw[ct k4,dO,aO k4,fM (BW (by omega) σ),bS,fM (Aa (by omega) (by omega) (by omega) σ),bS,show A.mul (.ah 3) (.ah (q:Int))=some (.ah ((3*q:Nat):Int))from al6 (a:=3) (by omega),bS,IX (by omega),bS,T6 (by omega) (by omega),bS,fM (Aa (by omega) (by omega) (by omega) σ),bS,qi,bS,fM (Aa (by omega) (by omega) (by omega) σ),bS,qD,bS,sB,bS,qD,bS,sB,bS,qi,bS,qi,bS];exact⟨cg _ _,hm,q3p,by omega⟩
 rw[bZ k4,dw,aK k4,jU,bS];by_cases k5:c.kind=5
 ·rw[ct k5,dO,aO k5,mU,bS,ct (by omega),dO,aO hpq,show rA [.ah 0] σ=some (.agg (wd 0),σ)from BW (n:=0) (by omega) σ,bS];simp only;rw[show rA [.ah 1] σ=some (.agg (wd 1),σ)from BW (n:=1) (by omega) σ,bS];simp only;rw[qD,bS,sB,bS,qD,bS,sB,bS,qi,bS,qi,bS];exact⟨cg _ _,by omega,by omega,by omega⟩
 rw[bZ k5,dw,aK k5,jU,bS];by_cases k6:c.kind=6
 ·rw[ct k6,dO,aO k6,show A.ak 1 (nZ c)=some (sl 2 jB c.ck)from rfl,bS];have hl:=aqA hc k6;have MP:=hl.len;obtain⟨s1,s2,s3⟩:=acr (l:=c.ck) (p:=(p:Int)) (q:=(q:Int)) c.ck.length 0 (by omega) (by have:=hl.two;omega) (by rw[hl.fst];omega);generalize hI:pG c.ck (p:Int) (q:Int) c.ck.length 0=i at s1 s2 s3;obtain⟨a1,a2,a3,a4⟩:=hl.bd i (by omega);obtain⟨b1,b2,b3,b4⟩:=hl.bd (i+1) s1;obtain⟨o1,o2⟩:=hl.ord i s1;have exA:=Eb (l:=c.ck) (i:=i) (by omega);have exB:=Eb (l:=c.ck) (i:=i+1) s1;have eN:WH c.ck (p:Int) (q:Int)=(c.ck.getD i fC).way*((c.ck.getD (i+1) fC).time-(c.ck.getD i fC).time)*(q:Int)+((c.ck.getD (i+1) fC).way-(c.ck.getD i fC).way)*(1000*(p:Int) -(c.ck.getD i fC).time*(q:Int)):=by unfold WH;rw[hI]
  have eL:WG c.ck (p:Int) (q:Int)=(c.ck.getD (i+1) fC).time-(c.ck.getD i fC).time:=by unfold WG;rw[hI]
  have Q4:1000*(p:Int)≤(c.ck.getD (i+1) fC).time*(q:Int):=by
   rcases s3 with s3|s3
   ·omega
   ·have:=hl.lst;rw[show c.ck.length-1=i+1 by omega]at this;rw[this];omega
  rw[eN,eL];generalize hA:c.ck.getD i fC=pa at exA a1 a2 a3 a4 o1 o2 s2;generalize hB:c.ck.getD (i+1) fC=pb at exB b1 b2 b3 b4 o1 o2 Q4;obtain⟨T,hT⟩:∃T,T=pb.time-pa.time:=⟨_,rfl⟩
  obtain⟨D,hD⟩:∃D,D=pb.way-pa.way:=⟨_,rfl⟩
  have m1:=Em a1 a2 (show(0:Int)≤(q:Int) by omega) (show(q:Int)≤36000000 by omega);obtain⟨U,hU⟩:∃U,U=1000*(p:Int) -pa.time*(q:Int):=⟨_,rfl⟩
  have m2:=Em a3 a4 (show 0≤T by omega) (show T≤1000 by omega);have m3:=Em m2.1 m2.2 (show(0:Int)≤(q:Int) by omega) (show(q:Int)≤36000000 by omega);have m4:=Em (show 0≤D by omega) (show D≤1000 by omega) (show 0≤U by omega) (show U≤36000000000 by omega);have m5:=Em (show 0≤T by omega) (show T≤1000 by omega) (show(0:Int)≤(q:Int) by omega) (show(q:Int)≤36000000 by omega);have hUT:U≤T*(q:Int):=by rw[hT,Int.sub_mul];omega
  have m6:D*U≤D*(T*(q:Int)):=Int.mul_le_mul_of_nonneg_left hUT (by omega);have m7:pb.way*(T*(q:Int))≤1000*(T*(q:Int)):=Int.mul_le_mul_of_nonneg_right b4 m5.1;have m8:pa.way*T*(q:Int)+D*(T*(q:Int))=pb.way*(T*(q:Int)):=by rw[hD,Int.sub_mul,Int.mul_assoc];omega
  rw[←hT,←hD,←hU];have t1:0<T:=by omega
  have t2:0<T*(q:Int):=Int.mul_pos t1 (by omega);have tK:(((1000*T).toNat*q:Nat):Int)=1000*(T*(q:Int)):=by rw[Int.natCast_mul,Int.toNat_of_nonneg (by omega),Int.mul_assoc]
  refine⟨Du (Jo (an9 hl (p:=(p:Int)) (q:=(q:Int)) (by omega) (by omega) (by omega) (by omega) σ) ?_),by show(_:Nat)≤_;omega,by show 0<(_:Nat);omega,by show(_:Nat)<_;omega⟩;rintro r rfl;simp only[oT,bW,cQ];rw[hI,kK exA,bS,qx,bS,FO,bS,show A.add (.ah (i:Int)) (.ah 1)=some (.ah ((i+1:Nat):Int))from D1 (b:=1) (by omega),bS,kK exB,bS,qx,bS,FO,bS,FJ,bS,FR _ _ rfl,bS,FJ,bS,FR _ _ rfl,bS];rw[show A.ak 0 (jB pb)=some (.ah pb.time)from rfl,bS,show A.ak 0 (jB pa)=some (.ah pa.time)from rfl,bS,sO,cR (by unfold aU;omega),←hT,bS,show A.ak 1 (jB pa)=some (.ah pa.way)from rfl,bS,Aq,cR (by unfold aU;omega),bS,Aq,cR (by unfold aU;omega),bS,show A.ak 1 (jB pb)=some (.ah pb.way)from rfl,bS,bS,sO,cR (by unfold aU;omega),←hD,bS,Aq,cR (by unfold aU;omega),bS,bS,Aq,cR (by unfold aU;omega),bS,sO,cR (by unfold aU;omega),←hU,bS,Aq,cR (by unfold aU;omega),bS,nv,cR (by unfold aU;omega),bS]
  have of1:∀w,rA [.ah (pa.way*T*(q:Int)+D*U)] w=some (.agg (wd (pa.way*T*(q:Int)+D*U).toNat),w):=λw=>by have:=BW (n:=(pa.way*T*(q:Int)+D*U).toNat) (by omega) w;rwa[Int.toNat_of_nonneg (by omega)]at this
  have of2:∀w,rA [.ah (1000*T)] w=some (.agg (wd (1000*T).toNat),w):=λw=>by have:=BW (n:=(1000*T).toNat) (by omega) w;rwa[Int.toNat_of_nonneg (by omega)]at this
  rw[of1,bS,Aq,cR (by unfold aU;omega),bS];simp only;rw[of2,bS];simp only;rw[Aa (by omega) (by omega) (by omega),bS];simp only;rw[show A.lb (.lbx [(AV.int .u64 0),(AV.int .u64 0)])=some [(AV.int .u64 0),(AV.int .u64 0)]from rfl,bS,qD,bS,sB,bS,bS,qD,bS,sB,bS,qi,bS,qi,bS];exact⟨_,cg _ _,rfl⟩
 ·rw[bZ k6,dw,aK k6,BW (by omega),bS,BW (by omega),bS,qD,bS,sB,bS,qD,bS,sB,bS,qi,bS,qi,bS];exact⟨cg _ _,by omega,by omega,by omega⟩
end
section
set_option maxRecDepth 100000
open HP
structure uU (f : jd) : Prop where
 a:0≤f.eD∧f.eD≤65535
 b:0≤f.to∧f.to≤65535
 s:0≤f.start∧f.start≤36000000
 d:0≤f.cD∧f.cD≤36000000
 t:0≤f.time∧f.time≤36000000
 e:f.start+f.cD+f.time≤36000000
 c:sA f.gP=0
noncomputable def Hx (f:jd) (t:Int):Int:=
 if f.start+f.cD+f.time≤t then f.to
 else if t≤f.start+f.cD then f.eD
 else GN f.eD f.to (qu f.gP (t-(f.start+f.cD)).toNat f.time.toNat).1 (qu f.gP (t-(f.start+f.cD)).toNat f.time.toNat).2
theorem I9{s:List Sh}{ro:Sh}{r:AV→AV→Heap→aH}{x y z v v':AV}{σ:Heap}(h:[x,y].any A.own=false)(e1:A.dr s [x,y]=[x,y])(e2:A.nn ro v=v')(e:r x y σ=some (v,σ)):A.wrap true s ro (A.dL r) [x,y] σ=some (v',σ):=by refine wrap_eq h ?_ e2;rw[e1];exact e
theorem arM{f:jd}(h:uU f)(t:Int)(σ:Heap):TB [.agg (gY f),.ah t] σ=some (.ah (Hx f t),σ):=by
 obtain⟨a1,a2⟩:=h.a;obtain⟨b1,b2⟩:=h.b;obtain⟨s1,s2⟩:=h.s;obtain⟨d1,d2⟩:=h.d;obtain⟨t1,t2⟩:=h.t;have he:=h.e;refine I9 (z:=.ah 0) rfl (kM (uv rfl) rfl) (kF _) ?_;unfold aag Hx;rw[FV,bS,OK,bS,TE,bS,nv,cR (by unfold aU;omega),bS,aab,bS,nv,cR (by unfold aU;omega),bS,vi,bS];by_cases h1:f.start+f.cD+f.time≤t
 ·rw[ct h1,dO,aO h1,aaa,bS];exact cg _ _
 rw[bZ h1,dw,aK h1,QA,bS];by_cases h2:t≤f.start+f.cD
 ·rw[ct h2,dO,aO h2,Z9,bS];exact cg _ _
 rw[bZ h2,dw,aK h2,ahG,bS,sO,cR (by unfold aU;omega),bS,bS];obtain⟨w,l1,l2,l3⟩:=aeQ h.c (p:=(t-(f.start+f.cD)).toNat) (q:=f.time.toNat) (by omega) (by omega) (by omega) σ;rw[Int.toNat_of_nonneg (by omega),Int.toNat_of_nonneg (by omega)]at w;rw[w,bS];simp only;generalize qu f.gP (t-(f.start+f.cD)).toNat f.time.toNat=nd at l1 l2 l3 ⊢;rw[mo,bS,ext1,bS,qD,bS,sB,bS,qD,bS,sB,bS,Z9,bS,aaa,bS,qi,bS,qi,bS,aob a1 a2 b1 b2 l2 l1 l3,bS];exact cg _ _
end
section
set_option maxRecDepth 100000
open HP
theorem I8{s:List Sh}{ro:Sh}{r:AV→Heap→aH}{x v v':AV}{σ:Heap}(h:[x].any A.own=false)(e1:A.dr s [x]=[x])(e2:A.nn ro v=v')(e:r x σ=some (v,σ)):A.wrap true s ro (A.dP r) [x] σ=some (v',σ):=by refine wrap_eq h ?_ e2;rw[e1];exact e
theorem DJ{n lo hi:Int}(h1:lo≤n)(h2:n≤hi):bf n lo hi=true:=by unfold bf;exact ct ⟨h1,h2⟩
theorem sW(cs:aq):A.aW (.rp cs)=some (.rp cs):=rfl
theorem nP(k:Nat)(cs:aq):A.aF k (.rp cs)=some (.rp (cs.drop k)):=rfl
theorem aaY{a b:Int}(h1:0≤a∧a≤65535)(h2:0≤b∧b≤65535):Fo [a,b]=some 0:=by unfold Fo;rw[D3 (f:=λ_ n=>if(!(bf n 0 65535))=true then 1 else 0) (by show 2≤bu;decide) (λi x _=>by show(if _ then _ else _)=_;by_cases h:(!(bf x 0 65535))=true<;>simp only[h,if_true,if_false]<;>rfl)];simp only[j0,DJ h1.1 h1.2,DJ h2.1 h2.2];rfl
theorem ap8{f:jd}(h:uU f):Kv f=some 0:=by obtain⟨s1,s2⟩:=h.s;obtain⟨d1,d2⟩:=h.d;obtain⟨t1,t2⟩:=h.t;have he:=h.e;unfold Kv;rw[aaY h.a h.b,aY,aK (λq=>q rfl),DJ s1 s2,DJ d1 d2,DJ t1 t2,show IntKind.i64.wrap (f.start+f.cD)=f.start+f.cD from cR (by unfold aU;omega),cR (by unfold aU;omega),DJ (by omega) he,h.c];rfl
theorem aqU{f:jd}(h:uU f){t:Int}(ht:0≤t)(ht2:t≤36000000)(σ:Heap):TA [.agg (gY f),.ah t] σ=some (.aL [.ah (Hx f t),.ah 0],σ):=by refine I9 (z:=.ah 0) rfl (kM (uv rfl) rfl) (kF _) ?_;unfold aaf;rw[FV,bS,I5,bS,ag1 (ap8 h),bS];simp only;rw[KB (r:=true) (by unfold Oh;rw[DJ ht ht2]),bS];simp only;rw[atw,bS,yK,bS];simp only;rw[show((((A.cell (.ah 0)).bind λv=>some [v]).bind λc7=>(A.au 0 c7 [(AV.ah 0),(AV.ah 0)]).bind λc8=>((A.cell (.ah (if false=true then 1 else 0))).bind λv=>some [v]).bind λc9=>(A.au 1 c9 c8).bind λfQ=>some fQ).bind λcs=>some (AV.sl 1 (gf 1 2 cs)))=some (sl 1 vq [0,0])from rfl,bS,FT _ (by decide),bS];simp only;rw[show((List.find? (λn=>decide (¬n=0)) ([0,0]:List Int)).getD 0)=0 from rfl,aeW,bS,bZ (λq=>q rfl),dw,bS,arM h,bS];exact cg _ _
noncomputable def yx (r:dB) (c:Int):Int:=Hx r.l6 (if 36000000<c then 36000000 else c)
theorem Ls{r:dB}(h:uU r.l6){c:Int}(hc:0≤c)(σ:Heap):yA [.agg (gO r),.ah c] σ=some (.ah (yx r c),σ):=by refine I9 (z:=.ah 0) rfl (kM (uv rfl) rfl) (kF _) ?_;unfold YJ;rw[By,bS,ah5,bS,show A.min (.ah c) (.ah 36000000)=some (.ah (if 36000000<c then 36000000 else c))from rfl,bS,aqU h (by split<;>omega) (by split<;>omega),bS,mo,bS,ext1,bS];exact cg _ _
def eO(c:Cz)(t:Int):Int:=if c.mD=true then c.shown else IntKind.i64.wrap (IntKind.i64.wrap (c.shown+t) -c.since)
theorem Qf(c:Cz)(t:Int)(σ:Heap):zK [.agg (yM c),.ah t] σ=some (.ah (eO c t),σ):=by
 refine PV rfl ?_;unfold YN eO;rw[TW,bS,ajo,bS];cases c.mD
 ·rw[dw,aK (by decide),ZG,bS,nv,bS,ajn,bS,sO,bS];exact cg _ _
 ·rw[dO,aO rfl,ZG,bS];exact cg _ _
def WA(r:dB):Int:=IntKind.i64.wrap (IntKind.i64.wrap (r.l6.start+r.l6.cD)+r.l6.time)
theorem aq8(r:dB)(σ:Heap):Sy [.agg (gO r)] σ=some (.ah (WA r),σ):=by refine I8 rfl (kM (uv rfl) rfl) (kF _) ?_;unfold YU;rw[By,bS,akB,bS,akC,bS,nv,bS,akD,bS,nv,bS];exact cg _ _
def jR(b:bC):Int:=if b.eF<0∨b.aM.mD=true then -1 else IntKind.i64.wrap (IntKind.i64.wrap (b.aM.since+b.eF) -b.aM.shown)
theorem aq7(b:bC)(σ:Heap):DQ [.rp (aV b)] σ=some (.ah (jR b),σ):=by
 refine I8 rfl rfl (kF _) ?_;unfold YI jR;rw[sW,bS,nP,bS,Zs,bS,mU,bS];by_cases hf:b.eF<0
 ·rw[ct hf];simp only[A0,bS,mM];rw[dO,aO (.inl hf)];exact cg _ _
 rw[bZ hf];simp only[gF,bS,sW,nP,mZ,List.drop_zero,ai5];cases hs:b.aM.mD
 ·rw[dw,aK (λq=>q.elim hf (λq=>by cases q))];simp only[ai4,show ∀(x:bC){σ:Heap},((A.deref (.rp (aV x)) σ).bind λc=>A.ak 0 c)=some (.ah x.aM.shown)from λ_ _=>rfl,Zs,bS,nv,sO];exact cg _ _
 ·rw[dO,aO (.inr rfl)];exact cg _ _
end
section
set_option maxRecDepth 100000
open HP
theorem gU(X:Option AV)(w:Bool)(d:Option AV):A.guard (.aL []) w X d=d:=by have h:A.guard (.aL []) w X d=d:=rfl;exact h.trans (Eq.refl d)
theorem AL(b:Bool):A.not (.bool b)=some (.bool (!b)):=rfl
section
variable {κ ν : Type} [DecidableEq κ] {ek : A.EK} {eK : κ → AV} {eV : ν → AV} {σ : Heap} {o : Option (List (κ × ν))}
theorem aj8(hq:∀a b,A.fN ek (eK a) (eK b)=some (decide (a=b)))(x:κ)(z:AV)(hok:A.lG ek (eK x)=true):A.F9 ek (qy eK eV o) (eK x) z σ=some (.aL [((dh x (o.getD [])).map eV).getD z,.bool (dh x (o.getD [])).isSome]):=by
 cases o with
 |none=>simp only[A.F9,qy,hok,cq,A.entries,aY,Option.getD_none,dh];rfl
 |some l=>simp only[A.F9,qy,yg,hok,cq,A.entries,aY,Ek hq,cC,Option.getD_some,Option.isSome_map]
theorem ane(hq:∀a b,A.fN ek (eK a) (eK b)=some (decide (a=b)))(x:κ)(z:AV)(hok:A.lG ek (eK x)=true):A.look ek (qy eK eV o) (eK x) z σ=some (((dh x (o.getD [])).map eV).getD z):=by
 cases o with
 |none=>simp only[A.look,qy,hok,cq,A.entries,aY,Option.getD_none,dh];rfl
 |some l=>simp only[A.look,qy,yg,hok,cq,A.entries,aY,Ek hq,cC,Option.getD_some]
end
def arH:dB:=⟨⟨0,0,0,0,0,⟨0,[]⟩⟩,0,false⟩
def fc(b:bC)(k:aG)(c:Int):dB×Bool:=match dh k (b.runs.getD [])with
 |none=>(arH,false)
 |some r=>(r,!(r.ending&&decide (WA r≤c)))
abbrev qo:aq:=[(AV.ah 0),(AV.ah 0),(AV.ah 0),(AV.ah 0),(AV.ah 0),(AV.ah 0),AV.az,(AV.ah 0),aR]
theorem Vp{ro:Sh}{r:AV→AV→AV→Heap→aH}{x y z v v':AV}{σ σ':Heap}(e2:A.nn ro v=v')(e:r x y z σ=some (v,σ')):A.wrap false [] ro (A.nE r) [x,y,z] σ=some (v',σ'):=by have:A.nE r [x,y,z] σ=some (v,σ'):=e;simp only[A.wrap,Bool.false_and,bG,A.dr,this,cC,e2]
theorem abI{p q:AV}(b:bC)(k:aG)(c:Int)(σ:Heap)(h1:A.aW p=some p)(h2:A.aF 9 p=some q)(h3:((A.deref q σ).bind λc=>A.ak 0 c)=some (qy (λx=>AV.agg (aX x)) (λx=>AV.agg (gO x)) b.runs)):tV [p,.agg (aX k),.ah c] σ=some (.aL [.agg (gO (fc b k c).1),.bool (fc b k c).2],σ):=by
 suffices ∃v,A.nn (.t [(.a [.k,.k,.k,.k,.k,.k,(.s 2),.k,.k]),.k]) v=.aL [.agg (gO (fc b k c).1),.bool (fc b k c).2]∧RY p (.agg (aX k)) (.ah c) σ=some (v,σ) by obtain⟨v,h1,h2⟩:=this;exact Vp h1 h2
 unfold RY fc;rw[Cs,bS,h1,bS,h2,bS,h3,bS,sx,bS,aj8 tZ k _ rfl,bS,mo,bS,ext1,bS];cases dh k (b.runs.getD [])with
 |none=>refine⟨.aL [.agg qo,.bool false],rfl,?_⟩;simp only[Option.map_none,Option.getD_none,Option.isSome_none];rw[show A.cells 9 (.agg qo)=some qo from rfl,bS,show A.au 0 qo qo=some qo from rfl,bS,show A.aC 0 9 qo=some (.agg qo)from rfl,bS];simp only[wO,gU,bS,mZ,show A.cells 9 (.agg qo)=some qo from rfl,show A.au 0 qo qo=some qo from rfl,show A.aC 0 9 qo=some (.agg qo)from rfl];exact cg _ _
 |some r=>
  refine⟨.aL [.agg (gO r),.bool (!(r.ending&&decide (WA r≤c)))],rfl,?_⟩;simp only[cC,Option.getD_some,Option.isSome_some];rw[By,bS,D6 _ _ rfl,bS,yI,bS];simp only[gT,bS,OL];cases he:r.ending
  ·simp only[wO,bS,mZ,mM,AL,By,yI,D6 r _ (show qo.length=9 from rfl)];exact cg _ _
  ·simp only[gT,bS,yI,fM (aq8 r σ),vi];simp only[bS,mM,AL,By,yI,D6 r _ (show qo.length=9 from rfl)];exact cg _ _
theorem am3(b:bC)(k:aG)(c:Int)(σ:Heap):tV [.rp (aV b),.agg (aX k),.ah c] σ=some (.aL [.agg (gO (fc b k c).1),.bool (fc b k c).2],σ):=abI b k c σ rfl rfl (Ov b)
def mn(a b:Int):Int:=if b<a then b else a
theorem Xi(a b:Int):A.min (.ah a) (.ah b)=some (.ah (mn a b)):=rfl
def wG(f:jd):jd:={f with start:=mn f.start 36000000,cD:=mn f.cD (IntKind.i64.wrap (36000000-mn f.start 36000000)),time:=mn f.time (IntKind.i64.wrap (IntKind.i64.wrap (36000000-mn f.start 36000000) -mn f.cD (IntKind.i64.wrap (36000000-mn f.start 36000000))))}
abbrev CH:aq:=[(AV.ah 0),(AV.ah 0),(AV.ah 0),(AV.ah 0),(AV.ah 0),(AV.ah 0),AV.az]
theorem sE(n:Int):((A.cell (.ah n)).bind λv=>some [v])=some [.ah n]:=rfl
theorem arF(f:jd)(n:Int):A.au 2 [.ah n] (gY f)=some (gY {f with start:=n}):=rfl
theorem aeL(f:jd)(n:Int):A.au 3 [.ah n] (gY f)=some (gY {f with cD:=n}):=rfl
theorem LO(f:jd)(n:Int):A.au 4 [.ah n] (gY f)=some (gY {f with time:=n}):=rfl
theorem Vr(f:jd)(σ:Heap):yD [.agg (gY f)] σ=some (.agg (gY (wG f)),σ):=by refine I8 rfl (kM (uv rfl) rfl) (v:=.agg (gY (wG f))) rfl ?_;unfold aah wG;rw[FV,bS,OK,bS,Xi,bS,sE,bS,arF,bS,TE,bS,OK,bS,sO,bS,Xi,bS,sE,bS,aeL,bS,aab,bS,OK,bS,sO,bS,TE,bS,sO,bS,Xi,bS,sE,bS,LO,bS,I5,bS,FV,bS,Pt _ _ rfl,bS,I5,bS];exact cg _ _
end
section
set_option maxRecDepth 100000
open HP
def tO(a b:Int):Int:=(2*(a*b)+65535) / 131070
theorem an5{a b:Int}(h1:0≤a∧a≤65535)(h2:0≤b∧b≤65535):KF a b=some (tO a b,0):=by
 have m:=Em h1.1 h1.2 h2.1 h2.2;unfold KF;rw[aaY h1 h2,aY,aK (λq=>q rfl)];unfold KJ KI tO;rw[show IntKind.i64.wrap (a*b)=a*b from cR (by unfold aU;omega),show IntKind.i64.wrap (2*(a*b))=2*(a*b)from cR (by unfold aU;omega),show IntKind.i64.wrap (2*(a*b)+65535)=2*(a*b)+65535 from cR (by unfold aU;omega),show IntKind.i64.wrap (2*65535)=131070 from cR (by unfold aU;omega)]
 have q1:My (2*(a*b)+65535) 131070=some ((2*(a*b)+65535) / 131070):=by unfold My;rw[aK (by decide),Int.tdiv_eq_ediv_of_nonneg (by omega),cR (by unfold aU;omega)]
 have q2:Mz (2*(a*b)+65535) 131070=some ((2*(a*b)+65535) % 131070):=by unfold Mz;rw[aK (by decide),Int.tmod_eq_emod_of_nonneg (by omega)]
 rw[q1,aY,q2,aY,aK (by omega)];rfl
theorem adg{a b:Int}(h1:0≤a∧a≤65535)(h2:0≤b∧b≤65535)(σ:Heap):Fp [.ah a,.ah b] σ=some (.aL [.ah (tO a b),.ah 0],σ):=ah1 (an5 h1 h2)
theorem aqG{a b:Int}(h1:0≤a∧a≤65535)(h2:0≤b∧b≤65535):0≤tO a b∧tO a b≤65535:=by have m:=Em h1.1 h1.2 h2.1 h2.2;unfold tO;omega
theorem apP{a b:Int}(ha:0≤a∧a≤65535)(hb:0≤b∧b≤65535){n d:Nat}(hnd:n≤d)(hd:0<d):0≤GN a b n d∧GN a b n d≤65535:=by
 unfold GN
 have key:∀m:Nat,(2*m*n+d) / (2*d)≤m:=λm=>by
  refine Nat.le_of_lt_succ ((Nat.div_lt_iff_lt_mul (by omega)).2 ?_);have:m*n≤m*d:=Nat.mul_le_mul_left _ hnd;have e1:2*m*n=2*(m*n):=Nat.mul_assoc _ _ _;have e2:(m+1)*(2*d)=2*(m*d)+2*d:=by rw[gJ,Nat.mul_left_comm];omega
  rw[e1,e2];omega
 split
 ·have:=key (b-a).toNat;generalize (2*(b-a).toNat*n+d) / (2*d)=q at this ⊢;omega
 ·have k:=key (a-b).toNat;have:(2*(a-b).toNat*n+d-1) / (2*d)≤(2*(a-b).toNat*n+d) / (2*d):=Nat.div_le_div_right (by omega);generalize (2*(a-b).toNat*n+d) / (2*d)=q at this k;generalize (2*(a-b).toNat*n+d-1) / (2*d)=q' at this ⊢;omega
theorem aqp{f:jd}(h:uU f)(t:Int):0≤Hx f t∧Hx f t≤65535:=by
 obtain⟨a1,a2⟩:=h.a;obtain⟨b1,b2⟩:=h.b;obtain⟨s1,s2⟩:=h.s;obtain⟨d1,d2⟩:=h.d;obtain⟨t1,t2⟩:=h.t;have he:=h.e;unfold Hx;split
 ·exact⟨b1,b2⟩
 split
 ·exact⟨a1,a2⟩
 obtain⟨_,l1,l2,_⟩:=aeQ h.c (p:=(t-(f.start+f.cD)).toNat) (q:=f.time.toNat) (by omega) (by omega) (by omega) [];exact apP ⟨a1,a2⟩ ⟨b1,b2⟩ l1 l2
theorem Jq{r:dB}(h:uU r.l6)(c:Int):0≤yx r c∧yx r c≤65535:=aqp h _
structure uZ (b : bC) (t : Int) : Prop where
 runs:∀k r,dh k (b.runs.getD [])=some r→uU r.l6
 kY:0≤b.kY∧b.kY≤65535
 tG:0≤eO b.aM t
def eR(d:bJ)(k:aG):Int×Int×Bool:=match dh k (d.params.getD [])with
 |none=>(0,0,false)
 |some p=>(p.group,p.default,p.snap)
abbrev Gh:aq:=[bB,(AV.ah 0),(AV.ah 0),(AV.ah 0),(AV.ah 0),aR,AV.az]
def lX(d:bJ)(k:aG):aq:=match dh k (d.params.getD [])with
 |none=>Gh
 |some p=>eX p
theorem ab2(d:bJ)(k:aG)(σ:Heap):A.look (.s [0,2]) (qy (λx=>AV.agg (aX x)) (λx=>AV.agg (eX x)) d.params) (.agg (aX k)) (.agg Gh) σ=some (.agg (lX d k)):=by rw[ane tZ k _ rfl];unfold lX;cases dh k (d.params.getD [])<;>rfl
theorem Jj(d:bJ)(k:aG):A.cells 7 (.agg (lX d k))=some (lX d k):=by unfold lX;cases dh k (d.params.getD [])<;>rfl
theorem aed(d:bJ)(k:aG):A.au 0 (lX d k) Gh=some (lX d k):=by
 unfold lX;cases dh k (d.params.getD [])
 ·rfl
 ·exact Cl _ _ rfl
theorem CE(d:bJ)(k:aG):A.ak 1 (lX d k)=some (.ah (eR d k).1):=by unfold lX eR;cases dh k (d.params.getD [])<;>rfl
theorem aqv(d:bJ)(k:aG):A.ak 4 (lX d k)=some (.ah (eR d k).2.1):=by unfold lX eR;cases dh k (d.params.getD [])<;>rfl
theorem aqw(d:bJ)(k:aG):A.ak 5 (lX d k)=some (.bool (eR d k).2.2):=by unfold lX eR;cases dh k (d.params.getD [])<;>rfl
structure GR where
 out:Int
 owner:Int
 pri:Int
 oJ:Int
noncomputable def JO (g:Int) (b:bC) (r:dB) (c:Int):Int:=if g=1 then tO (yx r c) b.kY else yx r c
noncomputable def ue (g:Int) (k:aG) (t:Int) (s:GR) (b:bC):GR:=
 if(fc b k (eO b.aM t)).2=false∨b.ku<s.pri then s
 else if s.pri<b.ku∨(g=1∧s.out<JO g b (fc b k (eO b.aM t)).1 (eO b.aM t))∨(¬g=1∧s.oJ<(fc b k (eO b.aM t)).1.oJ)then⟨JO g b (fc b k (eO b.aM t)).1 (eO b.aM t),b.aA,b.ku,(fc b k (eO b.aM t)).1.oJ⟩
 else s
noncomputable def oV (d:bJ) (bs:List bC) (k:aG) (t:Int):GR:=bs.foldl (ue (eR d k).1 k t) ⟨(eR d k).2.1,0,-1,0⟩
theorem jI(cs:aq):A.lb (.lbx cs)=some cs:=rfl
theorem CA{b:bC}{t:Int}(h:uZ b t){k:aG}(hd:(fc b k (eO b.aM t)).2=true):uU (fc b k (eO b.aM t)).1.l6:=by
 have h:=h.runs k;revert hd h;unfold fc;generalize dh k (b.runs.getD [])=o;cases o with
 |none=>intro hd;cases hd
 |some r=>intro _ h;exact h r rfl
theorem amV(b:bC)(σ:Heap):((A.deref (.rp ((aV b).drop 0)) σ).bind λc=>A.aC 0 3 c)=some (.agg (yM b.aM)):=rfl
theorem ajj{d:bJ}{s:cE}{k:aG}{t:Int}(hs:s.aD.length≤bu){i:Nat}{b:bC}(hb:s.aD[i]? =some b)(ho:uZ b t)(m:GR)(σ:Heap):((λbw nh=>
   (A.lss (aj bw 6) (AV.ah (s.aD.length:Int))).bind λey=>
   A.cond ey (
    (A.aW (AV.rp (uV s))).bind λeC=>
    (A.aF 0 eC).bind λcO=>
    ((A.deref cO nh).bind λiM=>A.ak 0 iM).bind λfT=>
    (A.bh 10 fT (aj bw 6)).bind λx24=>
    (A.aW x24).bind λx25=>
    (A.aF 0 x25).bind λiw=>
    ((A.deref iw nh).bind λmH=>A.aC 0 3 mH).bind λx28=>
    (zK [x28,(AV.ah t)] nh).bind λgR=>
    ((A.lb (aj bw 0)).bind λxZ=>A.aC 0 2 xZ).bind λx31=>
    (tV [x24,x31,gR.1] gR.2).bind λr32=>
    (A.ext 0 r32.1).bind λgu=>
    (A.ext 1 r32.1).bind λx34=>
    (A.cells 9 gu).bind λjF=>
    (A.au 0 jF [(AV.ah 0),(AV.ah 0),(AV.ah 0),(AV.ah 0),(AV.ah 0),(AV.ah 0),AV.az,(AV.ah 0),aR]).bind λjG=>
    (A.not x34).bind λcU=>
    (A.guard cU false (some x24) ay).bind λx38=>
    (A.guard cU false (A.aW x38) ay).bind λgH=>
    (A.guard cU false (A.aF 4 gH) ay).bind λeA=>
    (A.guard cU false ((A.deref eA r32.2).bind λAT=>A.ak 0 AT) ay).bind λi6=>
    (A.guard cU false (some (aj bw 4)) ay).bind λiy=>
    (A.guard cU false (A.lss i6 iy) ay).bind λgA=>
    (A.pick cU dD gA).bind λfO=>
    A.cond fO (
     (A.add (aj bw 6) (AV.ah 1)).bind λiz=>
     some (AX.normal,[(aj bw 0),(aj bw 1),(aj bw 2),(aj bw 3),(aj bw 4),(aj bw 5),iz],r32.2)) (
     (A.aC 0 9 jG).bind λko=>
     (yA [ko,gR.1] r32.2).bind λmQ=>
     ((A.lb (aj bw 1)).bind λ_=>some (1)).bind λNi=>
     ((A.lb (aj bw 1)).bind λqS=>A.ak Ni qS).bind λjy=>
     (A.eql .i jy (AV.ah 1)).bind λfP=>
     (A.cond fP (
      (A.aW x24).bind λiR=>
      (A.aF 7 iR).bind λmC=>
      ((A.deref mC mQ.2).bind λtC=>A.ak 0 tC).bind λlY=>
      (Fp [mQ.1,lY] mQ.2).bind λBd=>
      (A.ext 0 Bd.1).bind λgb=>
      (A.ext 1 Bd.1).bind λji=>
      some ([(aj bw 0),(aj bw 1),(AV.lbx jG),gb],Bd.2)) (
      some ([(aj bw 0),(aj bw 1),(AV.lbx jG),mQ.1],mQ.2))).bind λdc=>
     (A.aW x24).bind λkJ=>
     (A.aF 4 kJ).bind λfL=>
     ((A.deref fL dc.2).bind λya=>A.ak 0 ya).bind λnJ=>
     (A.gtr nJ (aj bw 4)).bind λkV=>
     ((A.lb (aj dc.1 1)).bind λ_=>some (1)).bind λNj=>
          (A.guard kV false ((A.lb (aj dc.1 1)).bind λvH=>A.ak Nj vH) ay).bind λjK=>
     (A.guard kV false (A.eql .i jK (AV.ah 1)) ay).bind λiE=>
     (A.guard kV false (some iE) ay).bind λgM=>
     (A.guard gM true (some (aj dc.1 3)) ay).bind λp5=>
     (A.guard gM true (some (aj bw 2)) ay).bind λtT=>
     (A.guard gM true (A.gtr p5 tT) ay).bind λjL=>
     (A.guard kV false (A.pick gM jL aR) ay).bind λjq=>
     (A.pick kV dD jq).bind λfG=>
     ((A.lb (aj dc.1 1)).bind λ_=>some (1)).bind λHH=>
          (A.guard fG false ((A.lb (aj dc.1 1)).bind λow=>A.ak HH ow) ay).bind λkW=>
     (A.guard fG false (A.neq .i kW (AV.ah 1)) ay).bind λlP=>
     (A.guard fG false (some lP) ay).bind λiA=>
     ((A.lb (aj dc.1 2)).bind λ_=>some (7)).bind λNk=>
          (A.guard iA true ((A.lb (aj dc.1 2)).bind λnH=>A.ak Nk nH) ay).bind λsj=>
     (A.guard iA true (some (aj bw 5)) ay).bind λuN=>
     (A.guard iA true (A.gtr sj uN) ay).bind λjM=>
     (A.guard fG false (A.pick iA jM aR) ay).bind λkX=>
     (A.pick fG dD kX).bind λoG=>
     (A.cond oG (
      (A.aW x24).bind λBm=>
      (A.aF 3 Bm).bind λx90=>
      ((A.deref x90 dc.2).bind λMK=>A.ak 0 MK).bind λru=>
      (A.aW x24).bind λx93=>
      (A.aF 4 x93).bind λuO=>
      ((A.deref uO dc.2).bind λlK=>A.ak 0 lK).bind λx96=>
      ((A.lb (aj dc.1 2)).bind λ_=>some (7)).bind λNl=>
      ((A.lb (aj dc.1 2)).bind λtF=>A.ak Nl tF).bind λx99=>
      some ([(aj dc.1 0),(aj dc.1 1),(aj dc.1 3),ru,x96,x99],dc.2)) (
      some ([(aj dc.1 0),(aj dc.1 1),(aj bw 2),(aj bw 3),(aj bw 4),(aj bw 5)],dc.2))).bind λoD=>
     (A.add (aj bw 6) (AV.ah 1)).bind λqM=>
     some (AX.normal,[(aj oD.1 0),(aj oD.1 1),(aj oD.1 2),(aj oD.1 3),(aj oD.1 4),(aj oD.1 5),qM],oD.2))) (
    some (AX.exit 0,[(aj bw 0),(aj bw 1),(aj bw 2),(aj bw 3),(aj bw 4),(aj bw 5),(aj bw 6)],nh)))) [.lbx (aX k),.lbx (lX d k),.ah m.out,.ah m.owner,.ah m.pri,.ah m.oJ,.ah (i:Int)] σ=some (.normal,[.lbx (aX k),.lbx (lX d k),.ah (ue (eR d k).1 k t m b).out,.ah (ue (eR d k).1 k t m b).owner,.ah (ue (eR d k).1 k t m b).pri,.ah (ue (eR d k).1 k t m b).oJ,.ah ((i+1:Nat):Int)],σ):=by
 simp only[bW,cQ];rw[lF hb,bS,dO,sW,bS,nP,bS,Zv,bS,kK hb,bS,sW,bS,nP,bS,amV,bS,Qf,bS];simp only;rw[jI,bS,sx,bS,am3,bS];simp only;rw[mo,bS,ext1,bS,By,bS,D6 _ _ rfl,bS,AL,bS];unfold ue;cases hd:(fc b k (eO b.aM t)).2
 ·rw[aO (.inl rfl)];simp only[Bool.not_false,A0,bS,mM];rw[dO,iF hb hs,bS]
 have hok:=CA ho hd;have hbd:=Jq hok (eO b.aM t);simp only[Bool.not_true,gF,bS,sW,nP,KK,mU,mZ];by_cases hp:b.ku<m.pri
 ·rw[ct hp,dO,iF hb hs,bS,aO (.inr hp)]
 rw[bZ hp,dw,aK (λq=>q.elim (λq=>by cases q) hp),yI,bS,Ls hok ho.tG,bS];simp only;rw[jI,bS,bS,bS,CE,bS,jU,bS];generalize hr:(fc b k (eO b.aM t)).1=r at hok hbd ⊢;generalize hg:(eR d k).1=g;unfold JO;by_cases h1:g=1
 ·rw[ct h1,dO];simp only[sW,bS,nP,ai6,adg hbd ho.kY,mo,ext1,aO h1];generalize tO (yx r (eO b.aM t)) b.kY=n;by_cases h2:m.pri<b.ku
  ·simp only[ct h2,JD,A0,gU,bS,mM,jI,bW,cQ,cT,sW,nP,Ou,KK,KU,aO (Or.inl h2),iF hb hs]
  simp only[bZ h2,JD,gF,gT,bS,mZ,mM,jI,CE,hg,jU,ct h1,bW,cQ];by_cases h3:m.out<n
  ·have hc:m.pri<b.ku∨(g=1∧m.out<n)∨(¬g=1∧m.oJ<r.oJ):=.inr (.inl ⟨h1,h3⟩);simp only[ct h3,A0,gU,bS,mM,cT,sW,nP,Ou,KK,jI,KU,aO hc,iF hb hs,bW,cQ]
  ·have hc:¬(m.pri<b.ku∨(g=1∧m.out<n)∨(¬g=1∧m.oJ<r.oJ)):=λq=>q.elim h2 λq=>q.elim (λq=>h3 q.2) λq=>q.1 h1
   simp only[bZ h3,gF,wO,gU,bS,mZ,cF,jI,CE,hg,fW,decide_not,ct h1,Bool.not_true,aK hc,iF hb hs,bW,cQ]
 ·rw[bZ h1,dw];simp only[sW,bS,nP,aK h1];generalize yx r (eO b.aM t)=n;by_cases h2:m.pri<b.ku
  ·simp only[ct h2,JD,A0,gU,bS,mM,jI,bW,cQ,cT,sW,nP,Ou,KK,KU,aO (Or.inl h2),iF hb hs]
  simp only[bZ h2,JD,gF,wO,gU,bS,mZ,jI,CE,hg,jU,fW,decide_not,bZ h1,Bool.not_false,gT,bW,cQ,KU];by_cases h4:m.oJ<r.oJ
  ·have hc:m.pri<b.ku∨(g=1∧m.out<n)∨(¬g=1∧m.oJ<r.oJ):=.inr (.inr ⟨h1,h4⟩);simp only[ct h4,mM,bS,cT,sW,nP,Ou,KK,jI,KU,aO hc,iF hb hs,bW,cQ]
  ·have hc:¬(m.pri<b.ku∨(g=1∧m.out<n)∨(¬g=1∧m.oJ<r.oJ)):=λq=>q.elim h2 λq=>q.elim (λq=>h1 q.1) λq=>h4 q.2
   simp only[bZ h4,mM,bS,cF,aK hc,iF hb hs,bW,cQ]
theorem aji{d:bJ}{s:cE}{k:aG}{t:Int}(hs:s.aD.length≤bu)(ho:∀b∈s.aD,uZ b t)(m:GR)(σ:Heap):∃q,A.loop ((λbw nh=>
   (A.lss (aj bw 6) (AV.ah (s.aD.length:Int))).bind λey=>
   A.cond ey (
    (A.aW (AV.rp (uV s))).bind λeC=>
    (A.aF 0 eC).bind λcO=>
    ((A.deref cO nh).bind λiM=>A.ak 0 iM).bind λfT=>
    (A.bh 10 fT (aj bw 6)).bind λx24=>
    (A.aW x24).bind λx25=>
    (A.aF 0 x25).bind λiw=>
    ((A.deref iw nh).bind λmH=>A.aC 0 3 mH).bind λx28=>
    (zK [x28,(AV.ah t)] nh).bind λgR=>
    ((A.lb (aj bw 0)).bind λxZ=>A.aC 0 2 xZ).bind λx31=>
    (tV [x24,x31,gR.1] gR.2).bind λr32=>
    (A.ext 0 r32.1).bind λgu=>
    (A.ext 1 r32.1).bind λx34=>
    (A.cells 9 gu).bind λjF=>
    (A.au 0 jF [(AV.ah 0),(AV.ah 0),(AV.ah 0),(AV.ah 0),(AV.ah 0),(AV.ah 0),AV.az,(AV.ah 0),aR]).bind λjG=>
    (A.not x34).bind λcU=>
    (A.guard cU false (some x24) ay).bind λx38=>
    (A.guard cU false (A.aW x38) ay).bind λgH=>
    (A.guard cU false (A.aF 4 gH) ay).bind λeA=>
    (A.guard cU false ((A.deref eA r32.2).bind λAT=>A.ak 0 AT) ay).bind λi6=>
    (A.guard cU false (some (aj bw 4)) ay).bind λiy=>
    (A.guard cU false (A.lss i6 iy) ay).bind λgA=>
    (A.pick cU dD gA).bind λfO=>
    A.cond fO (
     (A.add (aj bw 6) (AV.ah 1)).bind λiz=>
     some (AX.normal,[(aj bw 0),(aj bw 1),(aj bw 2),(aj bw 3),(aj bw 4),(aj bw 5),iz],r32.2)) (
     (A.aC 0 9 jG).bind λko=>
     (yA [ko,gR.1] r32.2).bind λmQ=>
     ((A.lb (aj bw 1)).bind λ_=>some (1)).bind λNi=>
     ((A.lb (aj bw 1)).bind λqS=>A.ak Ni qS).bind λjy=>
     (A.eql .i jy (AV.ah 1)).bind λfP=>
     (A.cond fP (
      (A.aW x24).bind λiR=>
      (A.aF 7 iR).bind λmC=>
      ((A.deref mC mQ.2).bind λtC=>A.ak 0 tC).bind λlY=>
      (Fp [mQ.1,lY] mQ.2).bind λBd=>
      (A.ext 0 Bd.1).bind λgb=>
      (A.ext 1 Bd.1).bind λji=>
      some ([(aj bw 0),(aj bw 1),(AV.lbx jG),gb],Bd.2)) (
      some ([(aj bw 0),(aj bw 1),(AV.lbx jG),mQ.1],mQ.2))).bind λdc=>
     (A.aW x24).bind λkJ=>
     (A.aF 4 kJ).bind λfL=>
     ((A.deref fL dc.2).bind λya=>A.ak 0 ya).bind λnJ=>
     (A.gtr nJ (aj bw 4)).bind λkV=>
     ((A.lb (aj dc.1 1)).bind λ_=>some (1)).bind λNj=>
          (A.guard kV false ((A.lb (aj dc.1 1)).bind λvH=>A.ak Nj vH) ay).bind λjK=>
     (A.guard kV false (A.eql .i jK (AV.ah 1)) ay).bind λiE=>
     (A.guard kV false (some iE) ay).bind λgM=>
     (A.guard gM true (some (aj dc.1 3)) ay).bind λp5=>
     (A.guard gM true (some (aj bw 2)) ay).bind λtT=>
     (A.guard gM true (A.gtr p5 tT) ay).bind λjL=>
     (A.guard kV false (A.pick gM jL aR) ay).bind λjq=>
     (A.pick kV dD jq).bind λfG=>
     ((A.lb (aj dc.1 1)).bind λ_=>some (1)).bind λHH=>
          (A.guard fG false ((A.lb (aj dc.1 1)).bind λow=>A.ak HH ow) ay).bind λkW=>
     (A.guard fG false (A.neq .i kW (AV.ah 1)) ay).bind λlP=>
     (A.guard fG false (some lP) ay).bind λiA=>
     ((A.lb (aj dc.1 2)).bind λ_=>some (7)).bind λNk=>
          (A.guard iA true ((A.lb (aj dc.1 2)).bind λnH=>A.ak Nk nH) ay).bind λsj=>
     (A.guard iA true (some (aj bw 5)) ay).bind λuN=>
     (A.guard iA true (A.gtr sj uN) ay).bind λjM=>
     (A.guard fG false (A.pick iA jM aR) ay).bind λkX=>
     (A.pick fG dD kX).bind λoG=>
     (A.cond oG (
      (A.aW x24).bind λBm=>
      (A.aF 3 Bm).bind λx90=>
      ((A.deref x90 dc.2).bind λMK=>A.ak 0 MK).bind λru=>
      (A.aW x24).bind λx93=>
      (A.aF 4 x93).bind λuO=>
      ((A.deref uO dc.2).bind λlK=>A.ak 0 lK).bind λx96=>
      ((A.lb (aj dc.1 2)).bind λ_=>some (7)).bind λNl=>
      ((A.lb (aj dc.1 2)).bind λtF=>A.ak Nl tF).bind λx99=>
      some ([(aj dc.1 0),(aj dc.1 1),(aj dc.1 3),ru,x96,x99],dc.2)) (
      some ([(aj dc.1 0),(aj dc.1 1),(aj bw 2),(aj bw 3),(aj bw 4),(aj bw 5)],dc.2))).bind λoD=>
     (A.add (aj bw 6) (AV.ah 1)).bind λqM=>
     some (AX.normal,[(aj oD.1 0),(aj oD.1 1),(aj oD.1 2),(aj oD.1 3),(aj oD.1 4),(aj oD.1 5),qM],oD.2))) (
    some (AX.exit 0,[(aj bw 0),(aj bw 1),(aj bw 2),(aj bw 3),(aj bw 4),(aj bw 5),(aj bw 6)],nh)))) [.lbx (aX k),.lbx (lX d k),.ah m.out,.ah m.owner,.ah m.pri,.ah m.oJ,.ah 0] σ=some q∧∃u,q=(.exit 0,[.lbx (aX k),.lbx (lX d k),.ah (s.aD.foldl (ue (eR d k).1 k t) m).out,.ah (s.aD.foldl (ue (eR d k).1 k t) m).owner,.ah (s.aD.foldl (ue (eR d k).1 k t) m).pri,.ah (s.aD.foldl (ue (eR d k).1 k t) m).oJ,u],σ):=by
 refine pE (λz v w=>∃(i:Nat)(x:GR),v=[.lbx (aX k),.lbx (lX d k),.ah x.out,.ah x.owner,.ah x.pri,.ah x.oJ,.ah (i:Int)]∧w=σ∧z=s.aD.length-i∧i≤s.aD.length∧(s.aD.drop i).foldl (ue (eR d k).1 k t) x=s.aD.foldl (ue (eR d k).1 k t) m) ?_ (n:=s.aD.length) ⟨0,m,rfl,rfl,rfl,jQ _,rfl⟩;rintro z v w ⟨i,x,rfl,rfl,hz,hi,hT⟩;by_cases h:i<s.aD.length
 ·have hb:s.aD[i]? =some s.aD[i]:=bR h;refine .inl ⟨s.aD.length-(i+1),_,_,by omega,ajj hs hb (ho _ (List.getElem_mem h)) x w,i+1,ue (eR d k).1 k t x s.aD[i],rfl,rfl,rfl,by omega,?_⟩;rw[List.drop_eq_getElem_cons h]at hT;exact hT
 ·have:i=s.aD.length:=by omega
  subst this;rw[List.drop_length]at hT;simp only[List.foldl_nil]at hT;subst hT;simp only[bW,cQ];rw[lR,bS,dw];exact .inr ⟨_,rfl,by simp,_,rfl⟩
theorem acy{s:List Sh}{ro:Sh}{r:AV→AV→AV→AV→Heap→aH}{x y z u v v':AV}{σ:Heap}(h:[x,y,z,u].any A.own=false)(e1:A.dr s [x,y,z,u]=[x,y,z,u])(e2:A.nn ro v=v')(e:r x y z u σ=some (v,σ)):A.wrap true s ro (A.zi r) [x,y,z,u] σ=some (v',σ):=by refine wrap_eq h ?_ e2;rw[e1];exact e
theorem ab6{d:bJ}{s:cE}{k:aG}{t:Int}(hs:s.aD.length≤bu)(ho:∀b∈s.aD,uZ b t)(σ:Heap):DM [.rp (uh d),.rp (uV s),.agg (aX k),.ah t] σ=some (.aL [.ah (oV d s.aD k t).out,.ah (oV d s.aD k t).owner],σ):=by refine acy rfl rfl (kF _) ?_;unfold Yv;rw[Cs,bS,sW,bS,nP,bS,Zt,bS,sx,bS,ab2,bS,Jj,bS,aed,bS,aqv,bS,sW,bS,nP,bS,Zv,bS,iS,bS];refine Du (Jo (aji (d:=d) hs ho ⟨(eR d k).2.1,0,-1,0⟩ σ) ?_);rintro q ⟨u,rfl⟩;simp only[oT,bW,cQ];exact⟨_,cg _ _,rfl⟩
end
section
set_option maxRecDepth 100000
open HP
def nN(l:List fk):Int:=match l.getLast? with
 |none=>0
 |some a=>a.time
theorem adt(d:bJ)(hl:d.bV.length≤bu)(σ:Heap):Ch [.rp (uh d)] σ=some (.ah (nN d.bV),σ):=by
 refine I8 rfl rfl (kF _) ?_;unfold YG nN;rw[sW,bS,nP,bS,Zu,bS,iS,bS,jU,bS];by_cases h:d.bV.length=0
 ·rw[ct (by omega),dO,Am h];exact cg _ _
 ·have hx:d.bV[d.bV.length-1]? =some (d.bV[d.bV.length-1]'(by omega)):=bR _
  rw[bZ (by omega),dw];simp only[sW,nP,bS,Zu,iS];rw[sO,cR (by unfold aU;unfold bu at hl;omega),bS,show((d.bV.length:Int) -1)=((d.bV.length-1:Nat):Int) by omega,kK hx,bS,nP,bS,List.getLast?_eq_getElem?,hx]
  exact(congrArg (Option.bind · λx=>A.fin σ x σ) (show((A.deref (.rp ((bX (d.bV[d.bV.length-1]'(by omega))).drop 0)) σ).bind λc=>A.ak 0 c)=some (.ah (d.bV[d.bV.length-1]'(by omega)).time)from rfl)).trans (cg _ _)
def wB(l:List fk)(t:Int):Int:=if bf t 0 36000000=true then(if decide (t<nN l)=true then 7 else 0)else 1
theorem abY(t:Int)(σ:Heap):KE [.ah t] σ=some (.bool (bf t 0 36000000),σ):=by refine I8 rfl rfl (kF _) ?_;unfold Y1;rw[mh,bS];exact cg _ _
theorem atu(a b:Int):(((((A.cell (.ah a)).bind λv=>some [v]).bind λc7=>(A.au 0 c7 [(AV.ah 0),(AV.ah 0)]).bind λc8=>((A.cell (.ah b)).bind λv=>some [v]).bind λc9=>(A.au 1 c9 c8).bind λfQ=>some fQ).bind λcs=>some (AV.sl 1 (gf 1 2 cs))))=some (sl 1 vq [a,b]):=rfl
theorem aqL(d:bJ)(hl:d.bV.length≤bu)(t:Int)(σ:Heap):Kx [.rp (uh d),.ah t] σ=some (.ah (wB d.bV t),σ):=by refine I9 (z:=.az) rfl rfl (kF _) ?_;unfold YH wB;rw[abY,bS];simp only;rw[AL,bS,yK,bS];simp only;rw[adt d hl,bS];simp only;rw[mU,bS,yK,bS];simp only;generalize bf t 0 36000000=w;generalize decide (t<nN d.bV)=e;rw[atu,bS,FT _ (by show 2≤bu;decide),bS];cases w<;>cases e<;>exact cg _ _
theorem aoX{d:bJ}{s:cE}{k:aG}{t:Int}(hs:s.aD.length≤bu)(ho:∀b∈s.aD,uZ b t)(hg:0≤s.l5∧s.l5≤65535)(hm:(eR d k).1=1→0≤(oV d s.aD k t).out∧(oV d s.aD k t).out≤65535)(σ:Heap):Fj [.rp (uh d),.rp (uV s),.agg (aX k),.ah t] σ=some (.ah (if ¬(eR d k).1=1 then(oV d s.aD k t).out else if s.black=true then 0 else tO (oV d s.aD k t).out s.l5),σ):=by
 refine acy rfl rfl (kF _) ?_;unfold YB;rw[Cs,bS,sx,bS,ab6 hs ho,bS];simp only;rw[mo,bS,ext1,bS,sW,bS,nP,bS,Zt,bS,bS,ab2,bS,Jj,bS,CE,bS,fW,bS];by_cases h1:(eR d k).1=1
 ·rw[bZ (λq=>q h1),dw,sW,bS,nP,bS,ai8,bS,aK (λq=>q h1)];cases s.black
  ·rw[dw,bS,nP,bS,ai7,bS,adg (hm h1) hg,bS];simp only;rw[mo,bS,ext1,bS];exact cg _ _
  ·rw[dO];exact cg _ _
 ·rw[ct h1,dO,aO h1];exact cg _ _
end
section
set_option maxRecDepth 100000
open HP
def LB(g:Int)(x:bE)(eD to c:Int):jd:=⟨eD,to,c,x.cD,if g=1 then(if to<eD then x.down else x.up)else x.other,x.gP⟩
def P5(x:bE)(k:aG)(f:jd):jd:=match x.eB.find? (λm=>decide (m.key=k))with
 |none=>f
 |some m=>if m.BN=true then{f with cD:=m.cD,time:=m.time}else f
def Jm(snap:Bool)(f:jd):jd:=if snap=true then{f with time:=0}else f
def Es(d:bJ)(x:bE)(k:aG)(eD to c:Int):jd:=wG (Jm (eR d k).2.2 (P5 x k (LB (eR d k).1 x eD to c)))
theorem am9(m:gX)(k:aG)(σ:Heap):Io [.agg (gZ m),.rp (aX k)] σ=some (.bool (decide (m.key=k)),σ):=by refine PV rfl ?_;unfold Yo;rw[show A.cells 8 (.agg (gZ m))=some (gZ m)from rfl,bS,show A.aC 0 2 (gZ m)=some (.agg (aX m.key))from rfl,bS,qx,bS,sx,bS,adB,bS];exact cg _ _
theorem aqQ{ro:Sh}{r:AV→AV→AV→AV→AV→AV→Heap→aH}{x y z u p q v v':AV}{σ σ':Heap}(e2:A.nn ro v=v')(e:r x y z u p q σ=some (v,σ')):A.wrap false [] ro (A.GU r) [x,y,z,u,p,q] σ=some (v',σ'):=by have:A.GU r [x,y,z,u,p,q] σ=some (v,σ'):=e;simp only[A.wrap,Bool.false_and,bG,A.dr,this,cC,e2]
theorem ant(eD to c:Int)(x:bE):((((A.cell (.ah eD)).bind λv=>some [v]).bind λc6=>(A.au 0 c6 [(AV.ah 0),(AV.ah 0),(AV.ah 0),(AV.ah 0),(AV.ah 0),(AV.ah 0),AV.az]).bind λc7=>((A.cell (.ah to)).bind λv=>some [v]).bind λc8=>(A.au 1 c8 c7).bind λc9=>((A.cell (.ah c)).bind λv=>some [v]).bind λfQ=>(A.au 2 fQ c9).bind λiJ=>((A.cell (.ah x.cD)).bind λv=>some [v]).bind λfE=>(A.au 3 fE iJ).bind λlI=>((A.cell (.ah x.other)).bind λv=>some [v]).bind λkP=>(A.au 4 kP lI).bind λmW=>(A.cells 2 (.agg (nZ x.gP))).bind λnF=>(A.au 5 nF mW).bind λou=>some ou).bind λcs=>some (AV.agg cs))=some (.agg (gY ⟨eD,to,c,x.cD,x.other,x.gP⟩)):=rfl
theorem adC(g:jd)(σ:Heap):(((A.lb (.lbx (gY g))).bind λkR=>A.aC 0 7 kR).bind λjM=>(yD [jM] σ).bind λBg=>(A.lb (.lbx CH)).bind λqW=>(A.cells 7 Bg.1).bind λvI=>(A.au 0 vI qW).bind λDs=>(A.aC 0 7 Ds).bind λx90=>A.fin σ x90 Bg.2)=some (.agg (gY (wG g)),σ):=by rw[jI,bS,I5,bS,Vr,bS];simp only;rw[jI,bS,FV,bS,Pt _ _ rfl,bS,I5,bS];exact cg _ _
theorem aaJ(d:bJ)(k:aG)(f1:jd)(σ:Heap):((A.ak 5 (lX d k)).bind λkW=>(A.cond kW (some ([(AV.lbx CH),(AV.lbx (gY {f1 with time:=0}))],σ)) (some ([(AV.lbx CH),(AV.lbx (gY f1))],σ))).bind λmB=>((A.lb (aj mB.1 1)).bind λkR=>A.aC 0 7 kR).bind λjM=>(yD [jM] mB.2).bind λBg=>(A.lb (aj mB.1 0)).bind λqW=>(A.cells 7 Bg.1).bind λvI=>(A.au 0 vI qW).bind λDs=>(A.aC 0 7 Ds).bind λx90=>A.fin σ x90 Bg.2)=some (.agg (gY (wG (Jm (eR d k).2.2 f1))),σ):=by
 rw[aqw,bS];unfold Jm;cases(eR d k).2.2
 ·rw[dw,bS];simp only[bW,cQ];exact adC f1 σ
 ·rw[dO,bS];simp only[bW,cQ];exact adC {f1 with time:=0} σ
theorem abN(d:bJ)(k:aG)(f1:jd)(σ:Heap):((A.ak 5 (lX d k)).bind λkW=>(A.cond kW (((A.cell (AV.ah 0)).bind λv=>some [v]).bind λpW=>(A.au 4 pW (gY f1)).bind λnH=>some ([(AV.lbx CH),(AV.lbx nH)],σ)) (some ([(AV.lbx CH),(AV.lbx (gY f1))],σ))).bind λmB=>((A.lb (aj mB.1 1)).bind λkR=>A.aC 0 7 kR).bind λjM=>(yD [jM] mB.2).bind λBg=>(A.lb (aj mB.1 0)).bind λqW=>(A.cells 7 Bg.1).bind λvI=>(A.au 0 vI qW).bind λDs=>(A.aC 0 7 Ds).bind λx90=>A.fin σ x90 Bg.2)=some (.agg (gY (wG (Jm (eR d k).2.2 f1))),σ):=by rw[sE,bS,LO,bS];exact aaJ d k f1 σ
theorem aqe{p q pm:AV}(d:bJ)(x:bE)(hm:x.eB.length≤bu)(k:aG)(eD to c:Int)(σ:Heap)(h1:A.aW p=some p)(h2:A.aF 10 p=some q)(h3:((A.deref q σ).bind λc=>A.ak 0 c)=some pm) (h4:A.look (.s [0,2]) pm (.agg (aX k)) (.agg Gh) σ=some (.agg (lX d k))):DP [p,.agg (bA x),.agg (aX k),.ah eD,.ah to,.ah c] σ=some (.agg (gY (Es d x k eD to c)),σ):=by
 refine aqQ (v:=.agg (gY (Es d x k eD to c))) rfl ?_;unfold Sg Es;rw[PC,bS,Cs,bS,bS,T9,bS,aba,bS,SI,bS,ant,bS,FV,bS,Pt _ _ rfl,bS,h1,bS,h2,bS,h3,bS,qx,bS,sx,bS,h4,bS,Jj,bS,aed,bS,CE,bS,jU,bS];have XG:∀w,Kn (A.tab (λ_ _=>none) [(349,Io)]) [sl 8 gZ x.eB,.fn 349 [.rp (aX k)]] w=some (.ah (lH (λm:gX=>decide (m.key=k)) x.eB),w):=λw=>afP _ x.eB hm _ _ _ w λm _=>am9 m k w
 have A1:∀(f0:jd),(A.cond (.bool (decide ((eR d k).1=1))) ((A.ak 3 (bA x)).bind λgu=>((A.cell gu).bind λv=>some [v]).bind λvF=>(A.au 4 vF (gY f0)).bind λjF=>(A.lss (.ah to) (.ah eD)).bind λiK=>(A.cond iK ((A.ak 4 (bA x)).bind λx38=>((A.cell x38).bind λv=>some [v]).bind λoQ=>(A.au 4 oQ jF).bind λB5=>some ([(AV.lbx (bA x)),(AV.lbx CH),(AV.lbx B5),(AV.lbx (lX d k))],σ)) (some ([(AV.lbx (bA x)),(AV.lbx CH),(AV.lbx jF),(AV.lbx (lX d k))],σ))).bind λoW=>some ([(aj oW.1 0),(aj oW.1 1),(aj oW.1 2),(aj oW.1 3)],oW.2)) (some ([(AV.lbx (bA x)),(AV.lbx CH),(AV.lbx (gY f0)),(AV.lbx (lX d k))],σ)))=some ([(AV.lbx (bA x)),(AV.lbx CH),(AV.lbx (gY {f0 with time:=if(eR d k).1=1 then(if to<eD then x.down else x.up)else f0.time})),(AV.lbx (lX d k))],σ):=by
  intro f0;by_cases h1:(eR d k).1=1
  ·simp only[ct h1,cT,aa9,bS,sE,LO,mU,aO h1];by_cases h2:to<eD
   ·simp only[ct h2,cT,Ua,bS,sE,LO,aO h2,bW,cQ]
   ·simp only[bZ h2,cF,bS,aK h2,bW,cQ]
  ·simp only[bZ h1,cF,aK h1]
 rw[A1,bS];simp only[bW,cQ,jI,bS,Z8,XG,vi];unfold P5;change _=some (AV.agg (gY (wG (Jm (eR d k).2.2 (match x.eB.find? (λm=>decide (m.key=k))with|none=>_|some m=>_)))),σ);rcases Bs (λm:gX=>decide (m.key=k)) x.eB with⟨e1,_,e2⟩|⟨j,m,e1,e2,e3,e4,_⟩
 ·rw[e1,e2];simp only[show decide ((0:Int)≤-1)=false from bZ (by decide),wO,gU,bS,mZ,cF,bW,cQ,jI];exact abN d k _ σ
 ·rw[e3,e4];simp only[ct (show(0:Int)≤(j:Int) by omega),gT,bS,kK e1,nP,mM,show((A.deref (.rp ((gZ m).drop 5)) σ).bind λc=>A.ak 0 c)=some (.bool m.BN)from rfl];cases m.BN
  ·simp only[cF,bS,bW,cQ,jI];exact abN d k _ σ
  ·simp only[cT,bS,show((A.deref (.rp ((gZ m).drop 6)) σ).bind λc=>A.ak 0 c)=some (.ah m.cD)from rfl,show((A.deref (.rp ((gZ m).drop 7)) σ).bind λc=>A.ak 0 c)=some (.ah m.time)from rfl,sE,aeL,LO,bW,cQ,jI];exact aaJ d k ⟨eD,to,c,m.cD,m.time,x.gP⟩ σ
end
section
set_option maxRecDepth 100000
open HP
def eP(p:aG×dB):AV×AV:=(.agg (aX p.1),.agg (gO p.2))
theorem ZI{α β:Type}(f:α→β):∀(l:List α){L:List β},L.Perm (l.map f)→∃l':List α,l'.Perm l∧l'.map f=L
 |[],L,h=>⟨[],.refl _,by have:=List.Perm.eq_nil h;rw[this];rfl⟩
 |x::l,L,h=>by have hx:f x∈L:=h.mem_iff.2 (by simp);obtain⟨s,t,rfl⟩:=List.append_of_mem hx;have h2:(s++t).Perm (l.map f):=(List.perm_cons (f x)).1 (List.perm_middle.symm.trans h);obtain⟨l',k1,k2⟩:=ZI f l h2;obtain⟨a,b,rfl,e1,e2⟩:=List.map_eq_append_iff.1 k2;exact⟨a++x::b,List.perm_middle.trans (k1.cons x),by simp [e1,e2]⟩
theorem UG(l:List (aG×dB)):∃l':List (aG×dB),l'.Perm l∧l'.map eP=A.BP (l.map eP):=ZI eP l (TV (l.map eP))
noncomputable def EB (l:List (aG×dB)):List (aG×dB):=Classical.choose (UG l)
theorem TU(l:List (aG×dB)):(EB l).Perm l:=(Classical.choose_spec (UG l)).1
theorem abE(l:List (aG×dB)):(EB l).map eP=A.BP (l.map eP):=(Classical.choose_spec (UG l)).2
theorem amR(l:List (aG×dB)):A.BP ((EB l).map eP)=(EB l).map eP:=by rw[abE];exact aaD (TV _)
theorem amO{a b:aG}(h:AV.agg (aX a)=AV.agg (aX b)):a=b:=by
 injection h with h
 simp only[aX,List.cons.injEq,AV.int.injEq,AV.str.injEq,and_true,true_and]at h;obtain⟨u,p⟩:=a;obtain⟨u',p'⟩:=b;simp only at h;rw[h.1,h.2]
theorem aq4{l:List (aG×dB)}(h:(l.map (·.1)).Nodup):Ju (l.map eP):=by
 refine⟨λp hp=>?_,?_⟩
 ·obtain⟨q,_,rfl⟩:=ia.1 hp;exact⟨q.1.unit,q.1.param,rfl⟩
 ·rw[List.map_map];have e:((·.1)∘eP)=(λk:aG=>AV.agg (aX k))∘(λp:aG×dB=>p.1):=rfl;rw[e,←List.map_map];exact List.pairwise_map.2 (List.Pairwise.imp (λq e=>q (amO e)) h)
def Gj(o:Option (List (aG×dB))):Prop:=∀l,o=some l→(l.map (·.1)).Nodup∧A.BP (l.map eP)=l.map eP
theorem adx{l:List (aG×dB)}(h:(l.map (·.1)).Nodup):A.can (.fm (l.map eP))=.fm (A.BP (l.map eP)):=by unfold A.can;exact aO (aq4 h)
theorem aot{o:Option (List (aG×dB))}(h:Gj o):A.can (qy (λx=>AV.agg (aX x)) (λx=>AV.agg (gO x)) o)=qy (λx=>AV.agg (aX x)) (λx=>AV.agg (gO x)) o:=by
 cases o with
 |none=>rfl
 |some l=>obtain⟨h1,h2⟩:=h l rfl;show A.can (.fm (l.map eP))=.fm (l.map eP);rw[adx h1,h2]
theorem alw{b:bC}(h:Gj b.runs):(aV b).map A.can=aV b:=by unfold aV;simp only[eY,List.map_nil,aot h];rfl
def EO(d:bJ)(e:bD):Int:=(zY d.setup.cA e.key e.value).1
noncomputable def JF (d:bJ) (s:cE) (b:bC) (k:aG) (t c:Int):Int:=if(fc b k c).2=true then yx (fc b k c).1 c else if ¬(eR d k).1=1 then(oV d s.aD k t).out else 0
noncomputable def BL (d:bJ) (s:cE) (b:bC) (x:bE) (t c:Int) (e:bD):dB:=
 if(fc b e.key c).2=true∧(fc b e.key c).1.ending=false∧(fc b e.key c).1.l6.to=EO d e then(fc b e.key c).1
 else⟨Es d x e.key (JF d s b e.key t c) (EO d e) c,s.aA,false⟩
noncomputable def wk (d:bJ) (s:cE) (b:bC) (x:bE) (c:Int) (seen:List bD) (k:aG):Option dB:=
 if(fc b k c).2=false∨(nM seen k).isSome=true∨¬(eR d k).1=1 then none
 else some (if(fc b k c).1.ending=true then(fc b k c).1 else⟨wG ⟨yx (fc b k c).1 c,0,c,x.cD,x.down,x.gP⟩,s.aA,true⟩)
def Ai(b:bC)(x:bE):List bD:=(BA b.bU x.aA).1
noncomputable def F6 (d:bJ) (s:cE) (b:bC) (x:bE) (t:Int):List (aG×dB):=(Ai b x).map (λe=>(e.key,BL d s b x t (eO b.aM t) e))++(b.runs.getD []).filterMap (λp=>(wk d s b x (eO b.aM t) (Ai b x) p.1).map (λr=>(p.1,r)))
noncomputable def mX (d:bJ) (s:cE) (b:bC) (x:bE) (to t:Int):bC:=
 {b with aM:=⟨eO b.aM t,t,false⟩,cZ:=to,runs:=some (EB (F6 d s b x t)),eF:=if 0≤x.eF∧to+1<(b.bU.length:Int)then IntKind.i64.wrap (eO b.aM t+x.eF)else -1}
abbrev Vk:Sh:=.p GQ
abbrev U0:Sh:=.p [(.s 10),.k,.k,.k]
structure vE (p : AV) (d : bJ) (σ : Heap) : Prop where
 nc:A.aW p=some p
 f2:∃q1 q2,A.aF 4 p=some q1∧A.aF 2 q1=some q2∧∀ex,((A.deref q2 (σ++ex)).bind λc=>A.ak 0 c)=some (sl 3 fq d.setup.cA)
 f10:∃q pm,A.aF 10 p=some q∧∀ex,((A.deref q (σ++ex)).bind λc=>A.ak 0 c)=some pm∧∀k,A.look (.s [0,2]) pm (.agg (aX k)) (.agg Gh) (σ++ex)=some (.agg (lX d k))
 lt:∀ex,Lt (σ++ex) Vk p (.rp (uh d))
theorem alM(l:List bC)(σ:Heap)(n d:Nat):A.kZ σ n d (l.map aV)=some (l.map aV):=V5 FK l σ n d
abbrev bI(v:AV)(s:cE):aq:=[v,.ah s.aA,.ah s.l5,.bool s.black]
theorem anB{W:Heap}{ids bl g:Nat}{s:cE}(h1:W[ids]? =some (.box (bI (.os bl g 10 0 s.aD.length) s)))(h2:W[bl]? =some (.arr g 10 (s.aD.map aV))):Lt W U0 (.op ids 0) (.rp (uV s)):=by refine⟨⟨.rp (uV s),?_,rfl,rfl⟩,rfl,λh=>by cases h⟩;have q:=P7 (c:=aV) (sz:=10) (l:=s.aD) FK h2 (n:=0) (by omega) 6;simp only[A.bM,Nat.not_lt_zero,if_false,h1,List.drop_zero,bI,A.xz,q,aY,cC];rfl
theorem anE{W:Heap}{pd ps:AV}{d:bJ}{s:cE}{k:aG}{t:Int}(hd:Lt W Vk pd (.rp (uh d)))(hs':Lt W U0 ps (.rp (uV s)))(hs:s.aD.length≤bu)(ho:∀b∈s.aD,uZ b t):DM [pd,ps,.agg (aX k),.ah t] W=some (.aL [.ah (oV d s.aD k t).out,.ah (oV d s.aD k t).owner],W):=
 EN (dX:=[pd,ps,.agg (aX k),.ah t]) (ts:=[.rp (uh d),.rp (uV s),.agg (aX k),.ah t]) ⟨hd,hs',Qo (Ab (Cu k)) rfl,Ve t,trivial⟩ (λσ=>ab6 (d:=d) hs ho σ) rfl
def EC(p:aG×Bool):AV×AV:=(.agg (aX p.1),.bool p.2)
abbrev rW(σ:Heap)(m1:List (aG×dB))(m2:List (aG×Bool)):Heap:=σ++[.map (m1.map eP),.map (m2.map EC)]
theorem ard(σ:Heap)(m1:List (aG×dB))(m2:List (aG×Bool)):(rW σ m1 m2)[σ.length]? =some (.map (m1.map eP)):=by rw[jj (aQ _),Nat.sub_self];rfl
theorem are(σ:Heap)(m1:List (aG×dB))(m2:List (aG×Bool)):(rW σ m1 m2)[σ.length+1]? =some (.map (m2.map EC)):=by rw[jj (by omega),show σ.length+1-σ.length=1 by omega];rfl
theorem adK(σ:Heap)(m1:List (aG×dB))(m2:List (aG×Bool))(k:aG)(r:dB):A.fS (.s [0,2]) (.om σ.length) (.agg (aX k)) (.agg (gO r)) (rW σ m1 m2)=some (rW σ (eH k r m1) m2):=by rw[Cv _ rfl (ard σ m1 m2),show A.upd (.s [0,2]) (.agg (aX k)) (.agg (gO r)) (m1.map eP)=some ((eH k r m1).map eP)from Gg (eK:=λk=>AV.agg (aX k)) (eV:=λr=>AV.agg (gO r)) tZ k r m1,cC,rR _ _ (aQ _),Nat.sub_self];rfl
theorem aqj(σ:Heap)(m1:List (aG×dB))(m2:List (aG×Bool))(k:aG)(r:Bool):A.fS (.s [0,2]) (.om (σ.length+1)) (.agg (aX k)) (.bool r) (rW σ m1 m2)=some (rW σ m1 (eH k r m2)):=by rw[Cv _ rfl (are σ m1 m2),show A.upd (.s [0,2]) (.agg (aX k)) (.bool r) (m2.map EC)=some ((eH k r m2).map EC)from Gg (eK:=λk=>AV.agg (aX k)) (eV:=λr=>AV.bool r) tZ k r m2,cC,rR _ _ (by omega),show σ.length+1-σ.length=1 by omega];rfl
structure JV (p : AV) (b : bC) (σ : Heap) : Prop where
 nc:A.aW p=some p
 f:∀o,∃q,A.aF o p=some q∧∀ex,A.deref q (σ++ex)=some ((aV b).drop o)
theorem bRd{σ:Heap}{bl g ib:Nat}{l:List bC}{b:bC}(h:σ[bl]? =some (.arr g 10 (l.map aV)))(hb:l[ib]? =some b):JV (.oe bl g ib 0) b σ:=by refine⟨rfl,λo=>⟨.oe bl g ib o,by simp [A.aF],λex=>?_⟩⟩;have hl:=(bQ.1 h).1;simp only[A.deref,jk hl,h,if_true,qH,hb,cC]
theorem Um{σ:Heap}{p:AV}{b:bC}(h:JV p b σ)(k:aG)(c:Int)(ex:Heap):tV [p,.agg (aX k),.ah c] (σ++ex)=some (.aL [.agg (gO (fc b k c).1),.bool (fc b k c).2],σ++ex):=by obtain⟨q,h2,h3⟩:=h.f 9;refine abI b k c (σ++ex) h.nc h2 ?_;rw[h3 ex];exact Ov b (σ:=[])
theorem aqd{σ:Heap}{p:AV}{d:bJ}(h:vE p d σ)(x:bE)(hm:x.eB.length≤bu)(k:aG)(eD to c:Int)(ex:Heap):DP [p,.agg (bA x),.agg (aX k),.ah eD,.ah to,.ah c] (σ++ex)=some (.agg (gY (Es d x k eD to c)),σ++ex):=by obtain⟨q,pm,h2,h3⟩:=h.f10;exact aqe d x hm k eD to c (σ++ex) h.nc h2 (h3 ex).1 ((h3 ex).2 k)
theorem US(f:jd)(n:Int)(b:Bool):(((A.cells 7 (.agg (gY f))).bind λvK=>(A.au 0 vK [(AV.ah 0),(AV.ah 0),(AV.ah 0),(AV.ah 0),(AV.ah 0),(AV.ah 0),AV.az,(AV.ah 0),aR]).bind λtF=>((A.cell (.ah n)).bind λv=>some [v]).bind λvL=>(A.au 7 vL tF).bind λqI=>((A.cell (AV.bool b)).bind λv=>some [v]).bind λsP=>(A.au 8 sP qI).bind λCS=>some CS).bind λcs=>some (AV.agg cs))=some (.agg (gO ⟨f,n,b⟩)):=rfl
theorem go_step1{d:bJ}{s:cE}{σ:Heap}{pd bp:AV}{ids bl g:Nat}{b:bC}{x:bE}{t:Int}(hd:vE pd d σ)(h1:σ[ids]? =some (.box (bI (.os bl g 10 0 s.aD.length) s)))(h2:σ[bl]? =some (.arr g 10 (s.aD.map aV)))(hb:b∈s.aD)(yj:JV bp b σ)(hs:s.aD.length≤bu)(ho:∀b∈s.aD,uZ b t)(hp:gE Co d.setup.cA)(hx:x.eB.length≤bu){seen:List bD}(DA:seen.length≤bu){i:Nat}{e:bD}(he:seen[i]? =some e)(m1:List (aG×dB))(m2:List (aG×Bool)):((λlE Bk=>
   (A.lss (aj lE 1) (AV.ah (seen.length:Int))).bind λx32=>
   A.cond x32 (
    (A.bh 5 (sl 5 dR seen) (aj lE 1)).bind λgu=>
    ((A.deref gu Bk).bind λvF=>A.aC 0 5 vF).bind λiY=>
    (A.cells 5 iY).bind λjG=>
    (A.au 0 jG [(AV.ah 0),bB,(AV.ah 0),(AV.ah 0),(AV.ah 0)]).bind λij=>
    (A.aC 0 2 ij).bind λx38=>
    (A.fS (.s [0,2]) (AV.om (σ.length+1)) x38 dD Bk).bind λuE=>
    (A.aW pd).bind λeA=>
    (A.aF 4 eA).bind λfF=>
    (A.aF 2 fF).bind λi6=>
    ((A.deref i6 uE).bind λtu=>A.ak 0 tu).bind λgA=>
    (A.aC 0 2 ij).bind λfO=>
    (A.aC 2 2 ij).bind λiz=>
    (A.quiet (Fv [gA,fO,iz] uE) uE).bind λko=>
    (A.ext 0 ko).bind λjo=>
    (A.ext 1 ko).bind λgB=>
    (A.aC 0 2 ij).bind λoF=>
    (tV [bp,oF,(AV.ah (eO b.aM t))] uE).bind λng=>
    (A.ext 0 ng.1).bind λfP=>
    (A.ext 1 ng.1).bind λjX=>
    (A.cells 9 fP).bind λzm=>
    (A.au 0 zm [(AV.ah 0),(AV.ah 0),(AV.ah 0),(AV.ah 0),(AV.ah 0),(AV.ah 0),AV.az,(AV.ah 0),aR]).bind λjV=>
    (A.guard jX true (A.ak 8 jV) ay).bind λgV=>
    (A.guard jX true (A.not gV) ay).bind λlY=>
    (A.pick jX lY aR).bind λi7=>
    (A.guard i7 true (A.ak 1 jV) ay).bind λgb=>
    (A.guard i7 true (some jo) ay).bind λji=>
    (A.guard i7 true (A.eql .i gb ji) ay).bind λkJ=>
    (A.pick i7 kJ aR).bind λfL=>
    A.cond fL (
     (A.aC 0 2 ij).bind λgL=>
     (A.aC 0 9 jV).bind λnJ=>
     (A.fS (.s [0,2]) (AV.om σ.length) gL nJ ng.2).bind λMR=>
     (A.add (aj lE 1) (AV.ah 1)).bind λjc=>
     some (AX.normal,[(aj lE 0),jc],MR)) (
     (A.cond jX (
      (A.aC 0 9 jV).bind λjK=>
      (yA [jK,(AV.ah (eO b.aM t))] ng.2).bind λE8=>
      some ([(aj lE 0),(AV.lbx ij),E8.1],E8.2)) (
      (A.aW pd).bind λgM=>
      (A.aF 10 gM).bind λp5=>
      ((A.deref p5 ng.2).bind λlV=>A.ak 0 lV).bind λjL=>
      (A.aC 0 2 ij).bind λjq=>
      (A.look (.s [0,2]) jL jq (AV.agg [bB,(AV.ah 0),(AV.ah 0),(AV.ah 0),(AV.ah 0),aR,AV.az]) ng.2).bind λfG=>
      ((A.cells 7 fG).bind λG9=>A.ak 1 G9).bind λBl=>
      (A.neq .i Bl (AV.ah 1)).bind λkW=>
      (A.cond kW (
       (A.aC 0 2 ij).bind λiA=>
       (DM [pd,(AV.op ids 0),iA,(AV.ah t)] ng.2).bind λuK=>
       (A.ext 0 uK.1).bind λp6=>
       (A.ext 1 uK.1).bind λsj=>
       some ([(aj lE 0),(AV.lbx ij),p6],uK.2)) (
       some ([(aj lE 0),(AV.lbx ij),(AV.ah 0)],ng.2))).bind λmB=>
      some ([(aj mB.1 0),(aj mB.1 1),(aj mB.1 2)],mB.2))).bind λgG=>
     ((A.lb (aj gG.1 1)).bind λ_=>some (0)).bind λHI=>
     ((A.lb (aj gG.1 1)).bind λDr=>A.aC HI 2 Dr).bind λkX=>
     ((A.lb (aj gG.1 0)).bind λvI=>A.aC 0 11 vI).bind λjN=>
     ((A.lb (aj gG.1 1)).bind λ_=>some (0)).bind λHU=>
     ((A.lb (aj gG.1 1)).bind λqX=>A.aC HU 2 qX).bind λx91=>
     (A.quiet (DP [pd,jN,x91,(aj gG.1 2),jo,(AV.ah (eO b.aM t))] gG.2) gG.2).bind λru=>
     (A.aW (AV.op ids 0)).bind λx93=>
     (A.aF 1 x93).bind λuO=>
     ((A.deref uO gG.2).bind λlK=>A.ak 0 lK).bind λx96=>
     (((A.cells 7 ru).bind λvK=>(A.au 0 vK [(AV.ah 0),(AV.ah 0),(AV.ah 0),(AV.ah 0),(AV.ah 0),(AV.ah 0),AV.az,(AV.ah 0),aR]).bind λtF=>((A.cell x96).bind λv=>some [v]).bind λvL=>(A.au 7 vL tF).bind λqI=>((A.cell aR).bind λv=>some [v]).bind λsP=>(A.au 8 sP qI).bind λCS=>some CS).bind λcs=>some (AV.agg cs)).bind λzh=>
     (A.fS (.s [0,2]) (AV.om σ.length) kX zh gG.2).bind λGz=>
     (A.add (aj lE 1) (AV.ah 1)).bind λxS=>
     some (AX.normal,[(aj gG.1 0),xS],Gz))) (
    some (AX.exit 0,[(aj lE 0),(aj lE 1)],Bk)))) [.lbx (bA x),.ah (i:Int)] (rW σ m1 m2)=some (.normal,[.lbx (bA x),.ah ((i+1:Nat):Int)],rW σ (eH e.key (BL d s b x t (eO b.aM t) e) m1) (eH e.key true m2)):=by
 obtain⟨c,hc⟩:∃c,c=eO b.aM t:=⟨_,rfl⟩
 have EY:=ho b hb;have C7:=EY.tG;have E3:(fc b e.key c).2=true→uU (fc b e.key c).1.l6:=λq=>by rw[hc]at q ⊢;exact CA EY q
 rw[←hc]at C7;rw[←hc];obtain⟨q1,q2,f1,f2,f3⟩:=hd.f2;obtain⟨Kj,pm,g1,g2⟩:=hd.f10;have h1':∀ex,(σ++ex)[ids]? =some (.box (bI (.os bl g 10 0 s.aD.length) s)):=λex=>by rw[jk (bQ.1 h1).1];exact h1
 have h2':∀ex,(σ++ex)[bl]? =some (.arr g 10 (s.aD.map aV)):=λex=>by rw[jk (bQ.1 h2).1];exact h2
 simp only[bW,cQ];rw[lF he,bS,dO,kK he,bS,qx];simp only[bS,show A.aC 0 5 (dR e)=some (.agg (dR e))from rfl,show A.cells 5 (.agg (dR e))=some (dR e)from rfl,show A.au 0 (dR e) [(AV.ah 0),bB,(AV.ah 0),(AV.ah 0),(AV.ah 0)]=some (dR e)from rfl,show A.aC 0 2 (dR e)=some (.agg (aX e.key))from rfl,show A.aC 2 2 (dR e)=some (.agg (yN e.value))from rfl];rw[aqj,bS];simp only[hd.nc,bS,f1,f2,f3,fM (Zf (acB d.setup.cA hp e.key e.value)),mo,ext1];rw[Um yj,bS];simp only[mo,ext1,bS,By,D6 _ _ (show qo.length=9 from rfl)]
 have tail:∀(W:Heap)(eD:Int)(hW:W=rW σ m1 (eH e.key true m2)),((A.lb (AV.lbx (dR e))).bind λ_=>some 0).bind (λHI=>((A.lb (AV.lbx (dR e))).bind λDr=>A.aC HI 2 Dr).bind λkX=>((A.lb (.lbx (bA x))).bind λvI=>A.aC 0 11 vI).bind λjN=>((A.lb (AV.lbx (dR e))).bind λ_=>some (0)).bind λHU=>((A.lb (AV.lbx (dR e))).bind λqX=>A.aC HU 2 qX).bind λx91=>(A.quiet (DP [pd,jN,x91,.ah eD,.ah (EO d e),.ah c] W) W).bind λru=>(A.aW (AV.op ids 0)).bind λx93=>(A.aF 1 x93).bind λuO=>((A.deref uO W).bind λlK=>A.ak 0 lK).bind λx96=>
   (((A.cells 7 ru).bind λvK=>(A.au 0 vK [(AV.ah 0),(AV.ah 0),(AV.ah 0),(AV.ah 0),(AV.ah 0),(AV.ah 0),AV.az,(AV.ah 0),aR]).bind λtF=>((A.cell x96).bind λv=>some [v]).bind λvL=>(A.au 7 vL tF).bind λqI=>((A.cell aR).bind λv=>some [v]).bind λsP=>(A.au 8 sP qI).bind λCS=>some CS).bind λcs=>some (AV.agg cs)).bind λzh=>(A.fS (.s [0,2]) (AV.om σ.length) kX zh W).bind λGz=>(A.add (AV.ah (i:Int)) (AV.ah 1)).bind λxS=>some (AX.normal,[(.lbx (bA x)),xS],Gz))=some (.normal,[.lbx (bA x),.ah ((i+1:Nat):Int)],rW σ (eH e.key ⟨Es d x e.key eD (EO d e) c,s.aA,false⟩ m1) (eH e.key true m2)):=by
  intro W eD hW;subst hW;simp only[jI,bS,show A.aC 0 2 (dR e)=some (.agg (aX e.key))from rfl,show A.aC 0 11 (bA x)=some (.agg (bA x))from rfl,fM (aqd hd x hx e.key eD (EO d e) c _)];rw[show A.aW (.op ids 0)=some (.op ids 0)from rfl,bS,show A.aF 1 (.op ids 0)=some (.op ids 1)from rfl,bS,show((A.deref (.op ids 1) (rW σ m1 (eH e.key true m2))).bind λlK=>A.ak 0 lK)=some (.ah s.aA)from by simp only[A.deref,h1'];rfl,bS,US,bS,adK,bS,iF he DA,bS]
 unfold BL;by_cases oA:(fc b e.key c).2=true
 ·have hfo:=E3 oA;rw[oA];cases MX:(fc b e.key c).1.ending
  case false=>
   simp only[gT,bS,OL,MX,AL,Bool.not_false,mM,akA,jU];by_cases hto:(fc b e.key c).1.l6.to=EO d e
   ·rw[show(zY d.setup.cA e.key e.value).1=EO d e from rfl,ct hto,dO,aO ⟨trivial,trivial,hto⟩];simp only[yI,bS];rw[adK,bS,iF he DA,bS]
   ·rw[show(zY d.setup.cA e.key e.value).1=EO d e from rfl,bZ hto,dw,aK (λq=>hto q.2.2),dO];simp only[yI,bS,Ls hfo C7,bW,cQ];have:=tail _ (yx (fc b e.key c).1 c) rfl;unfold JF;rw[aO oA];exact this
  case true=>
   simp only[gT,wO,bS,OL,MX,AL,Bool.not_true,mM,mZ];rw[dw,aK (λq=>by cases q.2.1),dO];simp only[yI,bS,Ls hfo C7,bW,cQ];have:=tail _ (yx (fc b e.key c).1 c) rfl;unfold JF;rw[aO oA];exact this
 ·have GB:(fc b e.key c).2=false:=by simpa using oA
  rw[GB];simp only[wO,gU,bS,mZ];rw[dw,aK (λq=>by cases q.1),dw];simp only[hd.nc,bS,g1,g2,show A.aC 0 2 (dR e)=some (.agg (aX e.key))from rfl,Jj,CE,fW];by_cases hg:(eR d e.key).1=1
  ·rw[bZ (λq=>q hg),dw];simp only[bS,bW,cQ];have:=tail _ 0 rfl;unfold JF;rw[aK oA,aK (λq=>q hg)];exact this
  ·rw[ct hg,dO];simp only[bS,anE (hd.lt _) (anB (h1' _) (h2' _)) hs ho,mo,ext1,bW,cQ];have:=tail _ (oV d s.aD e.key t).out rfl;unfold JF;rw[aK oA,aO hg];exact this
end
section
set_option maxRecDepth 100000
open HP
theorem LJ{κ ν:Type}[DecidableEq κ]{k:κ}{v:ν}:∀{l:List (κ×ν)},(∀p∈l,p.1≠k)→eH k v l=l++[(k,v)]
 |[],_=>rfl
 |(k',v')::r,h=>by rw[eH,aK (λe=>h (k',v') (by simp) e.symm),LJ λp hp=>h p (by simp [hp])];rfl
theorem LQ{κ ν:Type}[DecidableEq κ]{k:κ}{v:ν}:∀{l:List (κ×ν)},dh k l=some v→(k,v)∈l
 |[],h=>by cases h
 |(k',v')::r,h=>by
  rw[dh]at h;by_cases e:k=k'
  ·rw[aO e]at h;injection h with h;subst h;subst e;simp
  ·rw[aK e]at h;exact sM _ (LQ h)
theorem amE{seen:List bD}(h:pO seen){i:Nat}{e:bD}(he:seen[i]? =some e):∀a∈seen.take i,a.key≠e.key:=by
 have hp:(seen.take (i+1)).Pairwise λa b=>gQ a.key b.key=true:=List.Pairwise.sublist (List.take_sublist _ _) h
 rw[List.take_add_one,he]at hp;intro a ha q;have:=(List.pairwise_append.1 hp).2.2 a ha e (by simp);rw[q,Ed]at this;cases this
theorem go_loop1{d:bJ}{s:cE}{σ:Heap}{pd bp:AV}{ids bl g:Nat}{b:bC}{x:bE}{t:Int}(hd:vE pd d σ)(h1:σ[ids]? =some (.box (bI (.os bl g 10 0 s.aD.length) s)))(h2:σ[bl]? =some (.arr g 10 (s.aD.map aV)))(hb:b∈s.aD)(yj:JV bp b σ)(hs:s.aD.length≤bu)(ho:∀b∈s.aD,uZ b t)(hp:gE Co d.setup.cA)(hx:x.eB.length≤bu){seen:List bD}(DA:seen.length≤bu)(yq:pO seen):A.loop ((λlE Bk=>
   (A.lss (aj lE 1) (AV.ah (seen.length:Int))).bind λx32=>
   A.cond x32 (
    (A.bh 5 (sl 5 dR seen) (aj lE 1)).bind λgu=>
    ((A.deref gu Bk).bind λvF=>A.aC 0 5 vF).bind λiY=>
    (A.cells 5 iY).bind λjG=>
    (A.au 0 jG [(AV.ah 0),bB,(AV.ah 0),(AV.ah 0),(AV.ah 0)]).bind λij=>
    (A.aC 0 2 ij).bind λx38=>
    (A.fS (.s [0,2]) (AV.om (σ.length+1)) x38 dD Bk).bind λuE=>
    (A.aW pd).bind λeA=>
    (A.aF 4 eA).bind λfF=>
    (A.aF 2 fF).bind λi6=>
    ((A.deref i6 uE).bind λtu=>A.ak 0 tu).bind λgA=>
    (A.aC 0 2 ij).bind λfO=>
    (A.aC 2 2 ij).bind λiz=>
    (A.quiet (Fv [gA,fO,iz] uE) uE).bind λko=>
    (A.ext 0 ko).bind λjo=>
    (A.ext 1 ko).bind λgB=>
    (A.aC 0 2 ij).bind λoF=>
    (tV [bp,oF,(AV.ah (eO b.aM t))] uE).bind λng=>
    (A.ext 0 ng.1).bind λfP=>
    (A.ext 1 ng.1).bind λjX=>
    (A.cells 9 fP).bind λzm=>
    (A.au 0 zm [(AV.ah 0),(AV.ah 0),(AV.ah 0),(AV.ah 0),(AV.ah 0),(AV.ah 0),AV.az,(AV.ah 0),aR]).bind λjV=>
    (A.guard jX true (A.ak 8 jV) ay).bind λgV=>
    (A.guard jX true (A.not gV) ay).bind λlY=>
    (A.pick jX lY aR).bind λi7=>
    (A.guard i7 true (A.ak 1 jV) ay).bind λgb=>
    (A.guard i7 true (some jo) ay).bind λji=>
    (A.guard i7 true (A.eql .i gb ji) ay).bind λkJ=>
    (A.pick i7 kJ aR).bind λfL=>
    A.cond fL (
     (A.aC 0 2 ij).bind λgL=>
     (A.aC 0 9 jV).bind λnJ=>
     (A.fS (.s [0,2]) (AV.om σ.length) gL nJ ng.2).bind λMR=>
     (A.add (aj lE 1) (AV.ah 1)).bind λjc=>
     some (AX.normal,[(aj lE 0),jc],MR)) (
     (A.cond jX (
      (A.aC 0 9 jV).bind λjK=>
      (yA [jK,(AV.ah (eO b.aM t))] ng.2).bind λE8=>
      some ([(aj lE 0),(AV.lbx ij),E8.1],E8.2)) (
      (A.aW pd).bind λgM=>
      (A.aF 10 gM).bind λp5=>
      ((A.deref p5 ng.2).bind λlV=>A.ak 0 lV).bind λjL=>
      (A.aC 0 2 ij).bind λjq=>
      (A.look (.s [0,2]) jL jq (AV.agg [bB,(AV.ah 0),(AV.ah 0),(AV.ah 0),(AV.ah 0),aR,AV.az]) ng.2).bind λfG=>
      ((A.cells 7 fG).bind λG9=>A.ak 1 G9).bind λBl=>
      (A.neq .i Bl (AV.ah 1)).bind λkW=>
      (A.cond kW (
       (A.aC 0 2 ij).bind λiA=>
       (DM [pd,(AV.op ids 0),iA,(AV.ah t)] ng.2).bind λuK=>
       (A.ext 0 uK.1).bind λp6=>
       (A.ext 1 uK.1).bind λsj=>
       some ([(aj lE 0),(AV.lbx ij),p6],uK.2)) (
       some ([(aj lE 0),(AV.lbx ij),(AV.ah 0)],ng.2))).bind λmB=>
      some ([(aj mB.1 0),(aj mB.1 1),(aj mB.1 2)],mB.2))).bind λgG=>
     ((A.lb (aj gG.1 1)).bind λ_=>some (0)).bind λHI=>
     ((A.lb (aj gG.1 1)).bind λDr=>A.aC HI 2 Dr).bind λkX=>
     ((A.lb (aj gG.1 0)).bind λvI=>A.aC 0 11 vI).bind λjN=>
     ((A.lb (aj gG.1 1)).bind λ_=>some (0)).bind λHU=>
     ((A.lb (aj gG.1 1)).bind λqX=>A.aC HU 2 qX).bind λx91=>
     (A.quiet (DP [pd,jN,x91,(aj gG.1 2),jo,(AV.ah (eO b.aM t))] gG.2) gG.2).bind λru=>
     (A.aW (AV.op ids 0)).bind λx93=>
     (A.aF 1 x93).bind λuO=>
     ((A.deref uO gG.2).bind λlK=>A.ak 0 lK).bind λx96=>
     (((A.cells 7 ru).bind λvK=>(A.au 0 vK [(AV.ah 0),(AV.ah 0),(AV.ah 0),(AV.ah 0),(AV.ah 0),(AV.ah 0),AV.az,(AV.ah 0),aR]).bind λtF=>((A.cell x96).bind λv=>some [v]).bind λvL=>(A.au 7 vL tF).bind λqI=>((A.cell aR).bind λv=>some [v]).bind λsP=>(A.au 8 sP qI).bind λCS=>some CS).bind λcs=>some (AV.agg cs)).bind λzh=>
     (A.fS (.s [0,2]) (AV.om σ.length) kX zh gG.2).bind λGz=>
     (A.add (aj lE 1) (AV.ah 1)).bind λxS=>
     some (AX.normal,[(aj gG.1 0),xS],Gz))) (
    some (AX.exit 0,[(aj lE 0),(aj lE 1)],Bk)))) [.lbx (bA x),.ah 0] (rW σ [] [])=some (.exit 0,[.lbx (bA x),.ah (seen.length:Int)],rW σ (seen.map (λe=>(e.key,BL d s b x t (eO b.aM t) e))) (seen.map (λe=>(e.key,true)))):=by
 refine Du (pE (Q:=λq=>q=(.exit 0,[.lbx (bA x),.ah (seen.length:Int)],rW σ (seen.map (λe=>(e.key,BL d s b x t (eO b.aM t) e))) (seen.map (λe=>(e.key,true))))) (λz v w=>∃i:Nat,i≤seen.length∧v=[.lbx (bA x),.ah (i:Int)]∧w=rW σ ((seen.take i).map (λe=>(e.key,BL d s b x t (eO b.aM t) e))) ((seen.take i).map (λe=>(e.key,true)))∧z=seen.length-i) ?_ (n:=seen.length) ⟨0,jQ _,rfl,rfl,rfl⟩);rintro z v w ⟨i,hi,rfl,rfl,hz⟩;by_cases h:i<seen.length
 ·have he:seen[i]? =some seen[i]:=bR h;have hk:=amE yq he;refine .inl ⟨seen.length-(i+1),_,_,by omega,go_step1 hd h1 h2 hb yj hs ho hp hx DA he _ _,i+1,h,rfl,?_,rfl⟩;rw[LJ (λp hp=>by obtain⟨a,ha,rfl⟩:=ia.1 hp;exact hk a ha),LJ (λp hp=>by obtain⟨a,ha,rfl⟩:=ia.1 hp;exact hk a ha),List.take_add_one,he];simp only[List.map_append,Option.toList_some,eY,List.map_nil]
 ·have:i=seen.length:=by omega
  subst this;refine .inr ⟨_,?_,by simp,rfl⟩;simp only[bW,cQ];rw[lR,bS,dw,List.take_length]
abbrev vM(σ:Heap)(m1:List (aG×dB))(m2:List (aG×Bool))(c l:List (AV×AV)):Heap:=σ++[.map (m1.map eP),.map (m2.map EC),.it c l]
theorem adJ(σ:Heap)(m1:List (aG×dB))(m2:List (aG×Bool))(c l:List (AV×AV)):(vM σ m1 m2 c l)[σ.length+2]? =some (.it c l):=by rw[jj (by omega),show σ.length+2-σ.length=2 by omega];rfl
theorem aoY(σ:Heap)(m1:List (aG×dB))(m2:List (aG×Bool))(c l c' l':List (AV×AV)):(vM σ m1 m2 c l).set (σ.length+2) (.it c' l')=vM σ m1 m2 c' l':=by rw[rR _ _ (by omega),show σ.length+2-σ.length=2 by omega];rfl
theorem aqi(σ:Heap)(m1:List (aG×dB))(m2:List (aG×Bool))(c l:List (AV×AV))(k:aG)(r:dB):A.fS (.s [0,2]) (.om σ.length) (.agg (aX k)) (.agg (gO r)) (vM σ m1 m2 c l)=some (vM σ (eH k r m1) m2 c l):=by rw[Cv _ rfl (show(vM σ m1 m2 c l)[σ.length]? =some (.map (m1.map eP)) by rw[jj (aQ _),Nat.sub_self];rfl),show A.upd (.s [0,2]) (.agg (aX k)) (.agg (gO r)) (m1.map eP)=some ((eH k r m1).map eP)from Gg (eK:=λk=>AV.agg (aX k)) (eV:=λr=>AV.agg (gO r)) tZ k r m1,cC,rR _ _ (aQ _),Nat.sub_self];rfl
theorem aqh(σ:Heap)(m1:List (aG×dB))(m2:List (aG×Bool))(c l:List (AV×AV))(k:aG):A.look (.s [0,2]) (.om (σ.length+1)) (.agg (aX k)) (.bool false) (vM σ m1 m2 c l)=some (.bool ((dh k m2).getD false)):=by
 have h:(vM σ m1 m2 c l)[σ.length+1]? =some (.map (m2.map EC)):=by rw[jj (by omega),show σ.length+1-σ.length=1 by omega];rfl
 simp only[A.look,show A.lG (.s [0,2]) (.agg (aX k))=true from rfl,cq,A.entries,h,aY,show A.find (.s [0,2]) (.agg (aX k)) (m2.map EC)=some ((dh k m2).map AV.bool)from Ek (eK:=λk=>AV.agg (aX k)) (eV:=λr=>AV.bool r) tZ k m2,cC];cases dh k m2<;>rfl
theorem aog(seen:List bD)(k:aG):(dh k (seen.map (λe=>(e.key,true)))).getD false=(nM seen k).isSome:=by
 induction seen with
 |nil=>rfl
 |cons e l ih=>
  rw[eY,dh];unfold nM at ih ⊢;rw[List.find?_cons];by_cases h:k=e.key
  ·rw[aO h,ct h.symm];rfl
  ·rw[aK h,bZ (λq=>h q.symm)];exact ih
theorem anv(eD c:Int)(x:bE):((((A.cell (.ah eD)).bind λv=>some [v]).bind λwF=>(A.au 0 wF [(AV.ah 0),(AV.ah 0),(AV.ah 0),(AV.ah 0),(AV.ah 0),(AV.ah 0),AV.az]).bind λAz=>((A.cell (.ah c)).bind λv=>some [v]).bind λAA=>(A.au 2 AA Az).bind λL7=>((A.cell (.ah x.cD)).bind λv=>some [v]).bind λVT=>(A.au 3 VT L7).bind λL8=>((A.cell (.ah x.down)).bind λv=>some [v]).bind λVU=>(A.au 4 VU L8).bind λL9=>(A.cells 2 (.agg (nZ x.gP))).bind λGu=>(A.au 5 Gu L9).bind λC4=>some C4).bind λcs=>some (AV.agg cs))=some (.agg (gY ⟨eD,0,c,x.cD,x.down,x.gP⟩)):=rfl
theorem aai(o:Option (List (aG×dB))):A.Eo (qy (λx=>AV.agg (aX x)) (λx=>AV.agg (gO x)) o)=some ((o.getD []).map eP):=by cases o<;>rfl
theorem LA{W:Heap}{bl g ib o:Nat}{rows:List aq}{row row' new:aq}(h:W[bl]? =some (.arr g 10 rows))(hr:rows[ib]? =some row)(hs:A.au o new row=some row'):A.storeAt (.oe bl g ib o) new W=some (W.set bl (.arr g 10 (rows.set ib row'))):=by simp only[A.storeAt,h,if_true,hr,aY,hs,cC]
theorem aaO{W:Heap}{n:Nat}{B:aS}:∀{τ:Heap}{i:Nat}{ex:Heap}{b:aS},τ[i]? =some b→B≠b→A.yU W n τ (τ.set i B++ex)=(A.ED W n B).map (λB'=>τ.set i B')
 |[],i,ex,b,h,_=>by cases h
 |a::τ,0,ex,b,h,hn=>by
  injection h with h
  subst h;rw[List.set_cons_zero,nO];simp only[A.yU,aK hn]
  have key:∀τ:Heap,A.yU W n τ (τ++ex)=some τ:=by
   intro τ;induction τ with
   |nil=>simp [A.yU]
   |cons y τ ih=>simp only[nO,A.yU,if_true,aY,ih,cC]
  rw[key];cases A.ED W n B<;>rfl
 |a::τ,i+1,ex,b,h,hn=>by rw[List.set_cons_succ,nO];simp only[A.yU,if_true,aY];rw[aaO (i:=i) (b:=b) h hn];cases A.ED W n B<;>rfl
theorem aqf{W:Heap}{n:Nat}{l:List (aG×dB)}(h:W[n]? =some (.map (l.map eP)))(d:Nat):A.bM W n (d+1) (.om n)=some (.fm (l.map eP)):=by simp only[A.bM,Nat.lt_irrefl,if_false,h];rw[PJ d (λp hp=>by obtain⟨q,_,rfl⟩:=ia.1 hp;exact⟨Ab (Cu _),Ab (abW _)⟩)];rfl
theorem aaP{W:Heap}{n d:Nat}{row' aeJ:aq}(hrow:A.gm W n d row'=some aeJ):∀{l:List bC}{ib:Nat},A.kZ W n d ((l.map aV).set ib row')=some ((l.map aV).set ib aeJ)
 |[],ib=>by simp [A.kZ]
 |b::l,0=>by simp only[eY,List.set_cons_zero,A.kZ,hrow,aY,alM l W n d,cC]
 |b::l,ib+1=>by simp only[eY,List.set_cons_succ,A.kZ,FK b W n d,aY,aaP hrow (l:=l),cC]
theorem Tx{σ:Heap}{ex:Heap}{bl g ib:Nat}{l:List bC}{b b':bC}{m R:List (aG×dB)}(h2:σ[bl]? =some (.arr g 10 (l.map aV)))(hb:l[ib]? =some b)(hcan:∀b∈l,Gj b.runs)(hR:b'.runs=some (EB R))(hm:m.Perm R)(hnd:(m.map (·.1)).Nodup)(hex:ex[0]? =some (.map (m.map eP))):
  A.C6 σ (.aL []) ((σ++ex).set bl (.arr g 10 ((l.map aV).set ib [.ah b'.aM.shown,.ah b'.aM.since,.bool b'.aM.mD,.ah b'.aA,.ah b'.ku,sl 11 bA b'.bU,.ah b'.cZ,.ah b'.kY,.ah b'.eF,.om σ.length])))=some (.aL [],σ.set bl (.arr g 10 ((l.set ib b').map aV))):=by
 have hl:=(bQ.1 h2).1;have hib:=(bQ.1 hb).1;obtain⟨row,hrow⟩:∃row:aq,row=[.ah b'.aM.shown,.ah b'.aM.since,.bool b'.aM.mD,.ah b'.aA,.ah b'.ku,sl 11 bA b'.bU,.ah b'.cZ,.ah b'.kY,.ah b'.eF,.om σ.length]:=⟨_,rfl⟩
 rw[←hrow];rw[List.set_append_left _ _ hl];obtain⟨W,hW⟩:∃W,W=σ.set bl (.arr g 10 ((l.map aV).set ib row))++ex:=⟨_,rfl⟩
 have hWn:W[σ.length]? =some (.map (m.map eP)):=by rw[hW,jj (by simp),List.length_set,Nat.sub_self];exact hex
 have hne:aS.arr g 10 ((l.map aV).set ib row)≠.arr g 10 (l.map aV):=by
  intro q;injection q with _ _ q
  have q2:((l.map aV).set ib row)[ib]? =(l.map aV)[ib]? :=by rw[q]
  rw[oK (by simpa using hib),qH,hb,cC]at q2;injection q2 with q2
  rw[hrow]at q2;unfold aV at q2;simp only[List.cons.injEq,and_true]at q2;have:=q2.2.2.2.2.2.2.2.2.2;revert this;cases b.runs<;>intro this<;>cases this
 have hfr:A.gm W σ.length 8 row=some [.ah b'.aM.shown,.ah b'.aM.since,.bool b'.aM.mD,.ah b'.aA,.ah b'.ku,sl 11 bA b'.bU,.ah b'.cZ,.ah b'.kY,.ah b'.eF,.fm (m.map eP)]:=by rw[hrow];simp only[A.gm,fA _ _ W σ.length 8,Ea _ W σ.length 8,sF PK _ W σ.length 8,aqf hWn 7,aY,cC]
 have hB:A.ED W σ.length (.arr g 10 ((l.map aV).set ib row))=some (.arr g 10 ((l.set ib b').map aV)):=by
  simp only[A.ED,aaP hfr,cC];congr 2;rw[List.map_set,List.map_set,List.map_map];have e1:l.map ((λx=>x.map A.can)∘aV)=l.map aV:=List.map_congr_left λb hb=>alw (hcan b hb)
  rw[e1];congr 1;unfold aV;rw[hR];simp only[eY,List.map_nil,adx hnd,aaD (hm.map eP),←abE];rfl
 unfold A.C6;rw[←hW];conv=>lhs;arg 1;rw[hW]
 rw[aaO h2 hne,←hW,hB];simp only[cC,aY];have:A.bM W σ.length 8 (.aL [])=some (.aL []):=by simp [A.bM,A.gm]
 rw[this];rfl
end
section
set_option maxRecDepth 100000
open HP
theorem aqP{ro:Sh}{r:AV→AV→AV→AV→AV→Heap→aH}{x y z u p v v':AV}{σ σ':Heap}(e2:A.nn ro v=v')(e:r x y z u p σ=some (v,σ')):A.wrap false [] ro (A.GS r) [x,y,z,u,p] σ=some (v',σ'):=by have:A.GS r [x,y,z,u,p] σ=some (v,σ'):=e;simp only[A.wrap,Bool.false_and,bG,A.dr,this,cC,e2]
abbrev BX(c t:Int)(b:bC)(cZ eF:Int)(rv:AV):aq:=[.ah c,.ah t,.bool false,.ah b.aA,.ah b.ku,sl 11 bA b.bU,.ah cZ,.ah b.kY,.ah eF,rv]
theorem O4{d:bJ}{s:cE}{b:bC}{x:bE}{c:Int}{seen:List bD}:∀(l:List (aG×dB)),∀p∈l.filterMap (λp=>(wk d s b x c seen p.1).map (λr=>(p.1,r))),(nM seen p.1).isSome=false∧p.1∈l.map (·.1):=by
 intro l p hp;obtain⟨q,hq,h⟩:=List.mem_filterMap.1 hp;obtain⟨r,hr,rfl⟩:=eG.1 h;refine⟨?_,ia.2 ⟨q,hq,rfl⟩⟩;unfold wk at hr;split at hr
 ·cases hr
 ·rename_i h;simp only[not_or]at h;simpa using h.2.1
theorem TO{d:bJ}{s:cE}{b:bC}{x:bE}{c:Int}{seen:List bD}:∀{l:List (aG×dB)},(l.map (·.1)).Nodup→((l.filterMap (λp=>(wk d s b x c seen p.1).map (λr=>(p.1,r)))).map (·.1)).Nodup
 |[],_=>by simp
 |p::l,h=>by
  rw[eY,qt]at h;rw[List.filterMap_cons];cases hs:wk d s b x c seen p.1 with
  |none=>simp only[Option.map_none];exact TO h.2
  |some r=>simp only[cC,eY,qt];refine⟨λq=>?_,TO h.2⟩;obtain⟨z,hz,Hv⟩:=ia.1 q;have:=(O4 l z hz).2;rw[Hv]at this;exact h.1 this
theorem abh{seen:List bD}{k:aG}(h:(nM seen k).isSome=false):∀e∈seen,e.key≠k:=by intro e he q;unfold nM at h;rw[Option.isSome_eq_false_iff,Option.isNone_iff_eq_none,List.find?_eq_none]at h;exact h e he (by simpa using q)
theorem akY{seen:List bD}(h:pO seen):(seen.map (·.key)).Nodup:=by unfold pO at h;rw[List.nodup_iff_pairwise_ne,List.pairwise_map];exact h.imp λ{a b}q e=>by rw[e,Ed]at q;cases q
theorem go_nodup{d:bJ}{s:cE}{b:bC}{x:bE}{t c:Int}{seen:List bD}(yq:pO seen){l:List (aG×dB)}(hl:(l.map (·.1)).Nodup):((seen.map (λe=>(e.key,BL d s b x t c e))++l.filterMap (λp=>(wk d s b x c seen p.1).map (λr=>(p.1,r)))).map (·.1)).Nodup:=by rw[List.map_append,List.map_map,List.nodup_append];refine⟨akY yq,TO hl,λa ha b' hb' q=>?_⟩;subst q;obtain⟨e,he,rfl⟩:=ia.1 ha;obtain⟨z,hz,Hv⟩:=ia.1 hb';exact abh (O4 l z hz).1 e he (by rw[Hv];rfl)
theorem adI{d:bJ}{s:cE}{σ:Heap}{pd:AV}{ids bl g ib to:Nat}{b:bC}{x:bE}{t:Int}(hd:vE pd d σ)(h1:σ[ids]? =some (.box (bI (.os bl g 10 0 s.aD.length) s)))(h2:σ[bl]? =some (.arr g 10 (s.aD.map aV)))(hb:s.aD[ib]? =some b)(XR:b.bU[to]? =some x)(hs:s.aD.length≤bu)(ho:∀b∈s.aD,uZ b t)(hp:gE Co d.setup.cA)(Q5:gE Ew b.bU)(yq:pO (Ai b x))(DA:(Ai b x).length≤bu)(hcan:∀b∈s.aD,Gj b.runs):
  vZ [pd,.op ids 0,.ah (ib:Int),.ah (to:Int),.ah t] σ=some (.aL [],σ.set bl (.arr g 10 ((s.aD.set ib (mX d s b x to t)).map aV))):=by
 refine aqP (kF _) ?_;have zz:b∈s.aD:=dA hb;have hxm:x∈b.bU:=dA XR;have hox:=Q5.2 x hxm;have hxi:aU x.aA:=hox.1;have atp:x.eB.length≤bu:=(ZF hox).1;have yj:JV (.oe bl g ib 0) b σ:=bRd h2 hb;have hlb:=(bQ.1 hb).1;have hlt:=(bQ.1 h2).1;have hls:=(bQ.1 h1).1;have EY:=ho b zz;have C7:=EY.tG;have iq:b.bU.length≤bu:=Q5.1;have hto:=(bQ.1 XR).1
 have Hr:((b.runs.getD []).map (·.1)).Nodup:=by
  cases hr:b.runs with
  |none=>simp
  |some l=>exact(hcan b zz l hr).1
 have E3:∀k,(fc b k (eO b.aM t)).2=true→uU (fc b k (eO b.aM t)).1.l6:=λk q=>CA EY q
 have rd:∀o ex,A.deref (.oe bl g ib o) (σ++ex)=some ((aV b).drop o):=λo ex=>by
  obtain⟨q,e1,e2⟩:=yj.f o;have:q=.oe bl g ib o:=by simp [A.aF]at e1;exact e1.symm
  rw[←this];exact e2 ex
 have Rq:∀o,A.deref (.oe bl g ib o) σ=some ((aV b).drop o):=λo=>by have:=rd o [];rwa[List.append_nil]at this
 unfold Si
 rw[show A.aW (.op ids 0)=some (.op ids 0)from rfl,bS,show A.aF 0 (.op ids 0)=some (.op ids 0)from rfl,bS,show((A.deref (.op ids 0) σ).bind λc=>A.ak 0 c)=some (.os bl g 10 0 s.aD.length)from by simp only[A.deref,h1];rfl,bS,show A.bh 10 (.os bl g 10 0 s.aD.length) (.ah (ib:Int))=some (.oe bl g ib 0)from by
  have:((ib:Int)<(s.aD.length:Int)):=by omega
  simp [A.bh,A.idx,this],bS]
 simp only[show A.aW (.oe bl g ib 0)=some (.oe bl g ib 0)from rfl,bS,show ∀o,A.aF o (.oe bl g ib 0)=some (.oe bl g ib o)from λo=>by simp [A.aF],Rq];rw[show A.ak 0 ((aV b).drop 5)=some (sl 11 bA b.bU)from rfl,bS,kK XR,bS,qx,bS,show A.aC 0 11 (bA x)=some (.agg (bA x))from rfl,bS,PC,bS,Lz _ _ rfl,bS,show A.aC 0 3 ((aV b).drop 0)=some (.agg (yM b.aM))from rfl,bS,Qf,bS];simp only[Rq,bS];rw[show A.ak 0 ((aV b).drop 5)=some (sl 11 bA b.bU)from rfl,bS,T8,bS,fM (aok Q5 hxi σ),bS,mo,bS,ext1,bS,show(BA b.bU x.aA).1=Ai b x from rfl,iS,bS];rw[show(σ++[aS.map []])++[aS.map []]=rW σ [] []from by rw[mm];rfl,show(σ++[aS.map []]).length=σ.length+1 from by simp];refine(congrArg (λz=>Option.bind z _) (go_loop1 hd h1 h2 zz yj hs ho hp atp DA yq)).trans ?_;rw[bS];simp only[oT,rd,bS];rw[show A.ak 0 ((aV b).drop 9)=some (qy (λx=>AV.agg (aX x)) (λx=>AV.agg (gO x)) b.runs)from Ov b (σ:=[]),bS,aai,bS];obtain⟨seen,Vy⟩:∃seen,seen=Ai b x:=⟨_,rfl⟩
 obtain⟨c,hc⟩:∃c,c=eO b.aM t:=⟨_,rfl⟩
 have E4:F6 d s b x t=seen.map (λe=>(e.key,BL d s b x t c e))++(b.runs.getD []).filterMap (λp=>(wk d s b x c seen p.1).map (λr=>(p.1,r))):=by rw[Vy,hc];rfl
 rw[←Vy]at yq DA;rw[←hc]at C7 E3;rw[←Vy,←hc];obtain⟨es,A7⟩:∃es,es=b.runs.getD []:=⟨_,rfl⟩
 rw[←A7]at Hr E4;rw[←A7];obtain⟨m1,hm1⟩:∃m1,m1=seen.map (λe=>(e.key,BL d s b x t c e)):=⟨_,rfl⟩
 obtain⟨m2,hm2⟩:∃m2,m2=seen.map (λe=>(e.key,true)):=⟨_,rfl⟩
 rw[←hm1]at E4;rw[←hm1,←hm2];have hWl:(rW σ m1 m2).length=σ.length+2:=by simp
 rw[hWl,show rW σ m1 m2++[aS.it [] (es.map eP)]=vM σ m1 m2 [] (es.map eP)from by rw[mm];rfl];obtain⟨st,hst⟩:∃st,st=λp:aG×dB=>(wk d s b x c seen p.1).map (λr=>(p.1,r)):=⟨_,rfl⟩
 rw[←hst]at E4;refine TM (α:=aG×dB) (enc:=eP) (it:=σ.length+2) (es:=es) _ _ (λ_ _ _=>rfl) (λdn lf w W=>w=[.lbx (bA x)]∧∃cu,W=vM σ (m1++dn.filterMap st) m2 cu (lf.map eP)) ?_ ?_ ?_ ?_
 ·rintro dn lf w W ⟨rfl,cu,rfl⟩;exact⟨cu,adJ _ _ _ _ _⟩
 ·rintro dn lf w W j p CM ⟨rfl,cu,rfl⟩ hj;rw[aoY]
  have hpk:∀q∈m1++dn.filterMap st,st p≠none→q.1≠p.1:=by
   intro q hq hsp e
   have hpn:(nM seen p.1).isSome=false:=by
    have:p.1∈[p].map (·.1):=by simp
    obtain⟨r,hr⟩:=Option.ne_none_iff_exists'.1 hsp;rw[hst]at hr;have:=(O4 (d:=d) (s:=s) (b:=b) (x:=x) (c:=c) (seen:=seen) [p] r (List.mem_filterMap.2 ⟨p,by simp,hr⟩)).1;obtain⟨r',_,hr'⟩:=eG.1 hr;rw[←hr']at this;exact this
   rcases jP.1 hq with hq|hq
   ·rw[hm1]at hq;obtain⟨e',he',rfl⟩:=ia.1 hq;exact abh hpn e' he' e
   ·rw[hst]at hq;have hk:=(O4 dn q hq).2;rw[e]at hk;have hnd:((dn++lf).map (·.1)).Nodup:=(CM.map (·.1)).nodup_iff.2 Hr;rw[List.map_append,List.nodup_append]at hnd;exact hnd.2.2 p.1 hk p.1 (ia.2 ⟨p,dA hj,rfl⟩) rfl
  obtain⟨W,hW⟩:∃W,W=vM σ (m1++dn.filterMap st) m2 [eP p] ((lf.eraseIdx j).map eP):=⟨_,rfl⟩
  rw[←hW]
  have Mm:A.yO (.op (σ.length+2) 0) W=some (.aL [.agg (aX p.1),.agg (gO p.2)]):=by rw[hW];simp only[A.yO,adJ];rfl
  refine⟨[.lbx (bA x)],vM σ (m1++(dn++[p]).filterMap st) m2 [eP p] ((lf.eraseIdx j).map eP),λK=>?_,rfl,_,rfl⟩;rw[Mm,bS,mo,bS,Cs,bS,FZ _ _ rfl,bS,sx,bS];have Wa:∀k,tV [.oe bl g ib 0,.agg (aX k),.ah c] W=some (.aL [.agg (gO (fc b k c).1),.bool (fc b k c).2],W):=λk=>by rw[hW];exact Um yj k c _
  rw[Wa,bS];simp only[mo,ext1,bS,By,D6 _ _ (show qo.length=9 from rfl),AL];obtain⟨Kj,pm,g1,g2⟩:=hd.f10;have g3:((A.deref Kj W).bind λc=>A.ak 0 c)=some pm:=by rw[hW];exact(g2 _).1
  have g4:A.look (.s [0,2]) pm (.agg (aX p.1)) (.agg Gh) W=some (.agg (lX d p.1)):=by rw[hW];exact(g2 _).2 p.1
  have g5:A.look (.s [0,2]) (.om (σ.length+1)) (.agg (aX p.1)) (.bool false) W=some (.bool (nM seen p.1).isSome):=by rw[hW,aqh,hm2,aog]
  have skip:st p=none→K (.normal,[.lbx (bA x)],W)=K (.normal,[.lbx (bA x)],vM σ (m1++(dn++[p]).filterMap st) m2 [eP p] ((lf.eraseIdx j).map eP)):=by intro h;rw[hW,List.filterMap_append,List.filterMap_cons,h,List.filterMap_nil,List.append_nil]
  by_cases oA:(fc b p.1 c).2=true
  case neg=>
   have GB:(fc b p.1 c).2=false:=by simpa using oA
   rw[GB];simp only[Bool.not_false,A0,gU,bS,mM,cT,bW];exact skip (by rw[hst];simp only[wk,GB,true_or,if_true,Option.map_none])
  rw[oA];simp only[Bool.not_true,gF,bS,mZ,g5,sx];by_cases XQ:(nM seen p.1).isSome=true
  ·rw[XQ];simp only[A0,gU,bS,mM,cT,bW];exact skip (by rw[hst];simp only[wk,XQ,true_or,or_true,if_true,Option.map_none])
  have afk:(nM seen p.1).isSome=false:=by simpa using XQ
  rw[afk];simp only[gF,bS,mZ,hd.nc,g1,g3,g4,sx,Jj,CE,fW];by_cases Dw:(eR d p.1).1=1
  case neg=>
   rw[ct Dw];simp only[cT,bW];exact skip (by rw[hst];simp only[wk,Dw,not_false_eq_true,or_true,if_true,Option.map_none])
  rw[bZ (λq=>q Dw)];simp only[cF,OL,bS,AL];have hfo:=E3 p.1 oA
  have Jx:¬((fc b p.1 c).2=false∨(nM seen p.1).isSome=true∨¬(eR d p.1).1=1):=by rw[oA,afk,Dw];simp
  have last:∀r:dB,st p=some (p.1,r)→((A.fS (.s [0,2]) (.om σ.length) (.agg (aX p.1)) (.agg (gO r)) W).bind λV6=>K (.normal,[.lbx (bA x)],V6))=K (.normal,[.lbx (bA x)],vM σ (m1++(dn++[p]).filterMap st) m2 [eP p] ((lf.eraseIdx j).map eP)):=by intro r hr;rw[hW,aqi,bS,LJ (λq hq=>hpk q hq (by rw[hr];simp)),List.filterMap_append,List.filterMap_cons,hr,List.filterMap_nil,mm]
  cases MX:(fc b p.1 c).1.ending
  case true=>
   simp only[Bool.not_true,cF,bS,bW,cQ,jI,sx,yI];exact last _ (by rw[hst];simp only[wk,aK Jx,MX,if_true,cC])
  case false=>
   simp only[Bool.not_false,cT,bS,yI,fM (Ls hfo C7 W),bW,cQ,jI,T9,Ua,SI];rw[anv,bS,FV,bS,Pt _ _ rfl,bS,I5,bS,fM (Vr _ W),bS]
   rw[show A.aF 1 (.op ids 0)=some (.op ids 1)from rfl,bS,show((A.deref (.op ids 1) W).bind λMa=>A.ak 0 Ma)=some (.ah s.aA)from by
    rw[hW];simp only[A.deref,jk hls,h1];rfl,bS,US,bS,By,bS,D6 _ _ rfl,bS,bS]
   simp only[bW,cQ,jI,bS,sx,yI];exact last _ (by rw[hst];simp only[wk,aK Jx,MX,cC];rfl)
 ·rintro dn w W CM ⟨rfl,cu,rfl⟩;simp only[oT];obtain⟨m,hm⟩:∃m,m=m1++dn.filterMap st:=⟨_,rfl⟩
  rw[←hm];obtain⟨ex,hex⟩:∃ex:Heap,ex=[.map (m.map eP),.map (m2.map EC),.it cu (([]:List (aG×dB)).map eP)]:=⟨_,rfl⟩
  rw[show vM σ m m2 cu (([]:List (aG×dB)).map eP)=σ++ex from by rw[hex]]
  have hmp:m.Perm (F6 d s b x t):=by rw[E4,hm];exact(CM.filterMap st).append_left m1
  have hnd:(m.map (·.1)).Nodup:=by rw[hm,hm1,hst];exact go_nodup yq ((CM.map (·.1)).nodup_iff.2 Hr)
  rw[show((((A.cell (AV.ah c)).bind λv=>some [v]).bind λGv=>(A.au 0 Gv [(AV.ah 0),(AV.ah 0),aR]).bind λGw=>((A.cell (AV.ah t)).bind λv=>some [v]).bind λGx=>(A.au 1 Gx Gw).bind λMb=>((A.cell aR).bind λv=>some [v]).bind λMc=>(A.au 2 Mc Mb).bind λMd=>some Md).bind λcs=>some (AV.agg cs))=some (.agg [.ah c,.ah t,.bool false])from rfl,bS];try simp only[show A.aW (.oe bl g ib 0)=some (.oe bl g ib 0)from rfl,bS,show ∀o,A.aF o (.oe bl g ib 0)=some (.oe bl g ib o)from λo=>by simp [A.aF]]
  rw[show A.cells 3 (.agg [.ah c,.ah t,.bool false])=some [.ah c,.ah t,.bool false]from rfl,bS];have Q8:(σ++ex)[bl]? =some (.arr g 10 (s.aD.map aV)):=by rw[jk hlt];exact h2
  have Kh:(s.aD.map aV)[ib]? =some (aV b):=by rw[qH,hb];rfl
  have hlm:ib<(s.aD.map aV).length:=by simpa using hlb
  have Rb:bl<(σ++ex).length:=by simp;omega
  have chain:∀(o:Nat)(row row' new:aq),A.au o new row=some row'→A.storeAt (.oe bl g ib o) new ((σ++ex).set bl (.arr g 10 ((s.aD.map aV).set ib row)))=some ((σ++ex).set bl (.arr g 10 ((s.aD.map aV).set ib row'))):=by intro o row row' new hsp;rw[LA (W:=(σ++ex).set bl (.arr g 10 ((s.aD.map aV).set ib row))) (rows:=(s.aD.map aV).set ib row) (oK Rb) (oK hlm) hsp,List.set_set,List.set_set]
  obtain⟨rv,XN⟩:∃rv,rv=qy (λx=>AV.agg (aX x)) (λx=>AV.agg (gO x)) b.runs:=⟨_,rfl⟩
  rw[LA (row':=[.ah c,.ah t,.bool false,.ah b.aA,.ah b.ku,sl 11 bA b.bU,.ah b.cZ,.ah b.kY,.ah b.eF,rv]) Q8 Kh (by rw[XN];rfl),bS];rw[sE,bS,chain 6 _ (BX c t b to b.eF rv) _ rfl,bS];rw[show((A.cell (AV.om σ.length)).bind λv=>some [v])=some [.om σ.length]from rfl,bS,chain 9 _ (BX c t b to b.eF (.om σ.length)) _ rfl,bS];rw[sE,bS,chain 8 _ (BX c t b to (-1) (.om σ.length)) _ rfl,bS];simp only[bW,jI,bS,abb,vi];have fin:=λ(fo:Int)(hfo:(mX d s b x to t).eF=fo)=>Tx (σ:=σ) (ex:=ex) (b':=mX d s b x to t) (m:=m) (R:=F6 d s b x t) h2 hb hcan rfl hmp hnd (by rw[hex];rfl)
  have hrow:[AV.ah (mX d s b x to t).aM.shown,.ah (mX d s b x to t).aM.since,.bool (mX d s b x to t).aM.mD,.ah (mX d s b x to t).aA,.ah (mX d s b x to t).ku,sl 11 bA (mX d s b x to t).bU,.ah (mX d s b x to t).cZ,.ah (mX d s b x to t).kY,.ah (mX d s b x to t).eF,.om σ.length]=BX c t b to (mX d s b x to t).eF (.om σ.length):=by rw[hc];rfl
  have fin:=Tx (σ:=σ) (ex:=ex) (b':=mX d s b x to t) (m:=m) (R:=F6 d s b x t) h2 hb hcan rfl hmp hnd (by rw[hex];rfl);rw[hrow]at fin;have EH:(mX d s b x to t).eF=if 0≤x.eF∧(to:Int)+1<(b.bU.length:Int)then IntKind.i64.wrap (c+x.eF)else -1:=by rw[hc];rfl
  by_cases Ka:0≤x.eF
  ·rw[ct Ka];simp only[gT,bS,show A.aW (.oe bl g ib 0)=some (.oe bl g ib 0)from rfl,show ∀o,A.aF o (.oe bl g ib 0)=some (.oe bl g ib o)from λo=>by simp [A.aF]];rw[Qv (by unfold bu at iq;omega),bS]
   rw[show((A.deref (.oe bl g ib 5) ((σ++ex).set bl (.arr g 10 ((s.aD.map aV).set ib (BX c t b to (-1) (.om σ.length)))))).bind λV0=>A.ak 0 V0)=some (sl 11 bA b.bU)from by
    simp only[A.deref,oK Rb,if_true,oK hlm,cC];rfl,bS,iS,bS,mU,bS,mM,bS]
   by_cases tL:(to:Int)+1<(b.bU.length:Int)
   ·rw[ct (by omega),dO];rw[aO ⟨Ka,tL⟩]at EH;rw[EH]at fin;rw[nv,bS,sE,bS,chain 8 _ (BX c t b to (IntKind.i64.wrap (c+x.eF)) (.om σ.length)) _ rfl,bS,bS];exact fin
   ·rw[bZ (by omega),dw,bS];rw[aK (λq=>tL q.2)]at EH;rw[EH]at fin;exact fin
  ·rw[bZ Ka];simp only[wO,gU,bS,mZ,cF];rw[aK (λq=>Ka q.1)]at EH;rw[EH]at fin;exact fin
 ·refine⟨rfl,[],?_⟩;rw[List.filterMap_nil,List.append_nil]
end
section
set_option maxRecDepth 100000
open HP
noncomputable def BF (d:bJ) (s:cE) (b:bC) (c lv:Int) (k:aG):Option dB:=
 if(fc b k c).2=false∨¬(eR d k).1=1 then none
 else some ⟨wG ⟨yx (fc b k c).1 c,0,c,0,lv,⟨1,[]⟩⟩,s.aA,true⟩
noncomputable def Lx (d:bJ) (s:cE) (b:bC) (a:fk):List (aG×dB):=(b.runs.getD []).filterMap (λp=>(BF d s b (eO b.aM a.time) a.level p.1).map (λr=>(p.1,r)))
noncomputable def wK (d:bJ) (s:cE) (b:bC) (a:fk):bC:={b with aM:=⟨eO b.aM a.time,a.time,false⟩,cZ:=-1,eF:=-1,runs:=some (EB (Lx d s b a))}
abbrev zg(σ:Heap)(m:List (aG×dB))(c l:List (AV×AV)):Heap:=σ++[.map (m.map eP),.it c l]
theorem ade(σ:Heap)(m:List (aG×dB))(c l:List (AV×AV)):(zg σ m c l)[σ.length+1]? =some (.it c l):=by rw[jj (by omega),show σ.length+1-σ.length=1 by omega];rfl
theorem anU(σ:Heap)(m:List (aG×dB))(c l c' l':List (AV×AV)):(zg σ m c l).set (σ.length+1) (.it c' l')=zg σ m c' l':=by rw[rR _ _ (by omega),show σ.length+1-σ.length=1 by omega];rfl
theorem aqC(σ:Heap)(m:List (aG×dB))(c l:List (AV×AV))(k:aG)(r:dB):A.fS (.s [0,2]) (.om σ.length) (.agg (aX k)) (.agg (gO r)) (zg σ m c l)=some (zg σ (eH k r m) c l):=by rw[Cv _ rfl (show(zg σ m c l)[σ.length]? =some (.map (m.map eP)) by rw[jj (aQ _),Nat.sub_self];rfl),show A.upd (.s [0,2]) (.agg (aX k)) (.agg (gO r)) (m.map eP)=some ((eH k r m).map eP)from Gg (eK:=λk=>AV.agg (aX k)) (eV:=λr=>AV.agg (gO r)) tZ k r m,cC,rR _ _ (aQ _),Nat.sub_self];rfl
theorem ach{d:bJ}{s:cE}{b:bC}{c lv:Int}:∀(l:List (aG×dB)),∀p∈l.filterMap (λp=>(BF d s b c lv p.1).map (λr=>(p.1,r))),p.1∈l.map (·.1):=by intro l p hp;obtain⟨q,hq,h⟩:=List.mem_filterMap.1 hp;obtain⟨r,hr,rfl⟩:=eG.1 h;exact ia.2 ⟨q,hq,rfl⟩
theorem O2{d:bJ}{s:cE}{b:bC}{c lv:Int}:∀{l:List (aG×dB)},(l.map (·.1)).Nodup→((l.filterMap (λp=>(BF d s b c lv p.1).map (λr=>(p.1,r)))).map (·.1)).Nodup
 |[],_=>by simp
 |p::l,h=>by
  rw[eY,qt]at h;rw[List.filterMap_cons];cases hs:BF d s b c lv p.1 with
  |none=>simp only[Option.map_none];exact O2 h.2
  |some r=>simp only[cC,eY,qt];refine⟨λq=>?_,O2 h.2⟩;obtain⟨z,hz,Hv⟩:=ia.1 q;have:=ach l z hz;rw[Hv]at this;exact h.1 this
theorem anu(eD c lv:Int):((((A.cell (.ah eD)).bind λv=>some [v]).bind λqS=>(A.au 0 qS [(AV.ah 0),(AV.ah 0),(AV.ah 0),(AV.ah 0),(AV.ah 0),(AV.ah 0),AV.az]).bind λAW=>((A.cell (.ah c)).bind λv=>some [v]).bind λMI=>(A.au 2 MI AW).bind λqT=>((A.cell (.ah lv)).bind λv=>some [v]).bind λzm=>(A.au 4 zm qT).bind λjV=>(A.cells 2 (.agg [.ah 1,.az])).bind λtC=>(A.au 5 tC jV).bind λkQ=>some kQ).bind λcs=>some (AV.agg cs))=some (.agg [.ah eD,.ah 0,.ah c,.ah 0,.ah lv,.ah 1,.az]):=rfl
theorem aoD(eD c lv:Int)(σ:Heap):yD [.agg [.ah eD,.ah 0,.ah c,.ah 0,.ah lv,.ah 1,.az]] σ=some (.agg (gY (wG ⟨eD,0,c,0,lv,⟨1,[]⟩⟩)),σ):=by have h:=Vr ⟨eD,0,c,0,lv,⟨1,[]⟩⟩ σ;rw[←h];exact U3 rfl rfl rfl
theorem amo{d:bJ}{s:cE}{σ:Heap}{pd:AV}{ids bl g ib:Nat}{b:bC}{a:fk}(hd:vE pd d σ)(h1:σ[ids]? =some (.box (bI (.os bl g 10 0 s.aD.length) s)))(h2:σ[bl]? =some (.arr g 10 (s.aD.map aV)))(hb:s.aD[ib]? =some b)(EY:uZ b a.time)(hcan:∀b∈s.aD,Gj b.runs):
  Kt [pd,.op ids 0,.oe bl g ib 0,.agg (bX a)] σ=some (.aL [],σ.set bl (.arr g 10 ((s.aD.set ib (wK d s b a)).map aV))):=by
 have aqO:∀{r:AV→AV→AV→AV→Heap→aH}{x y z u:AV}{σ σ':Heap},r x y z u σ=some (.aL [],σ')→A.wrap false [] .k (A.zi r) [x,y,z,u] σ=some (.aL [],σ'):=by intro r x y z u σ σ' e;have:A.zi r [x,y,z,u] σ=some (.aL [],σ'):=e;simp only[A.wrap,Bool.false_and,bG,A.dr,this,cC,kF]
 refine aqO ?_;have zz:b∈s.aD:=dA hb;have yj:JV (.oe bl g ib 0) b σ:=bRd h2 hb;have hlb:=(bQ.1 hb).1;have hlt:=(bQ.1 h2).1;have hls:=(bQ.1 h1).1;have C7:=EY.tG
 have Hr:((b.runs.getD []).map (·.1)).Nodup:=by
  cases hr:b.runs with
  |none=>simp
  |some l=>exact(hcan b zz l hr).1
 have E3:∀k,(fc b k (eO b.aM a.time)).2=true→uU (fc b k (eO b.aM a.time)).1.l6:=λk q=>CA EY q
 have rd:∀o ex,A.deref (.oe bl g ib o) (σ++ex)=some ((aV b).drop o):=λo ex=>by
  obtain⟨q,e1,e2⟩:=yj.f o;have:q=.oe bl g ib o:=by simp [A.aF]at e1;exact e1.symm
  rw[←this];exact e2 ex
 have Rq:∀o,A.deref (.oe bl g ib o) σ=some ((aV b).drop o):=λo=>by have:=rd o [];rwa[List.append_nil]at this
 unfold RX;rw[show A.cells 5 (.agg (bX a))=some (bX a)from rfl,bS];simp only[show A.aW (.oe bl g ib 0)=some (.oe bl g ib 0)from rfl,bS,show ∀o,A.aF o (.oe bl g ib 0)=some (.oe bl g ib o)from λo=>by simp [A.aF],Rq,rd];rw[show A.aC 0 3 ((aV b).drop 0)=some (.agg (yM b.aM))from rfl,bS,show A.ak 0 (bX a)=some (.ah a.time)from rfl,bS,fM (Qf _ _ σ),bS];rw[show A.ak 0 ((aV b).drop 9)=some (qy (λx=>AV.agg (aX x)) (λx=>AV.agg (gO x)) b.runs)from Ov b (σ:=[]),bS,aai,bS];obtain⟨c,hc⟩:∃c,c=eO b.aM a.time:=⟨_,rfl⟩
 have E4:Lx d s b a=(b.runs.getD []).filterMap (λp=>(BF d s b c a.level p.1).map (λr=>(p.1,r))):=by rw[hc];rfl
 rw[←hc]at C7 E3;rw[←hc];obtain⟨es,A7⟩:∃es,es=b.runs.getD []:=⟨_,rfl⟩
 rw[←A7]at Hr E4;rw[←A7];rw[show(σ++[aS.map []]).length=σ.length+1 from by simp,show(σ++[aS.map []])++[aS.it [] (es.map eP)]=zg σ [] [] (es.map eP)from by rw[mm];rfl];obtain⟨st,hst⟩:∃st,st=λp:aG×dB=>(BF d s b c a.level p.1).map (λr=>(p.1,r)):=⟨_,rfl⟩
 rw[←hst]at E4;refine TM (α:=aG×dB) (enc:=eP) (it:=σ.length+1) (es:=es) _ _ (λ_ _ _=>rfl) (λdn lf w W=>w=[.lbx (bX a)]∧∃cu,W=zg σ (dn.filterMap st) cu (lf.map eP)) ?_ ?_ ?_ ?_
 ·rintro dn lf w W ⟨rfl,cu,rfl⟩;exact⟨cu,ade _ _ _ _⟩
 ·rintro dn lf w W j p CM ⟨rfl,cu,rfl⟩ hj;rw[anU]
  have hpk:∀q∈dn.filterMap st,q.1≠p.1:=by intro q hq e;rw[hst]at hq;have hk:=ach dn q hq;rw[e]at hk;have hnd:((dn++lf).map (·.1)).Nodup:=(CM.map (·.1)).nodup_iff.2 Hr;rw[List.map_append,List.nodup_append]at hnd;exact hnd.2.2 p.1 hk p.1 (ia.2 ⟨p,dA hj,rfl⟩) rfl
  obtain⟨W,hW⟩:∃W,W=zg σ (dn.filterMap st) [eP p] ((lf.eraseIdx j).map eP):=⟨_,rfl⟩
  rw[←hW]
  have Mm:A.yO (.op (σ.length+1) 0) W=some (.aL [.agg (aX p.1),.agg (gO p.2)]):=by rw[hW];simp only[A.yO,ade];rfl
  refine⟨[.lbx (bX a)],zg σ ((dn++[p]).filterMap st) [eP p] ((lf.eraseIdx j).map eP),λK=>?_,rfl,_,rfl⟩;rw[Mm,bS,mo,bS,Cs,bS,FZ _ _ rfl,bS,sx,bS];have Wa:∀k,tV [.oe bl g ib 0,.agg (aX k),.ah c] W=some (.aL [.agg (gO (fc b k c).1),.bool (fc b k c).2],W):=λk=>by rw[hW];exact Um yj k c _
  rw[Wa,bS];simp only[mo,ext1,bS,By,D6 _ _ (show qo.length=9 from rfl),AL];obtain⟨Kj,pm,g1,g2⟩:=hd.f10;have g3:((A.deref Kj W).bind λc=>A.ak 0 c)=some pm:=by rw[hW];exact(g2 _).1
  have g4:A.look (.s [0,2]) pm (.agg (aX p.1)) (.agg Gh) W=some (.agg (lX d p.1)):=by rw[hW];exact(g2 _).2 p.1
  have skip:st p=none→K (.normal,[.lbx (bX a)],W)=K (.normal,[.lbx (bX a)],zg σ ((dn++[p]).filterMap st) [eP p] ((lf.eraseIdx j).map eP)):=by intro h;rw[hW,List.filterMap_append,List.filterMap_cons,h,List.filterMap_nil,List.append_nil]
  by_cases oA:(fc b p.1 c).2=true
  case neg=>
   have GB:(fc b p.1 c).2=false:=by simpa using oA
   rw[GB];simp only[Bool.not_false,A0,gU,bS,mM,cT,bW];exact skip (by rw[hst];simp only[BF,GB,true_or,if_true,Option.map_none])
  rw[oA];simp only[Bool.not_true,gF,bS,mZ,hd.nc,g1,g3,g4,sx,Jj,CE,fW];by_cases Dw:(eR d p.1).1=1
  case neg=>
   rw[ct Dw];simp only[cT,bW];exact skip (by rw[hst];simp only[BF,Dw,not_false_eq_true,or_true,if_true,Option.map_none])
  rw[bZ (λq=>q Dw)];simp only[cF,bS,yI,fM (Ls (E3 p.1 oA) C7 W),bW,jI,show A.ak 4 (bX a)=some (.ah a.level)from rfl]
  have Jx:¬((fc b p.1 c).2=false∨¬(eR d p.1).1=1):=by rw[oA,Dw];simp
  rw[show((((A.cell (AV.ah 1)).bind λv=>some [v]).bind λjH=>(A.au 0 jH [(AV.ah 0),AV.az]).bind λtv=>some tv).bind λcs=>some (AV.agg cs))=some (.agg [.ah 1,.az])from rfl,bS,anu,bS,fM (aoD _ _ _ W),bS]
  rw[show A.aW (.op ids 0)=some (.op ids 0)from rfl,bS,show A.aF 1 (.op ids 0)=some (.op ids 1)from rfl,bS,show((A.deref (.op ids 1) W).bind λMa=>A.ak 0 Ma)=some (.ah s.aA)from by
    rw[hW];simp only[A.deref,jk hls,h1];rfl,bS,US,bS]
  have hr:st p=some (p.1,⟨wG ⟨yx (fc b p.1 c).1 c,0,c,0,a.level,⟨1,[]⟩⟩,s.aA,true⟩):=by rw[hst];simp only[BF,aK Jx,cC]
  rw[hW,aqC,bS,LJ hpk,List.filterMap_append,List.filterMap_cons,hr,List.filterMap_nil]
 ·rintro dn w W CM ⟨rfl,cu,rfl⟩;simp only[oT];obtain⟨m,hm⟩:∃m,m=dn.filterMap st:=⟨_,rfl⟩
  rw[←hm];obtain⟨ex,hex⟩:∃ex:Heap,ex=[.map (m.map eP),.it cu (([]:List (aG×dB)).map eP)]:=⟨_,rfl⟩
  rw[show zg σ m cu (([]:List (aG×dB)).map eP)=σ++ex from by rw[hex]]
  have hmp:m.Perm (Lx d s b a):=by rw[E4,hm];exact CM.filterMap st
  have hnd:(m.map (·.1)).Nodup:=by rw[hm,hst];exact O2 ((CM.map (·.1)).nodup_iff.2 Hr)
  simp only[bW,jI,bS,show A.ak 0 (bX a)=some (.ah a.time)from rfl];rw[show((((A.cell (AV.ah c)).bind λv=>some [v]).bind λGv=>(A.au 0 Gv [(AV.ah 0),(AV.ah 0),aR]).bind λGw=>((A.cell (AV.ah a.time)).bind λv=>some [v]).bind λGx=>(A.au 1 Gx Gw).bind λMb=>((A.cell aR).bind λv=>some [v]).bind λMc=>(A.au 2 Mc Mb).bind λMd=>some Md).bind λcs=>some (AV.agg cs))=some (.agg [.ah c,.ah a.time,.bool false])from rfl,bS];rw[show A.cells 3 (.agg [.ah c,.ah a.time,.bool false])=some [.ah c,.ah a.time,.bool false]from rfl,bS];have Q8:(σ++ex)[bl]? =some (.arr g 10 (s.aD.map aV)):=by rw[jk hlt];exact h2
  have Kh:(s.aD.map aV)[ib]? =some (aV b):=by rw[qH,hb];rfl
  have hlm:ib<(s.aD.map aV).length:=by simpa using hlb
  have Rb:bl<(σ++ex).length:=by simp;omega
  have chain:∀(o:Nat)(row row' new:aq),A.au o new row=some row'→A.storeAt (.oe bl g ib o) new ((σ++ex).set bl (.arr g 10 ((s.aD.map aV).set ib row)))=some ((σ++ex).set bl (.arr g 10 ((s.aD.map aV).set ib row'))):=by intro o row row' new hsp;rw[LA (W:=(σ++ex).set bl (.arr g 10 ((s.aD.map aV).set ib row))) (rows:=(s.aD.map aV).set ib row) (oK Rb) (oK hlm) hsp,List.set_set,List.set_set]
  obtain⟨rv,XN⟩:∃rv,rv=qy (λx=>AV.agg (aX x)) (λx=>AV.agg (gO x)) b.runs:=⟨_,rfl⟩
  rw[LA (row':=[.ah c,.ah a.time,.bool false,.ah b.aA,.ah b.ku,sl 11 bA b.bU,.ah b.cZ,.ah b.kY,.ah b.eF,rv]) Q8 Kh (by rw[XN];rfl),bS];rw[sE,bS,chain 6 _ (BX c a.time b (-1) b.eF rv) _ rfl,bS];rw[bS,chain 8 _ (BX c a.time b (-1) (-1) rv) _ rfl,bS];rw[show((A.cell (AV.om σ.length)).bind λv=>some [v])=some [.om σ.length]from rfl,bS,chain 9 _ (BX c a.time b (-1) (-1) (.om σ.length)) _ rfl,bS];have hrow:[AV.ah (wK d s b a).aM.shown,.ah (wK d s b a).aM.since,.bool (wK d s b a).aM.mD,.ah (wK d s b a).aA,.ah (wK d s b a).ku,sl 11 bA (wK d s b a).bU,.ah (wK d s b a).cZ,.ah (wK d s b a).kY,.ah (wK d s b a).eF,.om σ.length]=BX c a.time b (-1) (-1) (.om σ.length):=by rw[hc];rfl
  have fin:=Tx (σ:=σ) (ex:=ex) (b':=wK d s b a) (m:=m) (R:=Lx d s b a) h2 hb hcan rfl hmp hnd (by rw[hex];rfl);rw[hrow]at fin;exact fin
 ·refine⟨rfl,[],?_⟩;rw[List.filterMap_nil]
end
section
set_option maxRecDepth 100000
open HP
structure aeh (x : bE) : Prop where
 d:0≤x.cD∧x.cD≤36000000
 u:0≤x.up∧x.up≤36000000
 n:0≤x.down∧x.down≤36000000
 o:0≤x.other∧x.other≤36000000
 f:-1≤x.eF∧x.eF≤36000000
 c:sA x.gP=0
 m:∀m∈x.eB,(0≤m.cD∧m.cD≤36000000)∧(0≤m.time∧m.time≤36000000)
 k:∀m∈x.eB,0≤m.key.unit∧m.key.unit≤1000000
theorem sL{n lo hi:Int}(h:bf n lo hi=true):lo≤n∧n≤hi:=by unfold bf at h;simpa using h
theorem abU{l:List bE}(h:uj l=0){x:bE}(hx:x∈l):aeh x:=by
 unfold uj at h;split at h
 ·cases h
 by_cases h2:j0 (AB l) l 0=0;case neg=>rw[aO h2]at h;exact absurd h h2
 obtain⟨i,hi,e⟩:=List.getElem_of_mem hx;have hc:=(Bv l 0).1 h2 i x (by rw[←e];exact bR hi);unfold AB at hc;split at hc
 ·cases hc
 split at hc
 ·cases hc
 split at hc
 ·cases hc
 split at hc
 ·cases hc
 rename_i h4;split at hc
 ·rename_i h5;exact absurd hc h5
 rename_i h5;split at hc
 ·cases hc
 simp only[Bool.or_eq_true,Bool.not_eq_true',not_or,Bool.not_eq_false]at h4;obtain⟨⟨⟨⟨a1,a2⟩,a3⟩,a4⟩,a5⟩:=h4;refine⟨sL a1,sL a2,sL a3,sL a4,sL a5,Decidable.not_not.1 h5,λm hm=>?_,λm hm=>?_⟩;all_goals obtain⟨j,hj,e⟩:=List.getElem_of_mem hm
 case refine_2=>
  unfold El at hc;have nW:=(Bv x.eB 0).1 hc j m (by rw[←e];exact bR hj);unfold Jy at nW;split at nW
  ·cases nW
  ·rename_i q;simp only[Bool.not_eq_true',Bool.not_eq_false]at q;have:=sL q;omega
 unfold El at hc;have nW:=(Bv x.eB 0).1 hc j m (by rw[←e];exact bR hj);unfold Jy at nW;split at nW
 ·cases nW
 split at nW
 ·cases nW
 split at nW
 ·cases nW
 split at nW
 ·cases nW
 split at nW
 ·cases nW
 split at nW
 ·cases nW
 rename_i h6;simp only[Bool.or_eq_true,Bool.not_eq_true',not_or,Bool.not_eq_false]at h6;exact⟨sL h6.1,sL h6.2⟩
theorem ZQ{P:aG→Prop}:∀{l:List bE}{st:List bD},(∀c∈l,∀m∈c.eB,P m.key)→(∀e∈st,P e.key)→∀e∈l.foldl Ji st,P e.key
 |[],st,_,h=>h
 |c::l,st,hl,h=>by
  refine ZQ (l:=l) (λc' yl=>hl c' (sM _ yl)) ?_
  have key:∀(ms:List gX)(st:List bD),(∀m∈ms,P m.key)→(∀e∈st,P e.key)→∀e∈ms.foldl (yX c.aA) st,P e.key:=by
   intro ms;induction ms with
   |nil=>intro st _ h;exact h
   |cons m ms ih=>
    intro st hm h;refine ih _ (λm' hm'=>hm m' (sM _ hm')) ?_
    have h1:∀e∈(if Ml st m.key=true then st.eraseIdx (qK st m.key)else st),P e.key:=by
     intro e he;split at he
     ·exact h e (List.mem_of_mem_eraseIdx he)
     ·exact h e he
    intro e he;unfold yX at he;simp only at he;split at he
    ·exact h1 e he
    ·rcases jP.1 he with he|he
     ·rcases jP.1 he with he|he
      ·exact h1 e (wC he)
      ·rw[List.mem_singleton.1 he];exact hm m (by simp)
     ·exact h1 e (List.mem_of_mem_drop he)
  exact key c.eB st (hl c (by simp)) h
theorem amw{b:bC}(hf:uj b.bU=0){x:bE}{e:bD}(he:e∈Ai b x):0≤e.key.unit∧e.key.unit≤1000000:=by
 unfold Ai BA at he;split at he
 ·simp at he
 split at he
 ·simp at he
 exact ZQ (P:=λk=>0≤k.unit∧k.unit≤1000000) (λc hc m hm=>(abU hf (wC hc)).k m hm) (by simp) e he
theorem Uv(b:bC)(x:bE):pO (Ai b x)∧(Ai b x).length≤600000000:=by
 unfold Ai BA;split
 ·exact⟨List.Pairwise.nil,by simp⟩
 rename_i hz;split
 ·exact⟨List.Pairwise.nil,by simp⟩
 have hg:=UO (Decidable.not_not.1 hz);have hlen:=hg.len;exact ahY (l:=b.bU.take (nQ b.bU x.aA+1)) (by simp;omega) (λc hc=>(hg.mv c (wC hc)).1)
structure yY (N : Int) (b : bC) : Prop where
 uI:gE Ew b.bU
 eD:uj b.bU=0
 can:Gj b.runs
 runs:∀k r,(k,r)∈b.runs.getD []→uU r.l6∧(0≤k.unit∧k.unit≤1000000)
 kY:0≤b.kY∧b.kY≤65535
 tG:0≤b.aM.shown∧b.aM.shown≤b.aM.since∧b.aM.since≤N
 cZ:-1≤b.cZ∧b.cZ<(b.bU.length:Int)
 EW:b.eF<0∨(b.cZ+1<(b.bU.length:Int)∧eO b.aM N≤b.eF∧b.eF≤72000000)
structure jE (N : Int) (s : cE) : Prop where
 n:0≤N∧N≤36000000
 len:s.aD.length≤40
 bs:∀b∈s.aD,yY N b
 l5:0≤s.l5∧s.l5≤65535
structure sN (d : bJ) : Prop where
 pre:gE Co d.setup.cA
 lev:∀k v,0≤(zY d.setup.cA k v).1∧(zY d.setup.cA k v).1≤65535
 par:∀k,0≤(eR d k).2.1∧(eR d k).2.1≤65535
theorem F5{N t:Int}{b:bC}(h:0≤b.aM.shown∧b.aM.shown≤b.aM.since∧b.aM.since≤N)(h1:N≤t)(h2:t≤36000000):eO b.aM t=(if b.aM.mD=true then b.aM.shown else b.aM.shown+t-b.aM.since)∧0≤eO b.aM t∧eO b.aM t≤t:=by
 obtain⟨a1,a2,a3⟩:=h;unfold eO;split
 ·exact⟨rfl,a1,by omega⟩
 ·rw[show IntKind.i64.wrap (b.aM.shown+t)=b.aM.shown+t from cR (by unfold aU;omega),cR (by unfold aU;omega)];exact⟨rfl,by omega,by omega⟩
theorem yY.ok{N t:Int}{b:bC}(h:yY N b)(h1:N≤t)(h2:t≤36000000):uZ b t:=
 ⟨λk r hr=>(h.runs k r (LQ hr)).1,h.kY,(F5 h.tG h1 h2).2.1⟩
theorem U9{N:Int}{b:bC}(h:yY N b)(hN:N≤36000000):jR b=if b.eF<0∨b.aM.mD=true then -1 else b.aM.since+b.eF-b.aM.shown:=by
 obtain⟨a1,a2,a3⟩:=h.tG;unfold jR;split
 ·rfl
 ·rename_i q;rcases h.EW with h3|⟨h3,h4,h5⟩
  ·exact absurd (.inl h3) q
  ·have:=(F5 h.tG (Int.le_refl N) hN).2;rw[show IntKind.i64.wrap (b.aM.since+b.eF)=b.aM.since+b.eF from cR (by unfold aU;omega),cR (by unfold aU;omega)]
theorem yY.mono{N N':Int}{b:bC}(h:yY N b)(h1:N≤N')(h2:N'≤36000000)(hd:jR b<0∨N'≤jR b):yY N' b:=by
 obtain⟨a1,a2,a3⟩:=h.tG;refine⟨h.uI,h.eD,h.can,h.runs,h.kY,⟨a1,a2,by omega⟩,h.cZ,?_⟩;rcases h.EW with h3|⟨h3,h4,h5⟩
 ·exact .inl h3
 ·by_cases hf:b.eF<0
  ·exact .inl hf
  refine .inr ⟨h3,?_,h5⟩;have e1:=(F5 h.tG (Int.le_refl N) (by omega)).1;have e2:=(F5 (t:=N') h.tG h1 h2).1;have e3:=U9 h (by omega);rw[e2];rw[e1]at h4;by_cases hs:b.aM.mD=true
  ·rw[aO hs]at h4 ⊢;exact h4
  ·rw[aK hs]at h4 ⊢;rw[aK (λq=>q.elim hf hs)]at e3;omega
theorem PF{f:jd}(ha:0≤f.eD∧f.eD≤65535)(hb:0≤f.to∧f.to≤65535)(hs:0≤f.start∧f.start≤36000000)(hd:0≤f.cD∧f.cD≤36000000)(ht:0≤f.time∧f.time≤36000000)(hc:sA f.gP=0):uU (wG f):=by
 have e1:mn f.start 36000000=f.start:=by unfold mn;rw[aK (by omega)]
 have e2:IntKind.i64.wrap (36000000-f.start)=36000000-f.start:=cR (by unfold aU;omega);have e3:0≤mn f.cD (36000000-f.start)∧mn f.cD (36000000-f.start)≤36000000-f.start:=by unfold mn;split<;>omega
 have e4:IntKind.i64.wrap (36000000-f.start-mn f.cD (36000000-f.start))=36000000-f.start-mn f.cD (36000000-f.start):=cR (by unfold aU;omega);have e5:0≤mn f.time (36000000-f.start-mn f.cD (36000000-f.start))∧mn f.time (36000000-f.start-mn f.cD (36000000-f.start))≤36000000-f.start-mn f.cD (36000000-f.start):=by unfold mn;split<;>omega
 unfold wG;rw[e1,e2,e4];exact⟨ha,hb,hs,⟨e3.1,by show mn f.cD _≤_;omega⟩,⟨e5.1,by show mn f.time _≤_;omega⟩,by show f.start+mn f.cD _+mn f.time _≤_;omega,hc⟩
theorem am8{d:bJ}{x:bE}(hx:aeh x)(k:aG){eD to c:Int}(ha:0≤eD∧eD≤65535)(hb:0≤to∧to≤65535)(hc:0≤c∧c≤36000000):uU (Es d x k eD to c):=by
 unfold Es
 have h0:0≤(LB (eR d k).1 x eD to c).time∧(LB (eR d k).1 x eD to c).time≤36000000:=by
  unfold LB;simp only;split
  ·split
   ·exact hx.n
   ·exact hx.u
  ·exact hx.o
 have h1:∃dl tm,P5 x k (LB (eR d k).1 x eD to c)=⟨eD,to,c,dl,tm,x.gP⟩∧(0≤dl∧dl≤36000000)∧0≤tm∧tm≤36000000:=by
  unfold P5;split
  ·exact⟨_,_,rfl,hx.d,h0⟩
  ·rename_i m hm;split
   ·have:=hx.m m (An hm);exact⟨_,_,rfl,this.1,this.2⟩
   ·exact⟨_,_,rfl,hx.d,h0⟩
 obtain⟨dl,tm,e,hd,ht⟩:=h1;rw[e];unfold Jm;split
 ·exact PF ha hb hc hd (by simp) hx.c
 ·exact PF ha hb hc hd ht hx.c
theorem apd{g:Int}{b:bC}{r:dB}(hr:uU r.l6)(hf:0≤b.kY∧b.kY≤65535)(c:Int):0≤JO g b r c∧JO g b r c≤65535:=by
 unfold JO;split
 ·exact aqG (Jq hr c) hf
 ·exact Jq hr c
theorem Vf{d:bJ}(hd:sN d){k:aG}{t:Int}:∀{bs:List bC},(∀b∈bs,uZ b t)→0≤(oV d bs k t).out∧(oV d bs k t).out≤65535:=by
 intro bs hb;unfold oV
 have key:∀(l:List bC)(m:GR),(∀b∈l,uZ b t)→(0≤m.out∧m.out≤65535)→0≤(l.foldl (ue (eR d k).1 k t) m).out∧(l.foldl (ue (eR d k).1 k t) m).out≤65535:=by
  intro l;induction l with
  |nil=>intro m _ h;exact h
  |cons b l ih=>
   intro m hl h;rw[List.foldl_cons];refine ih _ (λb hb=>hl b (by simp [hb])) ?_;have J9:=hl b (by simp);unfold ue;split
   ·exact h
   ·rename_i hq;split
    ·have oA:(fc b k (eO b.aM t)).2=true:=by
      cases h:(fc b k (eO b.aM t)).2
      ·exact absurd (.inl h) hq
      ·rfl
     exact apd (CA J9 oA) J9.kY _
    ·exact h
 exact key bs _ hb (hd.par k)
theorem abF{l:List (aG×dB)}(h:(l.map (·.1)).Nodup):Gj (some (EB l)):=by
 intro l' e;injection e with e
 subst e;exact⟨((TU l).map (·.1)).nodup_iff.2 h,amR l⟩
theorem ZS{N:Int}{b:bC}(h:yY N b):((b.runs.getD []).map (·.1)).Nodup:=by
 cases hr:b.runs with
 |none=>simp
 |some l=>exact(h.can l hr).1
theorem acO{d:bJ}(hd:sN d){s:cE}{N t:Int}(hs:jE N s)(h1:N≤t)(h2:t≤36000000){b:bC}(hb:b∈s.aD){to:Nat}{x:bE}(hx:b.bU[to]? =some x):yY t (mX d s b x (to:Int) t):=by
 have hB:=hs.bs b hb;have hN:=hs.n;have hto:=(bQ.1 hx).1;have Nd:=abU hB.eD (dA hx);obtain⟨c0,c1,c2⟩:=F5 hB.tG h1 h2;have M5:∀b∈s.aD,uZ b t:=λb hb=>(hs.bs b hb).ok h1 h2
 have J9:=M5 b hb;refine⟨hB.uI,hB.eD,abF (go_nodup (Uv b x).1 (ZS hB)),λk r hkr=>?_,hB.kY,⟨c1,c2,Int.le_refl _⟩,⟨by show -1≤(to:Int);omega,by show(to:Int)<_;exact_mod_cast hto⟩,?_⟩
 ·have hm:(k,r)∈F6 d s b x t:=(TU _).mem_iff.1 hkr;unfold F6 at hm;rcases jP.1 hm with hm|hm
  ·obtain⟨e,he,q⟩:=ia.1 hm;injection q with q1 q2
   subst q2;refine⟨?_,by rw[←q1];exact amw hB.eD he⟩;unfold BL;split
   ·rename_i hq;exact CA J9 hq.1
   ·refine am8 Nd _ ?_ (hd.lev _ _) ⟨c1,by omega⟩;unfold JF;split
    ·rename_i hq;exact Jq (CA J9 hq) _
    ·split
     ·exact Vf hd M5
     ·simp
  ·obtain⟨p,hp,q⟩:=List.mem_filterMap.1 hm;obtain⟨r',hr',q⟩:=eG.1 q;injection q with q1 q2
   subst q2;refine⟨?_,by rw[←q1];exact(hB.runs p.1 p.2 hp).2⟩;unfold wk at hr';split at hr'
   ·cases hr'
   ·rename_i hq;injection hr' with hr'
    subst hr'
    have oA:(fc b p.1 (eO b.aM t)).2=true:=by
     cases h:(fc b p.1 (eO b.aM t)).2
     ·exact absurd (.inl h) hq
     ·rfl
    have hfo:=CA J9 oA;split
    ·exact hfo
    ·exact PF (Jq hfo _) (by simp) ⟨c1,by show eO b.aM t≤_;omega⟩ Nd.d Nd.n Nd.c
 ·show(mX d s b x (to:Int) t).eF<0∨_;by_cases hf:0≤x.eF∧(to:Int)+1<(b.bU.length:Int)
  ·have hxf:=Nd.f
   have e:(mX d s b x (to:Int) t).eF=eO b.aM t+x.eF:=by show(if 0≤x.eF∧(to:Int)+1<(b.bU.length:Int)then IntKind.i64.wrap (eO b.aM t+x.eF)else -1)=_;rw[aO hf,cR (by unfold aU;omega)]
   refine .inr ⟨hf.2,?_,by rw[e];omega⟩;rw[e]
   have:eO (mX d s b x (to:Int) t).aM t=eO b.aM t:=by show eO ⟨eO b.aM t,t,false⟩ t=_;generalize eO b.aM t=c at c1 c2;show IntKind.i64.wrap (IntKind.i64.wrap (c+t) -t)=_;rw[show IntKind.i64.wrap (c+t)=c+t from cR (by unfold aU;omega),cR (by unfold aU;omega)];omega
   rw[this];omega
  ·refine .inl ?_;show(if 0≤x.eF∧(to:Int)+1<(b.bU.length:Int)then IntKind.i64.wrap (eO b.aM t+x.eF)else -1)<0;rw[aK hf];decide
def FX(t:Int)(i:Nat)(b:bC)(st:Int×Int):Int×Int:=if 0≤jR b∧jR b≤t∧(st.1<0∨jR b<st.2)then((i:Int),jR b)else st
def sR(t:Int):List bC→Nat→Int×Int→Int×Int
 |[],_,st=>st
 |b::r,i,st=>sR t r (i+1) (FX t i b st)
def LK(t:Int)(pre:List bC)(st:Int×Int):Prop:=(st.1<0∧∀b∈pre,¬(0≤jR b∧jR b≤t))∨∃(j:Nat)(b:bC),pre[j]? =some b∧st=((j:Int),jR b)∧0≤jR b∧jR b≤t∧∀b'∈pre,0≤jR b'→jR b'≤t→jR b≤jR b'
theorem aj5{t:Int}{pre:List bC}{b:bC}{st:Int×Int}(h:LK t pre st):LK t (pre++[b]) (FX t pre.length b st):=by
 unfold FX;by_cases hc:0≤jR b∧jR b≤t∧(st.1<0∨jR b<st.2)
 ·rw[aO hc];refine .inr ⟨pre.length,b,by simp,rfl,hc.1,hc.2.1,λb' hb' q1 q2=>?_⟩;rcases jP.1 hb' with hb'|hb'
  ·rcases h with⟨_,k⟩|⟨j,b0,k1,k2,k3,k4,k5⟩
   ·exact absurd ⟨q1,q2⟩ (k b' hb')
   ·rcases hc.2.2 with q|q
    ·rw[k2]at q;simp only at q;omega
    ·rw[k2]at q;simp only at q;have:=k5 b' hb' q1 q2;omega
  ·simp only[List.mem_singleton]at hb';subst hb';exact Int.le_refl _
 ·rw[aK hc];rcases h with⟨k0,k⟩|⟨j,b0,k1,k2,k3,k4,k5⟩
  ·refine .inl ⟨k0,λb' hb' q=>?_⟩;rcases jP.1 hb' with hb'|hb'
   ·exact k b' hb' q
   ·simp only[List.mem_singleton]at hb';subst hb';exact hc ⟨q.1,q.2,.inl k0⟩
  ·refine .inr ⟨j,b0,?_,k2,k3,k4,λb' hb' q1 q2=>?_⟩
   ·rw[jk (bQ.1 k1).1];exact k1
   ·rcases jP.1 hb' with hb'|hb'
    ·exact k5 b' hb' q1 q2
    ·simp only[List.mem_singleton]at hb';subst hb';by_cases q:jR b'<jR b0
     ·exact absurd ⟨q1,q2,.inr (by rw[k2];exact q)⟩ hc
     ·omega
theorem acG{t:Int}:∀{l pre:List bC}{st:Int×Int},LK t pre st→LK t (pre++l) (sR t l pre.length st)
 |[],pre,st,h=>by rw[List.append_nil];exact h
 |b::l,pre,st,h=>by have:=acG (l:=l) (aj5 (b:=b) h);rw[mm,List.length_append]at this;exact this
noncomputable def qn (d:bJ) (t:Int) (s:cE):Option cE:=
 if(sR t s.aD 0 (-1,0)).1<0 then none
 else(s.aD[(sR t s.aD 0 (-1,0)).1.toNat]?).bind λb=>(b.bU[(b.cZ+1).toNat]?).map λx=>
  {s with aA:=IntKind.i64.wrap (s.aA+1),aD:=s.aD.set (sR t s.aD 0 (-1,0)).1.toNat (mX d {s with aA:=IntKind.i64.wrap (s.aA+1)} b x (b.cZ+1) (sR t s.aD 0 (-1,0)).2)}
noncomputable def rN (d:bJ) (t:Int):Nat→cE→cE
 |0,s=>s
 |n+1,s=>match qn d t s with
  |none=>s
  |some s'=>rN d t n s'
def Qm(b:bC):Nat:=((b.bU.length:Int) -b.cZ).toNat
def xB(l:List bC):Nat:=(l.map Qm).sum
noncomputable def jr (d:bJ) (s:cE) (t:Int):cE:=rN d t (xB s.aD) s
theorem alV{l:List bC}{i:Nat}{b b':bC}(h:l[i]? =some b)(hl:Qm b'<Qm b):xB (l.set i b')<xB l:=by
 unfold xB;induction l generalizing i with
 |nil=>cases h
 |cons y l ih=>
  cases i with
  |zero=>
   injection h with h
   subst h;simp only[List.set_cons_zero,eY,List.sum_cons];omega
  |succ i=>have:=ih (i:=i) h;simp only[List.set_cons_succ,eY,List.sum_cons];omega
theorem Ux{N:Int}{s:cE}(h:jE N s)(n:Int):jE N {s with aA:=n}:=⟨h.n,h.len,h.bs,h.l5⟩
theorem abr{N N':Int}{s:cE}(h:jE N s)(h1:N≤N')(h2:N'≤36000000)(hd:∀b∈s.aD,jR b<0∨N'≤jR b):jE N' s:=
 ⟨⟨by have:=h.n;omega,h2⟩,h.len,λb hb=>(h.bs b hb).mono h1 h2 (hd b hb),h.l5⟩
theorem Pq{N:Int}{s:cE}(h:jE N s)(i:Nat){b:bC}(hb:yY N b)(n:Int):jE N {s with aA:=n,aD:=s.aD.set i b}:=
 ⟨h.n,by show(s.aD.set i b).length≤40;rw[List.length_set];exact h.len,λb' hb'=>by
  rcases List.mem_or_eq_of_mem_set hb' with q|q
  ·exact h.bs b' q
  ·rw[q];exact hb,h.l5⟩
theorem Lu{d:bJ}(hd:sN d){s:cE}{N t:Int}(hs:jE N s)(h1:N≤t)(h2:t≤36000000):
  ((sR t s.aD 0 (-1,0)).1<0∧qn d t s=none∧jE t s)∨
  ∃(f:Nat)(b:bC)(x:bE)(to:Nat)(tm:Int),sR t s.aD 0 (-1,0)=((f:Int),tm)∧s.aD[f]? =some b∧b.cZ+1=(to:Int)∧b.bU[to]? =some x∧N≤tm∧tm≤t∧(∀b∈s.aD,yY tm b)∧jE tm {s with aA:=IntKind.i64.wrap (s.aA+1)}∧
   qn d t s=some {s with aA:=IntKind.i64.wrap (s.aA+1),aD:=s.aD.set f (mX d {s with aA:=IntKind.i64.wrap (s.aA+1)} b x (to:Int) tm)}∧
   jE tm {s with aA:=IntKind.i64.wrap (s.aA+1),aD:=s.aD.set f (mX d {s with aA:=IntKind.i64.wrap (s.aA+1)} b x (to:Int) tm)}∧
   xB (s.aD.set f (mX d {s with aA:=IntKind.i64.wrap (s.aA+1)} b x (to:Int) tm))<xB s.aD:=by
 have hD:LK t s.aD (sR t s.aD 0 (-1,0)):=by have:=acG (t:=t) (l:=s.aD) (pre:=[]) (st:=(-1,0)) (.inl ⟨by decide,by simp⟩);simpa using this
 have hmin:∀b∈s.aD,jR b<0∨N≤jR b:=by
  intro b hb;have hB:=hs.bs b hb;rw[U9 hB hs.n.2];split
  ·exact .inl (by decide)
  ·rename_i q;right;rcases hB.EW with h3|⟨h3,h4,h5⟩
   ·exact absurd (.inl h3) q
   ·rw[(F5 hB.tG (Int.le_refl N) hs.n.2).1,aK (λz=>q (.inr z))]at h4;omega
 rcases hD with⟨k0,k⟩|⟨f,b,k1,k2,k3,k4,k5⟩
 ·refine .inl ⟨k0,?_,abr hs h1 h2 λb hb=>?_⟩
  ·unfold qn;rw[aO k0]
  ·have:=k b hb;omega
 ·have zz:=dA k1;have hB:=hs.bs b zz;have hN:=hs.n;have oz:N≤jR b:=by rcases hmin b zz with q|q<;>omega
  have EH:¬(b.eF<0∨b.aM.mD=true):=by intro q;have e:=U9 hB hN.2;rw[aO q]at e;omega
  have Q5:b.cZ+1<(b.bU.length:Int):=by
   rcases hB.EW with h3|⟨h3,_⟩
   ·exact absurd (.inl h3) EH
   ·exact h3
  have hc1:=hB.cZ;have hto:(b.cZ+1).toNat<b.bU.length:=by omega
  have hx:b.bU[(b.cZ+1).toNat]? =some b.bU[(b.cZ+1).toNat]:=bR hto
  have hmono:jE (jR b) {s with aA:=IntKind.i64.wrap (s.aA+1)}:=Ux (abr hs oz (by omega) λb' hb'=>by
   rcases hmin b' hb' with q|q
   ·exact .inl q
   ·by_cases q2:jR b'≤t
    ·exact .inr (k5 b' hb' (by omega) q2)
    ·exact .inr (by omega)) _
  have hci:((b.cZ+1).toNat:Int)=b.cZ+1:=by omega
  refine .inr ⟨f,b,b.bU[(b.cZ+1).toNat],(b.cZ+1).toNat,jR b,k2,k1,hci.symm,hx,oz,k4,hmono.bs,hmono,?_,?_,alV k1 ?_⟩
  ·unfold qn;rw[k2];simp only;rw[aK (by omega),Int.toNat_natCast,k1,aY,hx,cC,hci]
  ·exact Pq (s:={s with aA:=IntKind.i64.wrap (s.aA+1)}) hmono f (acO hd hmono (Int.le_refl _) (by omega) zz hx) _
  ·unfold Qm;show((b.bU.length:Int) -(((b.cZ+1).toNat:Nat):Int)).toNat<_;omega
theorem ZO{d:bJ}(hd:sN d){t:Int}(h2:t≤36000000):∀(n:Nat){s:cE}{N:Int},jE N s→N≤t→xB s.aD≤n→jE t (rN d t n s)
 |0,s,N,hs,h1,hn=>by
  rcases Lu hd hs h1 h2 with⟨_,_,h⟩|⟨f,b,x,to,tm,_,_,_,_,_,_,_,_,_,_,hl⟩
  ·exact h
  ·omega
 |n+1,s,N,hs,h1,hn=>by
  unfold rN;rcases Lu hd hs h1 h2 with⟨_,e,h⟩|⟨f,b,x,to,tm,_,_,_,_,_,k,_,_,e,h,hl⟩
  ·rw[e];exact h
  ·rw[e];exact ZO hd h2 n h k (by show xB (s.aD.set f _)≤n;omega)
theorem OR{d:bJ}(hd:sN d){s:cE}{N t:Int}(hs:jE N s)(h1:N≤t)(h2:t≤36000000):jE t (jr d s t):=ZO hd h2 _ hs h1 (aQ _)
end
section
set_option maxRecDepth 100000
open HP
theorem anA{W:Heap}{bl g i:Nat}{l:List bC}{b:bC}(h:W[bl]? =some (.arr g 10 (l.map aV)))(hb:l[i]? =some b)(sh:Sh):Lt W sh (.oe bl g i 0) (.rp (aV b)):=by
 refine⟨⟨.rp (aV b),?_,rfl,rfl⟩,rfl,λh=>by cases h⟩;have e:(l.map aV)[i]? =some (aV b):=by rw[qH,hb];rfl
 have q:=FK b W 0 7;simp only[A.bM,Nat.not_lt_zero,if_false,h,if_true,e,List.drop_zero,PI,q,cC]
theorem aq6{W:Heap}{bl g i:Nat}{l:List bC}{b:bC}(h:W[bl]? =some (.arr g 10 (l.map aV)))(hb:l[i]? =some b):DQ [.oe bl g i 0] W=some (.ah (jR b),W):=
 EN (dX:=[.oe bl g i 0]) (ts:=[.rp (aV b)]) ⟨anA h hb _,trivial⟩ (λσ=>aq7 b σ) rfl
theorem VB{bl g n i:Nat}(h:i<n):A.bh 10 (.os bl g 10 0 n) (.ah (i:Int))=some (.oe bl g i 0):=by
 have:((i:Int)<(n:Int)):=by omega
 simp [A.bh,A.idx,this]
theorem am5{W:Heap}{L bl g:Nat}{s:cE}{t:Int}(h1:W[L]? =some (.box (bI (.os bl g 10 0 s.aD.length) s)))(h2:W[bl]? =some (.arr g 10 (s.aD.map aV))){i:Nat}{b:bC}(hb:s.aD[i]? =some b)(hs:s.aD.length≤bu)(u:AV)(st:Int×Int):((λv21 vU=>
     (A.lss (aj v21 3) (AV.ah (s.aD.length:Int))).bind λx24=>
     A.cond x24 (
      (A.aF 0 (AV.op L 0)).bind λx25=>
      ((A.deref x25 vU).bind λgK=>A.ak 0 gK).bind λeE=>
      (A.bh 10 eE (aj v21 3)).bind λx28=>
      (DQ [x28] vU).bind λgR=>
      (A.geq gR.1 (AV.ah 0)).bind λdF=>
      (A.guard dF true (some gR.1) ay).bind λx31=>
      (A.guard dF true (some (AV.ah t)) ay).bind λx32=>
      (A.guard dF true (A.leq x31 x32) ay).bind λgu=>
      (A.pick dF gu aR).bind λx34=>
      (A.guard x34 true (some (aj v21 1)) ay).bind λiY=>
      (A.guard x34 true (A.lss iY (AV.ah 0)) ay).bind λiK=>
      (A.guard x34 true (some iK) ay).bind λcU=>
      (A.guard cU false (some gR.1) ay).bind λx38=>
      (A.guard cU false (some (aj v21 2)) ay).bind λgH=>
      (A.guard cU false (A.lss x38 gH) ay).bind λeA=>
      (A.guard x34 true (A.pick cU dD eA) ay).bind λfF=>
      (A.pick x34 fF aR).bind λi6=>
      (A.cond i6 (
       some ([(aj v21 0),(aj v21 3),gR.1],gR.2)) (
       some ([(aj v21 0),(aj v21 1),(aj v21 2)],gR.2))).bind λkI=>
      (A.add (aj v21 3) (AV.ah 1)).bind λgA=>
      some (AX.normal,[(aj kI.1 0),(aj kI.1 1),(aj kI.1 2),gA],kI.2)) (
      some (AX.exit 2,[(aj v21 0),(aj v21 1),(aj v21 2),(aj v21 3)],vU)))) [u,.ah st.1,.ah st.2,.ah (i:Int)] W=some (.normal,[u,.ah (FX t i b st).1,.ah (FX t i b st).2,.ah ((i+1:Nat):Int)],W):=by
 have hi:=(bQ.1 hb).1;simp only[bW,cQ];rw[lF hb,bS,dO,show A.aF 0 (.op L 0)=some (.op L 0)from rfl,bS,show((A.deref (.op L 0) W).bind λc=>A.ak 0 c)=some (.os bl g 10 0 s.aD.length)from by simp only[A.deref,h1];rfl,bS,VB hi,bS,aq6 h2 hb,bS,vi,bS];unfold FX;by_cases c1:0≤jR b
 case neg=>
  rw[bZ c1,aK (λq=>c1 q.1)];simp only[wO,gU,bS,mZ,cF,bW,cQ];rw[iF hb hs,bS]
 rw[ct c1];simp only[gT,bS,QA,mM];by_cases c2:jR b≤t
 case neg=>
  rw[bZ c2,aK (λq=>c2 q.2.1)];simp only[wO,gU,bS,mZ,cF,bW,cQ];rw[iF hb hs,bS]
 rw[ct c2];simp only[gT,bS,mU,mM];by_cases c3:st.1<0
 ·rw[ct c3,aO ⟨c1,c2,.inl c3⟩];simp only[A0,gU,bS,mM,cT,bW,cQ];rw[iF hb hs,bS]
 rw[bZ c3];simp only[gF,bS,mU,mZ];by_cases c4:jR b<st.2
 ·rw[ct c4,aO ⟨c1,c2,.inr c4⟩];simp only[cT,bS,bW,cQ];rw[iF hb hs,bS]
 ·rw[bZ c4,aK (λq=>q.2.2.elim c3 c4)];simp only[cF,bS,bW,cQ];rw[iF hb hs,bS]
theorem am4{W:Heap}{L bl g:Nat}{s:cE}{t:Int}(h1:W[L]? =some (.box (bI (.os bl g 10 0 s.aD.length) s)))(h2:W[bl]? =some (.arr g 10 (s.aD.map aV)))(hs:s.aD.length≤bu)(u:AV):A.loop ((λv21 vU=>
     (A.lss (aj v21 3) (AV.ah (s.aD.length:Int))).bind λx24=>
     A.cond x24 (
      (A.aF 0 (AV.op L 0)).bind λx25=>
      ((A.deref x25 vU).bind λgK=>A.ak 0 gK).bind λeE=>
      (A.bh 10 eE (aj v21 3)).bind λx28=>
      (DQ [x28] vU).bind λgR=>
      (A.geq gR.1 (AV.ah 0)).bind λdF=>
      (A.guard dF true (some gR.1) ay).bind λx31=>
      (A.guard dF true (some (AV.ah t)) ay).bind λx32=>
      (A.guard dF true (A.leq x31 x32) ay).bind λgu=>
      (A.pick dF gu aR).bind λx34=>
      (A.guard x34 true (some (aj v21 1)) ay).bind λiY=>
      (A.guard x34 true (A.lss iY (AV.ah 0)) ay).bind λiK=>
      (A.guard x34 true (some iK) ay).bind λcU=>
      (A.guard cU false (some gR.1) ay).bind λx38=>
      (A.guard cU false (some (aj v21 2)) ay).bind λgH=>
      (A.guard cU false (A.lss x38 gH) ay).bind λeA=>
      (A.guard x34 true (A.pick cU dD eA) ay).bind λfF=>
      (A.pick x34 fF aR).bind λi6=>
      (A.cond i6 (
       some ([(aj v21 0),(aj v21 3),gR.1],gR.2)) (
       some ([(aj v21 0),(aj v21 1),(aj v21 2)],gR.2))).bind λkI=>
      (A.add (aj v21 3) (AV.ah 1)).bind λgA=>
      some (AX.normal,[(aj kI.1 0),(aj kI.1 1),(aj kI.1 2),gA],kI.2)) (
      some (AX.exit 2,[(aj v21 0),(aj v21 1),(aj v21 2),(aj v21 3)],vU)))) [u,.ah (-1),.ah 0,.ah 0] W=some (.exit 2,[u,.ah (sR t s.aD 0 (-1,0)).1,.ah (sR t s.aD 0 (-1,0)).2,.ah (s.aD.length:Int)],W):=by
 refine Du (pE (Q:=λq=>q=(.exit 2,[u,.ah (sR t s.aD 0 (-1,0)).1,.ah (sR t s.aD 0 (-1,0)).2,.ah (s.aD.length:Int)],W)) (λz v w=>∃(i:Nat)(st:Int×Int),i≤s.aD.length∧v=[u,.ah st.1,.ah st.2,.ah (i:Int)]∧w=W∧z=s.aD.length-i∧sR t (s.aD.drop i) i st=sR t s.aD 0 (-1,0)) ?_ (n:=s.aD.length) ⟨0,(-1,0),jQ _,rfl,rfl,rfl,rfl⟩);rintro z v w ⟨i,st,hi,rfl,rfl,hz,hT⟩;by_cases h:i<s.aD.length
 ·have hb:s.aD[i]? =some s.aD[i]:=bR h;refine .inl ⟨s.aD.length-(i+1),_,_,by omega,am5 h1 h2 hb hs u st,i+1,FX t i s.aD[i] st,h,rfl,rfl,rfl,?_⟩;rw[List.drop_eq_getElem_cons h]at hT;exact hT
 ·have:i=s.aD.length:=by omega
  subst this;rw[List.drop_length]at hT;rw[←hT];refine .inr ⟨_,?_,by simp,rfl⟩;simp only[bW,cQ];rw[lR,bS,dw];rfl
abbrev tj(σ:Heap)(g:Nat)(s:cE):Heap:=σ++[.box (bI (.os (σ.length+1) g 10 0 s.aD.length) s),.arr g 10 (s.aD.map aV)]
theorem aex(σ:Heap)(g:Nat)(s:cE):(tj σ g s)[σ.length]? =some (.box (bI (.os (σ.length+1) g 10 0 s.aD.length) s)):=by rw[jj (aQ _),Nat.sub_self];rfl
theorem Qd(σ:Heap)(g:Nat)(s:cE):(tj σ g s)[σ.length+1]? =some (.arr g 10 (s.aD.map aV)):=by rw[jj (by omega),show σ.length+1-σ.length=1 by omega];rfl
theorem adu(σ:Heap)(b0 b1 b:aS):(σ++[b0,b1]).set σ.length b=σ++[b,b1]:=by rw[rR _ _ (aQ _),Nat.sub_self];rfl
theorem ap3(σ:Heap)(b0 b1 b:aS):(σ++[b0,b1]).set (σ.length+1) b=σ++[b0,b]:=by rw[rR _ _ (by omega),show σ.length+1-σ.length=1 by omega];rfl
theorem vE.ext{p:AV}{d:bJ}{σ:Heap}(h:vE p d σ)(ex:Heap):vE p d (σ++ex):=by obtain⟨q1,q2,f1,f2,f3⟩:=h.f2;obtain⟨Kj,pm,g1,g2⟩:=h.f10;exact⟨h.nc,⟨q1,q2,f1,f2,λex'=>by rw[mm];exact f3 _⟩,⟨Kj,pm,g1,λex'=>by rw[mm];exact g2 _⟩,λex'=>by rw[mm];exact h.lt _⟩
def VM(W:Heap)(v:AV)(l:List bC):Prop:=(l=[]∧(v=.az∨v=.ez))∨∃id g,v=.os id g 10 0 l.length∧W[id]? =some (.arr g 10 (l.map aV))
abbrev wM:aq:=[AV.az,(AV.ah 0),(AV.ah 0),aR]
theorem ajT{d:bJ}(hI:sN d){σ:Heap}{pd:AV}(hd:vE pd d σ){t:Int}(h2:t≤36000000){s:cE}{N:Int}(hs:jE N s)(h1:N≤t)(g:Nat):A.loop ((λX9 DG=>
   (A.aF 0 (AV.op σ.length 0)).bind λdQ=>
   ((A.deref dQ DG).bind λkn=>A.ak 0 kn).bind λey=>
   (A.bY ey).bind λeC=>
   (A.loop (λv21 vU=>
     (A.lss (aj v21 3) eC).bind λx24=>
     A.cond x24 (
      (A.aF 0 (AV.op σ.length 0)).bind λx25=>
      ((A.deref x25 vU).bind λgK=>A.ak 0 gK).bind λeE=>
      (A.bh 10 eE (aj v21 3)).bind λx28=>
      (DQ [x28] vU).bind λgR=>
      (A.geq gR.1 (AV.ah 0)).bind λdF=>
      (A.guard dF true (some gR.1) ay).bind λx31=>
      (A.guard dF true (some (AV.ah t)) ay).bind λx32=>
      (A.guard dF true (A.leq x31 x32) ay).bind λgu=>
      (A.pick dF gu aR).bind λx34=>
      (A.guard x34 true (some (aj v21 1)) ay).bind λiY=>
      (A.guard x34 true (A.lss iY (AV.ah 0)) ay).bind λiK=>
      (A.guard x34 true (some iK) ay).bind λcU=>
      (A.guard cU false (some gR.1) ay).bind λx38=>
      (A.guard cU false (some (aj v21 2)) ay).bind λgH=>
      (A.guard cU false (A.lss x38 gH) ay).bind λeA=>
      (A.guard x34 true (A.pick cU dD eA) ay).bind λfF=>
      (A.pick x34 fF aR).bind λi6=>
      (A.cond i6 (
       some ([(aj v21 0),(aj v21 3),gR.1],gR.2)) (
       some ([(aj v21 0),(aj v21 1),(aj v21 2)],gR.2))).bind λkI=>
      (A.add (aj v21 3) (AV.ah 1)).bind λgA=>
      some (AX.normal,[(aj kI.1 0),(aj kI.1 1),(aj kI.1 2),gA],kI.2)) (
      some (AX.exit 2,[(aj v21 0),(aj v21 1),(aj v21 2),(aj v21 3)],vU))) [(aj X9 0),(AV.ah (-1)),(AV.ah 0),(AV.ah 0)] DG).bind λoC=>
   bif oC.1==AX.exit 2 then(
    (A.lss (aj oC.2.1 1) (AV.ah 0)).bind λiz=>
    A.cond iz (
     ((A.deref (AV.op σ.length 0) oC.2.2).bind λjH=>A.aC 0 4 jH).bind λjo=>
     (A.lb (aj oC.2.1 0)).bind λAW=>
     (A.cells 4 jo).bind λDm=>
     (A.au 0 Dm AW).bind λqS=>
     some (AX.ret,[(AV.lbx qS)],oC.2.2)) (
     (A.aF 1 (AV.op σ.length 0)).bind λfP=>
     ((A.deref fP oC.2.2).bind λqT=>A.ak 0 qT).bind λiR=>
     (A.add iR (AV.ah 1)).bind λmC=>
     (A.aF 1 (AV.op σ.length 0)).bind λgV=>
     ((A.cell mC).bind λv=>some [v]).bind λkQ=>
     (A.storeAt gV kQ oC.2.2).bind λkG=>
     (A.aF 0 (AV.op σ.length 0)).bind λgb=>
     ((A.deref gb kG).bind λDn=>A.ak 0 Dn).bind λkJ=>
     (A.bh 10 kJ (aj oC.2.1 1)).bind λfL=>
     (A.aF 6 fL).bind λgL=>
     ((A.deref gL kG).bind λtD=>A.ak 0 tD).bind λkV=>
     (A.add kV (AV.ah 1)).bind λjc=>
     (vZ [pd,(AV.op σ.length 0),(aj oC.2.1 1),jc,(aj oC.2.1 2)] kG).bind λgG=>
     some (AX.normal,[(aj oC.2.1 0)],gG.2)))else
   none)) [.lbx wM] (tj σ g s)=some (.ret,[.lbx (bI (.os (σ.length+1) g 10 0 (jr d s t).aD.length) (jr d s t))],tj σ g (jr d s t)):=by
 obtain⟨fs,hfs⟩:∃fs,fs=jr d s t:=⟨_,rfl⟩
 rw[←hfs];refine Du (pE (Q:=λq=>q=(.ret,[.lbx (bI (.os (σ.length+1) g 10 0 fs.aD.length) fs)],tj σ g fs)) (λz v w=>∃(s:cE)(N:Int),jE N s∧N≤t∧v=[.lbx wM]∧w=tj σ g s∧xB s.aD≤z∧rN d t z s=fs) ?_ (n:=xB s.aD) ⟨s,N,hs,h1,rfl,rfl,aQ _,hfs.symm⟩);rintro z v w ⟨s,N,hs,h1,rfl,rfl,hz,hF⟩;have oB:s.aD.length≤bu:=by have:=hs.len;unfold bu;omega
 have A1:=aex σ g s;have A2:=Qd σ g s;have rdS:((A.deref (.op σ.length 0) (tj σ g s)).bind λc=>A.ak 0 c)=some (.os (σ.length+1) g 10 0 s.aD.length):=by simp only[A.deref,A1];rfl
 have Nt:((A.deref (.op σ.length 0) (tj σ g s)).bind λc=>A.aC 0 4 c)=some (.agg (bI (.os (σ.length+1) g 10 0 s.aD.length) s)):=by simp only[A.deref,A1];rfl
 have Ce:((A.deref (.op σ.length 1) (tj σ g s)).bind λc=>A.ak 0 c)=some (.ah s.aA):=by simp only[A.deref,A1];rfl
 have L1:=am4 (t:=t) A1 A2 oB (.lbx wM);rcases Lu hI hs h1 h2 with⟨k0,k1,k2⟩|⟨f,b,x,to,tm,e1,e2,e3,e4,e5,e6,e7,e8,e9,mK,e11⟩
 ·have AG:s=fs:=by
   cases z with
   |zero=>exact hF
   |succ z=>unfold rN at hF;rw[k1]at hF;exact hF
  refine .inr ⟨_,?_,by simp,rfl⟩;rw[←AG];rw[show A.aF 0 (.op σ.length 0)=some (.op σ.length 0)from rfl,bS,rdS,bS,show A.bY (.os (σ.length+1) g 10 0 s.aD.length)=some (.ah (s.aD.length:Int))from rfl,bS];refine(congrArg (λz=>Option.bind z _) L1).trans ?_;rw[bS];simp only[oT,bW,cQ];rw[mU,bS,ct k0,dO,Nt,bS,jI,bS];rfl
 ·have fZ:0<z:=by omega
  obtain⟨z',rfl⟩:∃z',z=z'+1:=⟨z-1,by omega⟩
  unfold rN at hF;rw[e9]at hF;refine .inl ⟨z',_,_,by omega,?_,_,tm,mK,e6,rfl,rfl,?_,hF⟩
  ·rw[show A.aF 0 (.op σ.length 0)=some (.op σ.length 0)from rfl,bS,rdS,bS,show A.bY (.os (σ.length+1) g 10 0 s.aD.length)=some (.ah (s.aD.length:Int))from rfl,bS];refine(congrArg (λz=>Option.bind z _) L1).trans ?_;rw[bS,e1];simp only[oT,bW,cQ];rw[mU,bS,bZ (by omega),dw,show A.aF 1 (.op σ.length 0)=some (.op σ.length 1)from rfl,bS,Ce,bS,nv,bS];simp only[bS,sE]
   have hst:A.storeAt (.op σ.length 1) [.ah (IntKind.i64.wrap (s.aA+1))] (tj σ g s)=some (tj σ g {s with aA:=IntKind.i64.wrap (s.aA+1)}):=by simp only[A.storeAt,A1];rw[show A.au 1 [.ah (IntKind.i64.wrap (s.aA+1))] (bI (.os (σ.length+1) g 10 0 s.aD.length) s)=some (bI (.os (σ.length+1) g 10 0 s.aD.length) {s with aA:=IntKind.i64.wrap (s.aA+1)})from rfl,cC,adu]
   rw[hst,bS];obtain⟨s1,hs1⟩:∃s1:cE,s1={s with aA:=IntKind.i64.wrap (s.aA+1)}:=⟨_,rfl⟩
   have JL:s1.aD=s.aD:=by rw[hs1]
   rw[←hs1]at e8 mK ⊢;have B1:=aex σ g s1;have B2:=Qd σ g s1;have hfl:=(bQ.1 e2).1;rw[show((A.deref (.op σ.length 0) (tj σ g s1)).bind λc=>A.ak 0 c)=some (.os (σ.length+1) g 10 0 s1.aD.length)from by simp only[A.deref,B1];rfl,bS,VB (by rw[JL];exact hfl),bS,show A.aF 6 (.oe (σ.length+1) g f 0)=some (.oe (σ.length+1) g f 6)from by simp [A.aF],bS]
   rw[show((A.deref (.oe (σ.length+1) g f 6) (tj σ g s1)).bind λc=>A.ak 0 c)=some (.ah b.cZ)from by
    simp only[A.deref,B2,if_true,qH,JL,e2,cC];rfl,bS,nv,bS]
   have hB:=e7 b (dA e2);have iq:=(bQ.1 e4).1;have Hl:b.bU.length≤bu:=hB.uI.1;rw[show IntKind.i64.wrap (b.cZ+1)=(to:Int)from by rw[e3];exact cR (by unfold aU;unfold bu at Hl;omega)];have yq:=Uv b x;have hgo:=adI (d:=d) (s:=s1) (σ:=tj σ g s1) (pd:=pd) (ids:=σ.length) (bl:=σ.length+1) (g:=g) (ib:=f) (to:=to) (b:=b) (x:=x) (t:=tm) (hd.ext _) B1 B2 (by rw[JL];exact e2) e4 (by rw[JL];exact oB) (by rw[JL];exact λb hb=>(e7 b hb).ok (Int.le_refl _) (by omega)) hI.pre hB.uI yq.1 (by have:=yq.2;unfold bu;omega) (by rw[JL];exact λb hb=>(e7 b hb).can);rw[hgo,bS,ap3];simp only[hs1,tj,bI,List.length_set]
  ·exact Nat.le_of_lt_succ (vf e11 hz)
def Jt(σ:Heap)(s:cE)(v:AV)(H:Heap):Prop:=(s.aD=[]∧v=.ez∧H=σ++[.box (bI v s)])∨∃g,v=.os (σ.length+1) g 10 0 s.aD.length∧H=tj σ g s
theorem Jt.ex{σ H:Heap}{s:cE}{v:AV}(h:Jt σ s v H):(∃ex,H=σ++ex)∧VM H v s.aD:=by
 rcases h with⟨h1,h2,h3⟩|⟨g,h1,h2⟩
 ·exact⟨⟨_,h3⟩,.inl ⟨h1,.inr h2⟩⟩
 ·exact⟨⟨_,h2⟩,.inr ⟨_,g,h1,by rw[h2];exact Qd σ g s⟩⟩
theorem acD{d:bJ}(hI:sN d){σ:Heap}{pd v0:AV}(hd:vE pd d σ){t:Int}(h2:t≤36000000){N:Int}(hs:jE N d.state)(h1:N≤t)(h0:∃q,A.aF 0 pd=some q∧((A.deref q σ).bind λc=>A.aC 0 4 c)=some (.agg (bI v0 d.state))) (hv:VM σ v0 d.state.aD):
  ∃v H,Is [pd,.ah t] σ=some (.agg (bI v (jr d d.state t)),H)∧Jt σ (jr d d.state t) v H:=by
 have aqN:∀{r:AV→AV→Heap→aH}{x y v:AV}{σ σ':Heap},r x y σ=some (v,σ')→A.wrap false [] .k (A.dL r) [x,y] σ=some (v,σ'):=by intro r x y v σ σ' e;have:A.dL r [x,y] σ=some (v,σ'):=e;simp only[A.wrap,Bool.false_and,bG,A.dr,this,cC,kF]
 suffices h:∃v H,Ob pd (.ah t) σ=some (.agg (bI v (jr d d.state t)),H)∧Jt σ (jr d d.state t) v H by obtain⟨v,H,e,h⟩:=h;exact⟨v,H,aqN e,h⟩
 obtain⟨s,hst⟩:∃s,s=d.state:=⟨_,rfl⟩
 rw[←hst]at hs h0 hv ⊢;obtain⟨q,f1,f2⟩:=h0;unfold Ob;rw[hd.nc,bS,f1,bS,f2,bS,show A.cells 4 (.agg (bI v0 s))=some (bI v0 s)from rfl,bS];have G0:(σ++[aS.box wM])[σ.length]? =some (.box wM):=by rw[jj (aQ _),Nat.sub_self];rfl
 have S0:A.storeAt (.op σ.length 0) (bI v0 s) (σ++[aS.box wM])=some (σ++[aS.box (bI v0 s)]):=by simp only[A.storeAt,G0];rw[show A.au 0 (bI v0 s) wM=some (bI v0 s)from rfl,cC,rR _ _ (aQ _),Nat.sub_self];rfl
 rw[S0,bS,show A.aF 0 (.op σ.length 0)=some (.op σ.length 0)from rfl,bS];have hcell:A.cell v0=some v0:=by rcases hv with⟨_,h|h⟩|⟨id,g,h,_⟩<;>rw[h]<;>rfl
 have G1:(σ++[aS.box (bI v0 s)])[σ.length]? =some (.box (bI v0 s)):=by rw[jj (aQ _),Nat.sub_self];rfl
 rw[show((A.deref (.op σ.length 0) (σ++[aS.box (bI v0 s)])).bind λc=>A.ak 0 c)=some v0 from by simp only[A.deref,G1,List.drop_zero,aY,A.ak,bI,List.getElem?_cons_zero,hcell],bS];by_cases hb:s.aD=[]
 ·have hz:Ij [v0] (σ++[aS.box (bI v0 s)])=some (.ez,σ++[aS.box (bI v0 s)]):=by
   rcases hv with⟨_,h|h⟩|⟨id,g,h,_⟩
   ·rw[h];rfl
   ·rw[h];rfl
   ·rw[h,hb];rfl
  rw[hz,bS];simp only[bS]
  have S1:A.storeAt (.op σ.length 0) [.ez] (σ++[aS.box (bI v0 s)])=some (σ++[aS.box (bI .ez s)]):=by simp only[A.storeAt,G1];rw[show A.au 0 [.ez] (bI v0 s)=some (bI .ez s)from rfl,cC,rR _ _ (aQ _),Nat.sub_self];rfl
  rw[show((A.cell AV.ez).bind λv=>some [v])=some [.ez]from rfl,bS,S1,bS]
  have hF:jr d s t=s:=by unfold jr;rw[hb];rfl
  have G2:(σ++[aS.box (bI .ez s)])[σ.length]? =some (.box (bI .ez s)):=by rw[jj (aQ _),Nat.sub_self];rfl
  refine⟨.ez,σ++[aS.box (bI .ez s)],?_,.inl ⟨by rw[hF];exact hb,rfl,by rw[hF]⟩⟩;rw[hF];refine Du (Jo (pE (Q:=λq=>q=(.ret,[.lbx (bI .ez s)],σ++[aS.box (bI .ez s)])) (λz v w=>v=[.lbx wM]∧w=σ++[aS.box (bI .ez s)]) ?_ (n:=0) ⟨rfl,rfl⟩) ?_)
  ·rintro z v w ⟨rfl,rfl⟩;refine .inr ⟨_,?_,by simp,rfl⟩;rw[show((A.deref (.op σ.length 0) (σ++[aS.box (bI .ez s)])).bind λc=>A.ak 0 c)=some .ez from by simp only[A.deref,G2];rfl,bS,show A.bY .ez=some (.ah 0)from rfl,bS];refine Du (Jo (pE (Q:=λq=>q=(.exit 2,[.lbx wM,.ah (-1),.ah 0,.ah 0],σ++[aS.box (bI .ez s)])) (λz v w=>v=[.lbx wM,.ah (-1),.ah 0,.ah 0]∧w=σ++[aS.box (bI .ez s)]) ?_ (n:=0) ⟨rfl,rfl⟩) ?_)
   ·rintro z v w ⟨rfl,rfl⟩;exact .inr ⟨_,rfl,by simp,rfl⟩
   ·rintro q rfl;simp only[oT,bW,cQ];rw[mU,bS,ct (by decide),dO,show((A.deref (.op σ.length 0) (σ++[aS.box (bI .ez s)])).bind λc=>A.aC 0 4 c)=some (.agg (bI .ez s))from by simp only[A.deref,G2];rfl,bS,jI,bS];exact⟨_,rfl,rfl⟩
  ·rintro q rfl;exact⟨_,rfl,rfl⟩
 ·rcases hv with⟨h,_⟩|⟨id,g,hv,hg⟩
  ·exact absurd h hb
  obtain⟨n,hn⟩:∃n,s.aD.length=n+1:=by
   cases h:s.aD with
   |nil=>exact absurd h hb
   |cons b l=>exact⟨l.length,rfl⟩
  have ae9:=(bQ.1 hg).1;have hlen:=hs.len;have G2:(σ++[aS.box (bI v0 s)])[id]? =some (.arr g 10 (s.aD.map aV)):=by rw[jk ae9];exact hg
  have hz:Ij [v0] (σ++[aS.box (bI v0 s)])=some (.os (σ.length+1) s.aD.length 10 0 s.aD.length,(σ++[aS.box (bI v0 s)])++[.arr s.aD.length 10 (s.aD.map aV)]):=by
   have e0:Ij [v0] (σ++[aS.box (bI v0 s)])=A.wrap false [] .k (A.dP Ik) [v0] (σ++[aS.box (bI v0 s)]):=by rw[hv,hn];rfl
   rw[e0]
   have e1:A.dP Ik [v0] (σ++[aS.box (bI v0 s)])=some (.os (σ.length+1) s.aD.length 10 0 s.aD.length,(σ++[aS.box (bI v0 s)])++[.arr s.aD.length 10 (s.aD.map aV)]):=by
    show Ik v0 (σ++[aS.box (bI v0 s)])=_;unfold Ik;rw[show A.tH v0 .az=some (.bool false)from by rw[hv];rfl,bS,dw]
    have hel:A.elems 10 v0 (σ++[aS.box (bI v0 s)])=some (s.aD.map aV):=by rw[hv]at G2 ⊢;simp only[A.elems];rw[G2];simp [rS]
    have hne:s.aD.map aV≠[]:=by simpa using hb
    have hap:A.append 10 (140737488355328 / 96) .ez v0 (σ++[aS.box (bI v0 s)])=some (.os (σ.length+1) s.aD.length 10 0 s.aD.length,(σ++[aS.box (bI v0 s)])++[.arr s.aD.length 10 (s.aD.map aV)]):=by unfold A.append;rw[hel,bS];simp only[A.wj,aK hne,List.length_map,List.length_append,List.length_cons,List.length_nil];rw[aO (by omega)]
    rw[hap,bS]
   simp only[A.wrap,Bool.false_and,bG,A.dr,e1,cC,kF]
  rw[hz,bS];simp only[bS];rw[show((A.cell (AV.os (σ.length+1) s.aD.length 10 0 s.aD.length)).bind λv=>some [v])=some [.os (σ.length+1) s.aD.length 10 0 s.aD.length]from rfl,bS]
  have S1:A.storeAt (.op σ.length 0) [.os (σ.length+1) s.aD.length 10 0 s.aD.length] ((σ++[aS.box (bI v0 s)])++[.arr s.aD.length 10 (s.aD.map aV)])=some (tj σ s.aD.length s):=by rw[mm];simp only[A.storeAt];rw[jj (aQ _),Nat.sub_self];show(Option.map (λcs=>(σ++[aS.box (bI v0 s),aS.arr s.aD.length 10 (s.aD.map aV)]).set σ.length (.box cs)) (A.au 0 [.os (σ.length+1) s.aD.length 10 0 s.aD.length] (bI v0 s)))=_;rw[show A.au 0 [.os (σ.length+1) s.aD.length 10 0 s.aD.length] (bI v0 s)=some (bI (.os (σ.length+1) s.aD.length 10 0 s.aD.length) s)from rfl,cC,adu]
  rw[S1,bS];refine⟨_,_,?_,.inr ⟨s.aD.length,rfl,rfl⟩⟩;refine(congrArg (λz=>Option.bind z _) (ajT hI hd h2 hs h1 s.aD.length)).trans ?_;rw[bS];rfl
end
section
set_option maxRecDepth 100000
open HP
theorem afK(dyn:Nat→aq→Heap→aH)(l:List bC)(hl:l.length≤bu)(n:Nat)(caps:aq)(p:bC→Bool)(σ:Heap)(hd:∀x∈l,dyn n ((.agg (aV x):AV)::caps) σ=some (.bool (p x),σ)):Km dyn [sl 10 aV l,.fn n caps] σ=some (.ah (lH p l),σ):=by
 refine wrap_eq rfl ?_ rfl;show NS dyn (sl 10 aV l) (.fn n caps) σ=_;unfold NS;simp only[aT,reduceCtorEq]
 refine(qC (S:=Unit) (R:=Int) l (λpre x _=>if p x=true then .out (pre.length:Int)else .go ())
  (λpre _=>[.ah 0,.ah (pre.length:Int)]) (λ_ _=>σ) (λ_=>(.exit 0,[.ah 0,.ah (l.length:Int)],σ)) (λpre _ r=>(.ret,[.ah (pre.length:Int),.ah (pre.length:Int)],σ))
  (λ_ _=>True) () (λ_=>some (AV.ah (-1),σ)) (λr=>some (AV.ah r,σ)) ?_ ?_ trivial (λ_ _ _ _ _ _ _ _=>trivial) ?_ ?_).trans ?_
 ·intro pre x rest u hl' _;have hx:=qE hl';have hlt:=uf hl';have hi1:IntKind.i64.wrap ((pre.length:Int)+1)=(pre.length:Int)+1:=cR (by unfold aU;unfold bu at hl;omega);have hlt':(pre.length:Int)<(l.length:Int):=by omega
  have lD:=nj 10 aV l hx;have mY:=hd x (by rw[hl'];simp);simp only[aT,reduceCtorEq,amd,hlt',lD,A.lS,nO,List.nil_append,mY,hi1];cases p x<;>simp [aT,reduceCtorEq]
 ·intro u _;simp only[aT,reduceCtorEq,Int.lt_irrefl]
 ·intro u _;simp only[aT,reduceCtorEq]
 ·intro pre x rest s q hl' _ hb
  have:q=(pre.length:Int):=by
   cases hpx:p x
   ·rw[hpx]at hb;cases hb
   ·rw[hpx]at hb;simp at hb;exact hb.symm
  simp only[aT,reduceCtorEq,this]
 ·rw[D5 p _ _ l [] (by simp)];simp only[List.nil_append];split
  ·rename_i h;rw[h]
  ·rfl
noncomputable def wP (d:bJ) (s:cE) (i:Nat) (b:bC) (to t:Int):cE×Int:=match b.bU[to.toNat]? with
 |none=>(s,0)
 |some x=>({s with aA:=IntKind.i64.wrap (s.aA+1),aD:=s.aD.set i (mX d {s with aA:=IntKind.i64.wrap (s.aA+1)} b x to t)},0)
def JP(s:cE)(i:Nat)(b:bC):cE:={s with aA:=IntKind.i64.wrap (s.aA+1),aD:=s.aD.set i b}
noncomputable def atL (d:bJ) (s:cE) (i:Nat) (b:bC) (a:fk):cE:={s with aA:=IntKind.i64.wrap (s.aA+1),aD:=s.aD.set i (wK d {s with aA:=IntKind.i64.wrap (s.aA+1)} b a)}
noncomputable def Gl (d:bJ) (s:cE) (a:fk) (i:Nat) (b:bC):cE×Int:=
 if a.kind=1 then(if b.cZ+1=(b.bU.length:Int)then(s,8)else wP d s i b (b.cZ+1) a.time)
 else if a.kind=2 then(if b.cZ-1<0 then(s,8)else wP d s i b (b.cZ-1) a.time)
 else if a.kind=3 then(if lH (λc:bE=>decide (c.aA=a.cZ)) b.bU<0 then(s,8)else wP d s i b (lH (λc:bE=>decide (c.aA=a.cZ)) b.bU) a.time)
 else if a.kind=4 then(if b.aM.mD=true∨b.cZ<0 then(s,10)else(JP s i {b with aM:=⟨eO b.aM a.time,a.time,true⟩},0))
 else if a.kind=5 then(if b.aM.mD=false then(s,10)else(JP s i {b with aM:=⟨b.aM.shown,a.time,false⟩},0))
 else if a.kind=6 then(if b.cZ<0 then(s,10)else(atL d s i b a,0))
 else(JP s i {b with kY:=a.level},0)
noncomputable def kN (d:bJ) (s:cE) (a:fk):cE×Int:=
 if a.kind=8 then({s with aA:=IntKind.i64.wrap (s.aA+1),l5:=a.level},0)
 else if a.kind=9 then({s with aA:=IntKind.i64.wrap (s.aA+1),black:=decide (a.level=1)},0)
 else match s.aD[(lH (λb:bC=>decide (b.aA=a.kr)) s.aD).toNat]? with
  |none=>(s,0)
  |some b=>Gl d s a (lH (λb:bC=>decide (b.aA=a.kr)) s.aD).toNat b
structure SA (σ W : Heap) (ids bl g : Nat) (s : cE) : Prop where
 b1:W[ids]? =some (.box (bI (.os bl g 10 0 s.aD.length) s))
 b2:W[bl]? =some (.arr g 10 (s.aD.map aV))
 ex:∃ex,W=σ++ex
 i1:σ.length≤ids
 i2:σ.length≤bl
section
variable {σ W : Heap} {ids bl g : Nat} {s : cE}
theorem SA.ne(h:SA σ W ids bl g s):ids≠bl:=by intro e;have h1:=h.b1;have h2:=h.b2;rw[e,h2]at h1;cases h1
theorem Va{σ W:Heap}(h:∃ex,W=σ++ex){i:Nat}(hi:σ.length≤i)(b:aS):∃ex,W.set i b=σ++ex:=by obtain⟨ex,rfl⟩:=h;exact⟨_,rR _ _ hi⟩
theorem SA.fI(h:SA σ W ids bl g s)(i:Nat)(b':bC):SA σ (W.set bl (.arr g 10 ((s.aD.set i b').map aV))) ids bl g {s with aD:=s.aD.set i b'}:=by
 refine⟨?_,?_,Va h.ex h.i2 _,h.i1,h.i2⟩
 ·rw[List.getElem?_set_ne (λe=>h.ne e.symm)];show _=some (aS.box (bI (.os bl g 10 0 (s.aD.set i b').length) _));rw[List.length_set];exact h.b1
 ·exact oK (bQ.1 h.b2).1
theorem SA.atT(h:SA σ W ids bl g s)(s':cE)(hs:s'.aD=s.aD):SA σ (W.set ids (.box (bI (.os bl g 10 0 s'.aD.length) s'))) ids bl g s':=by refine⟨oK (bQ.1 h.b1).1,?_,Va h.ex h.i1 _,h.i1,h.i2⟩;rw[List.getElem?_set_ne h.ne,hs];exact h.b2
theorem SA.num(h:SA σ W ids bl g s)(n:Int):∃W',A.storeAt (.op ids 1) [.ah n] W=some W'∧SA σ W' ids bl g {s with aA:=n}:=by refine⟨_,?_,h.atT {s with aA:=n} rfl⟩;simp only[A.storeAt,h.b1];rfl
theorem SA.put(h:SA σ W ids bl g s){i o:Nat}{b b':bC}{new:aq}(hb:s.aD[i]? =some b)(hs:A.au o new (aV b)=some (aV b')):∃W',A.storeAt (.oe bl g i o) new W=some W'∧SA σ W' ids bl g {s with aD:=s.aD.set i b'}:=by refine⟨_,?_,h.fI i b'⟩;rw[LA h.b2 (by rw[qH,hb];rfl) hs,List.map_set]
theorem SA.rdB(h:SA σ W ids bl g s){i:Nat}{b:bC}(hb:s.aD[i]? =some b)(o:Nat):A.deref (.oe bl g i o) W=some ((aV b).drop o):=by simp only[A.deref,h.b2,if_true,qH,hb,cC]
theorem SA.Ce(h:SA σ W ids bl g s):((A.deref (.op ids 1) W).bind λc=>A.ak 0 c)=some (.ah s.aA):=by simp only[A.deref,h.b1];rfl
theorem SA.rdV(h:SA σ W ids bl g s):((A.deref (.op ids 0) W).bind λc=>A.ak 0 c)=some (.os bl g 10 0 s.aD.length):=by simp only[A.deref,h.b1];rfl
theorem SA.go{d:bJ}{pd:AV}(hI:sN d)(hd:vE pd d σ)(h:SA σ W ids bl g s){N t:Int}(hs:jE N s)(hN:N≤t)(ht:t≤36000000){i to:Nat}{b:bC}{x:bE}(hb:s.aD[i]? =some b)(hx:b.bU[to]? =some x):
  ∃W',vZ [pd,.op ids 0,.ah (i:Int),.ah (to:Int),.ah t] W=some (.aL [],W')∧SA σ W' ids bl g {s with aD:=s.aD.set i (mX d s b x (to:Int) t)}:=by
 obtain⟨ex,e⟩:=h.ex;have hB:=hs.bs b (dA hb);have yq:=Uv b x;refine⟨_,adI (by rw[e];exact hd.ext ex) h.b1 h.b2 hb hx (by have:=hs.len;unfold bu;omega) (λb hb=>(hs.bs b hb).ok hN ht) hI.pre hB.uI yq.1 (by have:=yq.2;unfold bu;omega) (λb hb=>(hs.bs b hb).can),h.fI i _⟩
theorem SA.rel{d:bJ}{pd:AV}(hd:vE pd d σ)(h:SA σ W ids bl g s){a:fk}{N:Int}(hs:jE N s)(hN:N≤a.time)(ht:a.time≤36000000){i:Nat}{b:bC}(hb:s.aD[i]? =some b):
  ∃W',Kt [pd,.op ids 0,.oe bl g i 0,.agg (bX a)] W=some (.aL [],W')∧SA σ W' ids bl g {s with aD:=s.aD.set i (wK d s b a)}:=by
 obtain⟨ex,e⟩:=h.ex;have hB:=hs.bs b (dA hb);exact⟨_,amo (by rw[e];exact hd.ext ex) h.b1 h.b2 hb (hB.ok hN ht) (λb hb=>(hs.bs b hb).can),h.fI i _⟩
end
theorem bex{β:Type}{X:aH}{v:AV×Heap}{f:AV×Heap→Option β}{Q:Heap→Prop}(e:X=some v){r:Heap→Option β}(k:∃W',f v=r W'∧Q W'):∃W',X.bind f=r W'∧Q W':=by rw[e];exact k
theorem alj(b:bC)(a:fk)(σ:Heap):DK [.agg (aV b),.rp (bX a)] σ=some (.bool (decide (b.aA=a.kr)),σ):=by refine I9 (z:=.az) (by unfold aV;cases b.runs<;>rfl) (kM (uv (by unfold aV;cases b.runs<;>rfl)) rfl) (kF _) ?_;unfold Yr;rw[alx,bS,ajm,bS,nP,bS,qx,bS,show A.ak 0 ((bX a).drop 2)=some (.ah a.kr)from rfl,bS,jU,bS];exact cg _ _
theorem alk(c:bE)(a:fk)(σ:Heap):DL [.agg (bA c),.rp (bX a)] σ=some (.bool (decide (c.aA=a.cZ)),σ):=by refine I9 (z:=.az) rfl (kM (uv rfl) rfl) (kF _) ?_;unfold Yt;rw[PC,bS,T8,bS,nP,bS,qx,bS,show A.ak 0 ((bX a).drop 3)=some (.ah a.cZ)from rfl,bS,jU,bS];exact cg _ _
theorem alY{W:Heap}{bl g:Nat}{l:List bC}(h:W[bl]? =some (.arr g 10 (l.map aV))):Lt W (.s 10) (.os bl g 10 0 l.length) (sl 10 aV l):=
 ⟨⟨sl 10 aV l,P7 FK h (by omega) 7,rfl,rfl⟩,rfl,λh=>by cases h⟩
noncomputable abbrev PW : Nat → aq → Heap → aH := A.tab (fun _ _ => none) [(352, DK), (354, DL)]
theorem akg{W:Heap}{bl g:Nat}{l:List bC}(h:W[bl]? =some (.arr g 10 (l.map aV)))(hl:l.length≤bu)(a:fk):Km PW [.os bl g 10 0 l.length,.fn 352 [.rp (bX a)]] W=some (.ah (lH (λb:bC=>decide (b.aA=a.kr)) l),W):=
 EN (dX:=[.os bl g 10 0 l.length,.fn 352 [.rp (bX a)]]) (ts:=[sl 10 aV l,.fn 352 [.rp (bX a)]]) ⟨alY h,Qo (ara (dm (arc (Z2 a)) sv)) rfl,trivial⟩ (λσ=>afK PW l hl _ _ _ σ (λb _=>alj b a σ)) rfl
theorem acS(c t:Int)(q:Bool):((((A.cell (.ah c)).bind λv=>some [v]).bind λVR=>(A.au 0 VR [(AV.ah 0),(AV.ah 0),aR]).bind λAx=>((A.cell (.ah t)).bind λv=>some [v]).bind λLZ=>(A.au 1 LZ Ax).bind λAy=>((A.cell (AV.bool q)).bind λv=>some [v]).bind λVS=>(A.au 2 VS Ay).bind λxL=>some xL).bind λcs=>some (AV.agg cs))=some (.agg (yM ⟨c,t,q⟩)):=rfl
theorem aec(b:bC)(c:Cz):A.au 0 (yM c) (aV b)=some (aV {b with aM:=c}):=rfl
theorem an7(b:bC)(n:Int):A.au 7 [.ah n] (aV b)=some (aV {b with kY:=n}):=rfl
theorem aqY{d:bJ}{pd:AV}(hI:sN d){σ W:Heap}(hd:vE pd d σ){ids bl g:Nat}{s:cE}(h:SA σ W ids bl g s){a:fk}(hs:jE a.time s)(hk:1≤a.kind∧a.kind≤7)(hp:∃b∈s.aD,b.aA=a.kr):
  ∃W',Ky [pd,.op ids 0,.agg (bX a)] W=some (.ah (kN d s a).2,W')∧SA σ W' ids bl g (kN d s a).1:=by
 have apT:∀{r:AV→AV→AV→Heap→aH}{x y z v:AV}{σ σ':Heap},r x y z σ=some (v,σ')→A.wrap false [] .k (A.nE r) [x,y,z] σ=some (v,σ'):=by intro r x y z v σ σ' e;exact Vp (kF _) e
 suffices h:∃W',Iu pd (.op ids 0) (.agg (bX a)) W=some (.ah (kN d s a).2,W')∧SA σ W' ids bl g (kN d s a).1 by obtain⟨W',e,h⟩:=h;exact⟨W',apT e,h⟩
 have XC:s.aD.length≤bu:=by have:=hs.len;unfold bu;omega
 have ht:=hs.n.2;have Nt:∀(k:Nat)(W:Heap),A.deref (.rp ((bX a).drop k)) W=some ((bX a).drop k):=λk W=>rfl
 unfold Iu kN;rw[aK (by omega),aK (by omega)];rw[show((A.cells 5 (.agg (bX a))).bind λcs=>some (AV.rp cs))=some (.rp (bX a))from rfl,bS];simp only[nP,bS,Nt,show A.ak 0 ((bX a).drop 1)=some (.ah a.kind)from rfl,show A.ak 0 ((bX a).drop 0)=some (.ah a.time)from rfl,show A.ak 0 ((bX a).drop 4)=some (.ah a.level)from rfl,jU,qx,KV];rw[bZ (show ¬a.kind=8 by omega),dw,bZ (show ¬a.kind=9 by omega),dw];simp only[show A.aW (.op ids 0)=some (.op ids 0)from rfl,bS,show ∀o,A.aF o (.op ids 0)=some (.op ids o)from λo=>by simp [A.aF],h.rdV];refine bex (akg h.b2 XC a) ?_;simp only[h.rdV,bS]
 obtain⟨i,b,e1,e2,e3⟩:∃(i:Nat)(b:bC),s.aD[i]? =some b∧lH (λb:bC=>decide (b.aA=a.kr)) s.aD=(i:Int)∧b∈s.aD:=by
  rcases Bs (λb:bC=>decide (b.aA=a.kr)) s.aD with⟨_,q,_⟩|⟨i,b,q1,_,q2,_,_⟩
  ·obtain⟨b,hb,nV⟩:=hp;have:=q b hb;rw[ct nV]at this;cases this
  ·exact⟨i,b,q1,q2,dA q1⟩
 have hi:=(bQ.1 e1).1;rw[e2];simp only[Int.toNat_natCast];rw[e1];simp only;rw[VB hi,bS];have hB:=hs.bs b e3;have hc:=hB.cZ;have Hl:b.bU.length≤bu:=hB.uI.1;have fo:∀o,A.aF o (.oe bl g i 0)=some (.oe bl g i o):=λo=>by simp [A.aF]
 have fo2:∀o,A.aF 0 (.oe bl g i o)=some (.oe bl g i o):=λo=>by simp [A.aF]
 have fo3:∀o,A.aF o (.oe bl g i 0)=some (.oe bl g i o):=λo=>by simp [A.aF]
 have c6:A.ak 0 ((aV b).drop 6)=some (.ah b.cZ):=rfl;have c5:A.ak 0 ((aV b).drop 5)=some (sl 11 bA b.bU):=rfl;have c2:A.ak 0 ((aV b).drop 2)=some (.bool b.aM.mD):=rfl;have c0:A.ak 0 ((aV b).drop 0)=some (.ah b.aM.shown):=rfl;have c03:A.aC 0 3 ((aV b).drop 0)=some (.agg (yM b.aM)):=rfl;simp only[show A.aW (.oe bl g i 0)=some (.oe bl g i 0)from rfl,bS,fo,h.rdB e1,c6,c5,c2,c0,c03,iS];obtain⟨W1,n1,n2⟩:=h.num (IntKind.i64.wrap (s.aA+1));have hs1:jE a.time {s with aA:=IntKind.i64.wrap (s.aA+1)}:=Ux hs _
 have go:∀(to:Nat)(x:bE),b.bU[to]? =some x→∃W',vZ [pd,.op ids 0,.ah (i:Int),.ah (to:Int),.ah a.time] W1=some (.aL [],W')∧SA σ W' ids bl g (wP d s i b (to:Int) a.time).1∧(wP d s i b (to:Int) a.time).2=0:=by
  intro to x hx;obtain⟨W',q1,q2⟩:=n2.go hI hd hs1 (Int.le_refl _) ht e1 hx;refine⟨W',q1,?_,?_⟩
  ·unfold wP;rw[Int.toNat_natCast,hx];exact q2
  ·unfold wP;rw[Int.toNat_natCast,hx]
 have no:((A.cell (AV.ah (IntKind.i64.wrap (s.aA+1)))).bind λv=>some [v])=some [.ah (IntKind.i64.wrap (s.aA+1))]:=rfl;unfold Gl;by_cases k1:a.kind=1
 ·rw[aO k1,ct k1,dO,nv,bS,show IntKind.i64.wrap (b.cZ+1)=b.cZ+1 from cR (by unfold aU;unfold bu at Hl;omega),jU,bS];by_cases hz:b.cZ+1=(b.bU.length:Int)
  ·rw[ct hz,dO,aO hz];exact⟨W,rfl,h⟩
  ·rw[bZ hz,dw,aK hz,h.Ce,bS,nv,bS,no,bS,n1,bS,vi,bS,ct (by omega),dO];obtain⟨to,hto⟩:∃to:Nat,b.cZ+1=(to:Int):=⟨(b.cZ+1).toNat,by omega⟩
   obtain⟨W',q1,q2,q3⟩:=go to _ (bR (show to<b.bU.length by omega));rw[hto];simp only[q1,bS,q3];exact⟨W',rfl,q2⟩
 rw[aK k1,bZ k1,dw];by_cases k2:a.kind=2
 ·rw[aO k2,ct k2,dO,sO,bS,show IntKind.i64.wrap (b.cZ-1)=b.cZ-1 from cR (by unfold aU;unfold bu at Hl;omega),mU,bS];by_cases hz:b.cZ-1<0
  ·rw[ct hz,dO,aO hz];exact⟨W,rfl,h⟩
  ·rw[bZ hz,dw,aK hz,h.Ce,bS,nv,bS,no,bS,n1,bS,vi,bS,ct (by omega),dO];obtain⟨to,hto⟩:∃to:Nat,b.cZ-1=(to:Int):=⟨(b.cZ-1).toNat,by omega⟩
   obtain⟨W',q1,q2,q3⟩:=go to _ (bR (show to<b.bU.length by omega));rw[hto];simp only[q1,bS,q3];exact⟨W',rfl,q2⟩
 rw[aK k2,bZ k2,dw];by_cases k3:a.kind=3
 ·rw[aO k3,ct k3,dO];have XG:Ko PW [sl 11 bA b.bU,.fn 354 [.rp (bX a)]] W=some (.ah (lH (λc:bE=>decide (c.aA=a.cZ)) b.bU),W):=afT PW b.bU Hl _ _ _ W (λc _=>alk c a W);refine bex XG ?_;simp only;rw[mU,bS];rcases Bs (λc:bE=>decide (c.aA=a.cZ)) b.bU with⟨q,_,_⟩|⟨to,x,q1,_,q2,_,_⟩
  ·rw[q,ct (by decide),dO,aO (by decide)];exact⟨W,rfl,h⟩
  ·rw[q2,bZ (by omega),dw,aK (by omega),h.Ce,bS,nv,bS,no,bS,n1,bS,vi,bS,ct (by omega),dO];obtain⟨W',g1,g2,g3⟩:=go to _ q1;simp only[g1,bS,g3];exact⟨W',rfl,g2⟩
 rw[aK k3,bZ k3,dw]
 have Wz:∀(o:Nat)(new:aq)(b':bC),A.au o new (aV b)=some (aV b')→∃W1 W2,A.storeAt (.oe bl g i o) new W=some W1∧((A.deref (.op ids 1) W1).bind λc=>A.ak 0 c)=some (.ah s.aA)∧A.storeAt (.op ids 1) [.ah (IntKind.i64.wrap (s.aA+1))] W1=some W2∧SA σ W2 ids bl g (JP s i b'):=by intro o new b' hsp;obtain⟨W1,w1,w2⟩:=h.put e1 hsp;obtain⟨W2,w3,w4⟩:=w2.num (IntKind.i64.wrap (s.aA+1));exact⟨W1,W2,w1,w2.Ce,w3,w4⟩
 by_cases k4:a.kind=4
 ·rw[aO k4,ct k4,dO];by_cases hst:b.aM.mD=true
  ·rw[hst,aO (.inl rfl)];simp only[A0,gU,bS,mM,cT];exact⟨W,rfl,h⟩
  have Mr:b.aM.mD=false:=by simpa using hst
  rw[Mr];simp only[gF,bS,show A.aW (.oe bl g i 0)=some (.oe bl g i 0)from rfl,fo,h.rdB e1,c6,mZ,mU];by_cases hz:b.cZ<0
  ·rw[ct hz,dO,aO (.inr hz)];exact⟨W,rfl,h⟩
  ·rw[bZ hz,dw,aK (λq=>q.elim (λq=>by cases q) hz),fM (Qf _ _ W),bS,acS,bS,TW,bS];obtain⟨W1',MF,w1,w2,w3,w4⟩:=Wz 0 _ _ (aec b ⟨eO b.aM a.time,a.time,true⟩);rw[w1,bS,w2,bS,nv,bS,no,bS,w3,bS,vi,bS,bZ (by decide),dw,bS];exact⟨MF,rfl,w4⟩
 rw[aK k4,bZ k4,dw];by_cases k5:a.kind=5
 ·rw[aO k5,ct k5,dO,AL,bS];by_cases hst:b.aM.mD=true
  case neg=>
   have Mr:b.aM.mD=false:=by simpa using hst
   rw[Mr,aO rfl];exact⟨W,rfl,h⟩
  ·rw[hst,aK (by simp),show(!true)=false from rfl,dw,acS,bS,TW,bS];obtain⟨W1',MF,w1,w2,w3,w4⟩:=Wz 0 _ _ (aec b ⟨b.aM.shown,a.time,false⟩);rw[w1,bS,w2,bS,nv,bS,no,bS,w3,bS,vi,bS,bZ (by decide),dw,bS];exact⟨MF,rfl,w4⟩
 rw[aK k5,bZ k5,dw];by_cases k6:a.kind=6
 ·rw[aO k6,ct k6,dO,mU,bS];by_cases hz:b.cZ<0
  ·rw[ct hz,dO,aO hz];exact⟨W,rfl,h⟩
  ·rw[bZ hz,dw,aK hz,h.Ce,bS,nv,bS,no,bS,n1,bS];obtain⟨W',q1,q2⟩:=n2.rel hd hs1 (Int.le_refl _) ht e1;rw[q1,bS];exact⟨W',rfl,q2⟩
 rw[aK k6,bZ k6,dw,ct (show a.kind=7 by omega),dO];obtain⟨W1',MF,w1,w2,w3,w4⟩:=Wz 7 _ _ (an7 b a.level);rw[sE,bS,w1,bS,bS];simp only;rw[w2,bS,nv,bS,no,bS,w3,bS,vi,bS,bZ (by decide),dw,bS];exact⟨MF,rfl,w4⟩
end
section
set_option maxRecDepth 100000
noncomputable def RR (a0:nY) (a1:fk):Option Bool:=some (decide (a0.aA=a1.kr))
theorem agy{a0:nY}{a1:fk}{σ:Heap}{r:Bool}(h:RR a0 a1=some r):Kq [(AV.agg (dI a0)),(AV.rp (bX a1))] σ=some ((AV.bool r),σ):=by refine zV (f:=RQ) (y0:=(AV.agg (dI a0))) (y1:=(AV.rp (bX a1))) (enc:=λr:Bool=>(AV.bool r)) (T:=RR a0 a1) rfl rfl ?_ r h;unfold RQ RR;refine aB _ rfl<|aB _ rfl<|aB _ rfl<|aB _ rfl<|aB _ (jU _ _ _) ?_;exact gI _ (cg _ _) ⟨rfl,rfl⟩
noncomputable def DN (a0:fk):Option Int:=
 if(!(bf a0.kind 1 9))=true then
  some 4
 else
 if(((((decide (a0.kind=8))||(decide (a0.kind=9)))&&(decide (¬(a0.kr=0))))||((decide (¬(a0.kind=3)))&&(decide (¬(a0.cZ=0)))))||((!((((decide (a0.kind=8))||(decide (a0.kind=9)))||(decide (a0.kind=6)))||(decide (a0.kind=7))))&&(decide (¬(a0.level=0)))))=true then
  some 3
 else
 some 0
theorem agR{a0:fk}{σ:Heap}{r:Int}(h:DN a0=some r):N2 [(AV.agg (bX a0))] σ=some ((AV.ah r),σ):=by
 refine Bz (f:=R7) (y0:=(AV.agg (bX a0))) (enc:=λr:Int=>(AV.ah r)) (T:=DN a0) rfl rfl ?_ r h;unfold R7 DN;refine aB _ rfl<|aB _ rfl<|aB _ (mh a0.kind 1 9 σ)<|aB _ rfl ?_;refine lg (c:=(!(bf a0.kind 1 9))) (λc2=>?_) (λc2=>?_)
 ·exact gI _ (cg _ _) ⟨rfl,rfl⟩
 refine aB _ rfl<|aB _ (jU _ _ _)<|fU (AV.ah a0.kind) (λhg=>rfl)<|fU (AV.bool (decide (a0.kind=9))) (λhg=>by(try rw[hg]);exact(jU _ _ _))<|aB _ (sJ _ _)<|fU (AV.ah a0.kind) (λhg=>rfl)<|fU (AV.bool (decide (a0.kind=6))) (λhg=>by(try rw[hg]);exact(jU _ _ _))<|aB _ (sJ _ _)<|fU (AV.ah a0.kind) (λhg=>rfl)<|fU (AV.bool (decide (a0.kind=7))) (λhg=>by(try rw[hg]);exact(jU _ _ _))<|aB _ (sJ _ _)<|fH (AV.ah a0.kr) (λhg=>rfl)<|fH (AV.bool (decide (¬(a0.kr=0)))) (λhg=>by(try rw[hg]);exact(fW _ _ _))<|aB _ (uW _ _)<|fU (AV.ah a0.kind) (λhg=>rfl)<|fU (AV.bool (decide (¬(a0.kind=3)))) (λhg=>by(try rw[hg]);exact(fW _ _ _))<|fU (AV.bool (decide (¬(a0.kind=3)))) (λhg=>by(try rw[hg]);exact rfl)<|Jr (AV.ah a0.cZ) (λhg=>rfl)<|Jr (AV.bool (decide (¬(a0.cZ=0)))) (λhg=>by(try rw[hg]);exact(fW _ _ _))<|fU (AV.bool ((decide (¬(a0.kind=3)))&&(decide (¬(a0.cZ=0))))) (λhg=>by(try rw[hg]);exact(uW _ _))<|aB _ (sJ _ _)<|fU (AV.bool ((((decide (a0.kind=8))||(decide (a0.kind=9)))||(decide (a0.kind=6)))||(decide (a0.kind=7)))) (λhg=>rfl)<|fU (AV.bool (!((((decide (a0.kind=8))||(decide (a0.kind=9)))||(decide (a0.kind=6)))||(decide (a0.kind=7))))) (λhg=>by(try rw[hg]);exact rfl)<|fU (AV.bool (!((((decide (a0.kind=8))||(decide (a0.kind=9)))||(decide (a0.kind=6)))||(decide (a0.kind=7))))) (λhg=>by(try rw[hg]);exact rfl)<|Jr (AV.ah a0.level) (λhg=>rfl)<|Jr (AV.bool (decide (¬(a0.level=0)))) (λhg=>by(try rw[hg]);exact(fW _ _ _))<|fU (AV.bool ((!((((decide (a0.kind=8))||(decide (a0.kind=9)))||(decide (a0.kind=6)))||(decide (a0.kind=7))))&&(decide (¬(a0.level=0))))) (λhg=>by(try rw[hg]);exact(uW _ _))<|aB _ (sJ _ _) ?_;refine lg (c:=(((((decide (a0.kind=8))||(decide (a0.kind=9)))&&(decide (¬(a0.kr=0))))||((decide (¬(a0.kind=3)))&&(decide (¬(a0.cZ=0)))))||((!((((decide (a0.kind=8))||(decide (a0.kind=9)))||(decide (a0.kind=6)))||(decide (a0.kind=7))))&&(decide (¬(a0.level=0)))))) (λc1=>?_) (λc1=>?_)
 ·exact gI _ (cg _ _) ⟨rfl,rfl⟩
 exact gI _ (cg _ _) ⟨rfl,rfl⟩
noncomputable def DO (a0:iT) (a1:fk):Option Int:=
 (if(!((decide (a1.kind=8))||(decide (a1.kind=9))))=true then tq (a0.cm.length≤bu) (a0.cm.any (λx=>(decide (x.aA=a1.kr))))else some default).bind λr1=>
 if((!((decide (a1.kind=8))||(decide (a1.kind=9))))&&(!r1))=true then
  some 8
 else
 (show Option Int from
   if a1.kind=6 then
    some 36000000
   else
   (show Option Int from
     if a1.kind=9 then
      some 1
     else
     some 65535).bind λj3=>
   some j3).bind λj7=>
 some (if(!(bf a1.level 0 j7))=true then 1 else 0)
theorem agS{a0:iT}{a1:fk}{σ:Heap}{r:Int}(h:DO a0 a1=some r):N3 [(AV.agg (bO a0)),(AV.agg (bX a1))] σ=some ((AV.ah r),σ):=by
 refine zV (f:=N4) (y0:=(AV.agg (bO a0))) (y1:=(AV.agg (bX a1))) (enc:=λr:Int=>(AV.ah r)) (T:=DO a0 a1) rfl rfl ?_ r h;unfold N4 DO;refine aB _ rfl<|aB _ rfl<|aB _ rfl<|aB _ rfl<|aB _ (jU _ _ _)<|fU (AV.rp (List.drop 1 (bX a1))) (λhg=>rfl)<|fU (AV.ah a1.kind) (λhg=>by(try rw[hg]);exact rfl)<|fU (AV.bool (decide (a1.kind=9))) (λhg=>by(try rw[hg]);exact(jU _ _ _))<|aB _ (sJ _ _)<|aB _ rfl<|fH (sl 3 dI a0.cm) (λhg=>rfl)<|fH (AV.fn 152 [(AV.rp (bX a1))]) (λhg=>rfl) ?_;refine BG (ω:=Bool) (λr1=>(AV.bool r1)) (λhg r1 l9=>by(try rw[hg]);exact(fM ((Aj (e:=λr:Bool=>((AV.bool r),σ)) (λhs=>afB _ a0.cm hs _ _ (λx=>(decide (x.aA=a1.kr))) σ (λx hx=>agy (σ:=σ) (r:=(decide (x.aA=a1.kr))) rfl))) l9))) (λr1 l9=>?_);refine fH (AV.bool (!r1)) (λhg=>by(try rw[hg]);exact rfl)<|aB _ (uW _ _) ?_;refine lg (c:=((!((decide (a1.kind=8))||(decide (a1.kind=9))))&&(!r1))) (λfQ=>?_) (λfQ=>?_)
 ·exact gI _ (cg _ _) ⟨rfl,rfl⟩
 refine aB _ rfl<|aB _ rfl<|aB _ (jU _ _ _) ?_
 refine QL (ω:=Int) (λj7 a=>a=(([(AV.ah j7)]:aq),σ)) (
   by
    refine oc (p:=a1.kind=6) (λc6=>?_) (λc6=>?_)
    ·exact dJ rfl
    refine aB _ (jU _ _ _) ?_
    refine QL (ω:=Int) (λj3 a=>a=(([(AV.ah j3)]:aq),σ)) (
      by
       refine oc (p:=a1.kind=9) (λc2=>?_) (λc2=>?_)
       ·exact dJ rfl
       exact dJ rfl
      ) (λj3 a ha=>?_)
    subst ha;exact dJ rfl
   ) (λj7 a ha=>?_)
 subst ha;refine aB _ rfl<|aB _ rfl<|aB _ (mh a1.level 0 j7 σ)<|aB _ rfl<|aB _ (yK (!(bf a1.level 0 j7)) 1 σ) ?_;exact gI _ (cg _ _) ⟨rfl,rfl⟩
end
section
set_option maxRecDepth 100000
open HP
def jv(p:aG×fu):AV×AV:=(.agg (aX p.1),.agg (eX p.2))
abbrev iU(vb:AV)(br:Nat)(va:AV)(d:bJ):aq:=[vb,.ah d.state.aA,.ah d.state.l5,.bool d.state.black,sl 3 cI d.setup.aZ.bg,sl 4 dg d.setup.aZ.cW,sl 3 fq d.setup.cA,sl 2 fD d.setup.cV,sl 3 dI d.setup.cm,sl 2 aX d.keys,.om br,va]
def kD(id:Nat)(vb:AV)(br:Nat)(va:AV)(d:bJ):HP:=blk id (.box (iU vb br va d))*(Sl (fl aV) 10 vb d.state.aD*(blk br (.map ((d.params.getD []).map jv))*Sl (fl bX) 5 va d.bV))
def nu(pd:AV)(d:bJ):HP:=ex λx:Nat×AV×Nat×AV=>pr (pd=.op x.1 0∧d.params.isSome=true)*kD x.1 x.2.1 x.2.2.1 x.2.2.2 d
section
variable {B : aS → Prop} {aJ σ : Heap} {R : HP} {pd : AV} {d : bJ}
theorem O7(H:Hs B aJ σ (nu pd d*R)):∃id vb br va,pd=.op id 0∧d.params.isSome=true∧Hs B aJ σ (kD id vb br va d*R):=by unfold nu at H;rw[Qk]at H;obtain⟨⟨id,vb,br,va⟩,H⟩:=H;rw[w8,qm]at H;exact⟨id,vb,br,va,H.1.1,H.1.2,H.2⟩
theorem FW{id:Nat}{vb:AV}{br:Nat}{va:AV}(hp:d.params.isSome=true)(H:Hs B aJ σ (kD id vb br va d*R)):Hs B aJ σ (nu (.op id 0) d*R):=by unfold nu;rw[Qk];refine⟨⟨id,vb,br,va⟩,?_⟩;rw[w8,qm];exact⟨⟨rfl,hp⟩,H⟩
theorem adi{vb:AV}{l:List bC}(H:Hs B aJ σ (Sl (fl aV) 10 vb l*R)):VM σ vb l:=by
 rcases Bw H with⟨h1,h2,_⟩|⟨id,g,h1,K⟩
 ·exact .inl ⟨h1,h2⟩
 ·exact .inr ⟨id,g,h1,(kC K).2⟩
theorem UR(H:Hs B aJ σ R)(ex:Heap):Hs cS aJ (σ++ex) R:=aqn (Vd H) ex (λ_ _=>trivial)
theorem Ph{W:Heap}{i:Nat}{b:aS}(H:Hs B aJ σ R)(hW:∃ex,W=σ++ex)(hi:σ.length≤i)(hb:W[i]? =some b):Hs cS aJ W (blk i b*R):=by
 obtain⟨ex,rfl⟩:=hW;have hl:=adN H;obtain⟨⟨bs,vN,_⟩,h,hr,h2⟩:=H;refine⟨⟨bs++ex,by rw[vN,mm],λ_ _=>trivial⟩,λj=>if j=i then some b else h j,⟨λj=>if j=i then some b else none,h,λj=>rfl,hr,λj=>?_,λj=>?_⟩,λj x hx=>?_⟩
 ·by_cases e:j=i
  ·right;cases hj:h j with
   |none=>rfl
   |some x=>have:=(bQ.1 (h2 j x hj).2).1;omega
  ·simp only[e,if_false,true_or]
 ·by_cases e:j=i<;>simp only[e,if_true,if_false,Option.or_some,Option.none_or,Option.some_or]
 ·by_cases e:j=i
  ·subst e;simp only[if_true,Option.some.injEq]at hx;subst hx;exact⟨by omega,hb⟩
  ·simp only[e,if_false]at hx;obtain⟨k1,k2⟩:=h2 j x hx;exact⟨k1,by rw[jk (bQ.1 k2).1];exact k2⟩
theorem aoT{l:List (aG×fu)}{br:Nat}(h:σ[br]? =some (.map (l.map jv)))(d:Nat):A.bM σ 0 (d+1) (.om br)=some (.fm (l.map jv)):=by simp only[A.bM,Nat.not_lt_zero,if_false,h];rw[PJ d (λp hp=>by obtain⟨q,_,rfl⟩:=ia.1 hp;exact⟨Ab (Cu _),Ab (T0 _)⟩)];rfl
theorem PL{id:Nat}{vb:AV}{br:Nat}{va:AV}(hp:d.params.isSome=true)(H:Hs B aJ σ (kD id vb br va d*R)):Lt σ Vk (.op id 0) (.rp (uh d)):=by
 obtain⟨ps,hps⟩:=Option.isSome_iff_exists.1 hp;unfold kD at H;have H1:=eu (show _=blk id (.box (iU vb br va d))*(Sl (fl aV) 10 vb d.state.aD*(blk br (.map ((d.params.getD []).map jv))*Sl (fl bX) 5 va d.bV)*R) by ac_rfl) H;have H2:=eu (show _=Sl (fl aV) 10 vb d.state.aD*(blk id (.box (iU vb br va d))*(blk br (.map ((d.params.getD []).map jv))*Sl (fl bX) 5 va d.bV)*R) by ac_rfl) H;have H3:=eu (show _=blk br (.map ((d.params.getD []).map jv))*(Sl (fl aV) 10 vb d.state.aD*blk id (.box (iU vb br va d))*Sl (fl bX) 5 va d.bV*R) by ac_rfl) H;have H4:=eu (show _=Sl (fl bX) 5 va d.bV*(Sl (fl aV) 10 vb d.state.aD*blk id (.box (iU vb br va d))*blk br (.map ((d.params.getD []).map jv))*R) by ac_rfl) H;obtain⟨uM,b1,b2,b3⟩:=LH H2 FK (jQ _) 6;obtain⟨DI,a1,a2,a3⟩:=LH H4 Z2 (jQ _) 6;have hm:=aoT (kC H3).2 6;rw[hps,Option.getD_some]at hm;have hg:=(kC H1).2;refine⟨⟨.rp [uM,.ah d.state.aA,.ah d.state.l5,.bool d.state.black,sl 3 cI d.setup.aZ.bg,sl 4 dg d.setup.aZ.cW,sl 3 fq d.setup.cA,sl 2 fD d.setup.cV,sl 3 dI d.setup.cm,sl 2 aX d.keys,.fm (ps.map jv),DI],?_,?_,?_⟩,rfl,λh=>by cases h⟩
 ·simp only[A.bM,Nat.not_lt_zero,if_false,hg,List.drop_zero,iU,A.xz,b1,a1,hm,sF ajb _ σ 0 7,sF Uq _ σ 0 7,sF Z3 _ σ 0 7,sF anl _ σ 0 7,sF SO _ σ 0 7,sF Cu _ σ 0 7,aY,cC]
 ·rfl
 ·show AV.rp (A.dr GQ _)=AV.rp (A.dr GQ (uh d));congr 1;unfold uh;rw[hps];simp only[A.dr,b3,a3];rfl
theorem adb{id:Nat}{vb:AV}{br:Nat}{va:AV}(hp:d.params.isSome=true)(H:Hs B aJ σ (kD id vb br va d*R)):vE (.op id 0) d σ:=by
 have K:∀ex,Hs cS aJ (σ++ex) (kD id vb br va d*R):=λex=>UR H ex
 have hg:∀ex,(σ++ex)[id]? =some (.box (iU vb br va d)):=λex=>(kC (eu (show _=blk id (.box (iU vb br va d))*(Sl (fl aV) 10 vb d.state.aD*(blk br (.map ((d.params.getD []).map jv))*Sl (fl bX) 5 va d.bV)*R) by unfold kD;ac_rfl) (K ex))).2
 have hm:∀ex,(σ++ex)[br]? =some (.map ((d.params.getD []).map jv)):=λex=>(kC (eu (show _=blk br (.map ((d.params.getD []).map jv))*(Sl (fl aV) 10 vb d.state.aD*blk id (.box (iU vb br va d))*Sl (fl bX) 5 va d.bV*R) by unfold kD;ac_rfl) (K ex))).2
 refine⟨rfl,⟨.op id 4,.op id 6,by simp [A.aF],by simp [A.aF],λex=>?_⟩,⟨.op id 10,.om br,by simp [A.aF],λex=>⟨?_,λk=>?_⟩⟩,λex=>PL hp (K ex)⟩
 ·simp only[A.deref,hg ex];rfl
 ·simp only[A.deref,hg ex];rfl
 ·simp only[A.look,show A.lG (.s [0,2]) (.agg (aX k))=true from rfl,cq,A.entries,hm ex,aY,show A.find (.s [0,2]) (.agg (aX k)) ((d.params.getD []).map jv)=some ((dh k (d.params.getD [])).map λp=>AV.agg (eX p))from Ek (eK:=λk=>AV.agg (aX k)) (eV:=λp=>AV.agg (eX p)) tZ k _,cC];unfold lX;cases dh k (d.params.getD [])<;>rfl
end
noncomputable def D9 (a:fk):Int:=(DN a).getD 0
noncomputable def ER (s:iT) (a:fk):Int:=(DO s a).getD 0
theorem abO(a:fk):DN a=some (D9 a):=by
 unfold D9 DN;split
 ·rfl
 split<;>rfl
theorem acg{s:iT}(hl:s.cm.length≤bu)(a:fk):DO s a=some (ER s a):=by
 unfold ER DO;rw[yP hl];have:∀(c:Bool)(x y:Bool),∃r,(if c=true then some x else some y:Option Bool)=some r:=by intro c x y;cases c<;>exact⟨_,rfl⟩
 obtain⟨r,hr⟩:=this (!((decide (a.kind=8))||(decide (a.kind=9)))) (s.cm.any (λx=>(decide (x.aA=a.kr)))) default;rw[hr,aY];split
 ·rfl
 ·split
  ·rfl
  ·split<;>rfl
theorem U4{s:iT}(hl:s.cm.length≤bu){a:fk}(h1:D9 a=0)(h2:ER s a=0):(1≤a.kind∧a.kind≤9)∧(a.kind≤7→∃p∈s.cm,p.aA=a.kr)∧(a.kind≠6→0≤a.level∧a.level≤65535)∧0≤a.level∧a.level≤36000000:=by
 have e1:=abO a;have e2:=acg hl a;rw[h1]at e1;rw[h2]at e2;unfold DN at e1;split at e1
 ·cases e1
 rename_i k1;have hk:1≤a.kind∧a.kind≤9:=sL (by simpa using k1);unfold DO at e2;rw[yP hl]at e2
 have asW:a.kind≤7→∃p∈s.cm,p.aA=a.kr:=by
  intro h;rw[bZ (show ¬a.kind=8 by omega),bZ (show ¬a.kind=9 by omega)]at e2;simp only[Bool.or_false,Bool.not_false,if_true,aY,Bool.true_and]at e2;by_cases q:s.cm.any (λx=>decide (x.aA=a.kr))=true
  ·obtain⟨p,hp,hp2⟩:=List.any_eq_true.1 q;exact⟨p,hp,by simpa using hp2⟩
  ·rw[aO (by simpa using q)]at e2;cases e2
 refine⟨hk,asW,?_⟩;have:∀(c:Bool)(x y:Bool),∃r,(if c=true then some x else some y:Option Bool)=some r:=by intro c x y;cases c<;>exact⟨_,rfl⟩
 obtain⟨r,hr⟩:=this (!((decide (a.kind=8))||(decide (a.kind=9)))) (s.cm.any (λx=>(decide (x.aA=a.kr)))) default;rw[hr,aY]at e2;split at e2
 ·cases e2
 by_cases k6:a.kind=6
 ·rw[aO k6]at e2;simp only[aY]at e2;by_cases q:bf a.level 0 36000000=true
  ·have:=sL q;exact⟨λh=>absurd k6 h,this.1,this.2⟩
  ·rw[aO (by simpa using q)]at e2;cases e2
 ·rw[aK k6]at e2;by_cases k9:a.kind=9
  ·rw[aO k9]at e2;simp only[aY]at e2;by_cases q:bf a.level 0 1=true
   ·have:=sL q;exact⟨λ_=>⟨this.1,by omega⟩,this.1,by omega⟩
   ·rw[aO (by simpa using q)]at e2;cases e2
  ·rw[aK k9]at e2;simp only[aY]at e2;by_cases q:bf a.level 0 65535=true
   ·have:=sL q;exact⟨λ_=>⟨this.1,by omega⟩,this.1,by omega⟩
   ·rw[aO (by simpa using q)]at e2;cases e2
noncomputable def wN (d:bJ) (a:fk):Int:=
 ([(([(if decide ((d.bV.length:Int)=5000)=true then 2 else 0),D9 a,(if(!(bf a.time 0 36000000))=true then 1 else 0),(if decide (a.time<nN d.bV)=true then 7 else 0)]:List Int).find? λn=>decide (¬n=0)).getD 0,ER d.setup a].find? λn=>decide (¬n=0)).getD 0
noncomputable def kH (d:bJ) (a:fk):bJ×Int:=
 if ¬(wN d a=0)then(d,wN d a)
 else if ¬((kN d (jr d d.state a.time) a).2=0)then(d,(kN d (jr d d.state a.time) a).2)
 else({d with state:=(kN d (jr d d.state a.time) a).1,bV:=d.bV++[a]},0)
theorem aoN{a b:Int}(h:(([a,b]:List Int).find? λn=>decide (¬n=0)).getD 0=0):a=0∧b=0:=by
 by_cases ha:a=0
 ·by_cases hb:b=0
  ·exact⟨ha,hb⟩
  ·simp [List.find?,ha,hb]at h
 ·simp [List.find?,ha]at h
theorem aoO{a b c e:Int}(h:(([a,b,c,e]:List Int).find? λn=>decide (¬n=0)).getD 0=0):a=0∧b=0∧c=0∧e=0:=by
 by_cases ha:a=0
 ·by_cases hb:b=0
  ·by_cases hc:c=0
   ·by_cases he:e=0
    ·exact⟨ha,hb,hc,he⟩
    ·simp [List.find?,ha,hb,hc,he]at h
   ·simp [List.find?,ha,hb,hc]at h
  ·simp [List.find?,ha,hb]at h
 ·simp [List.find?,ha]at h
theorem U8{d:bJ}{a:fk}(h:wN d a=0):¬((d.bV.length:Int)=5000)∧D9 a=0∧(0≤a.time∧a.time≤36000000)∧nN d.bV≤a.time∧ER d.setup a=0:=by
 obtain⟨h1,h2⟩:=aoN h;obtain⟨k1,k2,k3,k4⟩:=aoO h1;refine⟨λq=>?_,k2,?_,?_,h2⟩
 ·rw[ct q,aO rfl]at k1;cases k1
 ·by_cases q:bf a.time 0 36000000=true
  ·exact sL q
  ·rw[aO (by simpa using q)]at k3;cases k3
 ·by_cases q:a.time<nN d.bV
  ·rw[ct q,aO rfl]at k4;cases k4
  ·omega
structure yZ (d : bJ) : Prop where
 di:sN d
 si:jE (nN d.bV) d.state
 Wv:d.state.aD.map (·.aA)=d.setup.cm.map (·.aA)
 len:d.bV.length≤5000
 par:d.params.isSome=true
theorem yZ.pl{d:bJ}(h:yZ d):d.setup.cm.length≤bu:=by have e:=congrArg List.length h.Wv;simp only[List.length_map]at e;have:=h.si.len;unfold bu;omega
theorem Pp{l:List bC}{i:Nat}{b b':bC}(h:l[i]? =some b)(e:b'.aA=b.aA):(l.set i b').map (·.aA)=l.map (·.aA):=by
 rw[List.map_set];refine List.ext_getElem? λj=>?_
 rw[lp];split
 ·rename_i q;have hl:=(bQ.1 h).1;rw[aO (by simpa [←q]using hl),qH,←q,h,cC,e]
 ·rfl
theorem al5{d:bJ}{t:Int}{s s':cE}(h:qn d t s=some s'):s'.aD.map (·.aA)=s.aD.map (·.aA):=by
 unfold qn at h;split at h
 ·cases h
 obtain⟨b,hb,h⟩:=bN.1 h;obtain⟨x,hx,rfl⟩:=eG.1 h;exact Pp hb rfl
theorem Zp{d:bJ}{t:Int}:∀(n:Nat)(s:cE),(rN d t n s).aD.map (·.aA)=s.aD.map (·.aA)
 |0,s=>rfl
 |n+1,s=>by
  unfold rN;cases h:qn d t s with
  |none=>rfl
  |some s'=>simp only;rw[Zp n s',al5 h]
theorem Ts(d:bJ)(s:cE)(t:Int):(jr d s t).aD.map (·.aA)=s.aD.map (·.aA):=Zp _ s
theorem alA:sA ⟨1,[]⟩=0:=by decide
theorem aom{d:bJ}(hI:sN d){s:cE}{a:fk}(hs:jE a.time s)(hk:1≤a.kind∧a.kind≤9)(hl:a.kind≠6→0≤a.level∧a.level≤65535)(ym:0≤a.level∧a.level≤36000000):jE a.time (kN d s a).1∧(kN d s a).1.aD.map (·.aA)=s.aD.map (·.aA):=by
 have ht:=hs.n;unfold kN;by_cases k8:a.kind=8
 ·rw[aO k8];exact⟨⟨hs.n,hs.len,hs.bs,hl (by omega)⟩,rfl⟩
 rw[aK k8];by_cases k9:a.kind=9
 ·rw[aO k9];exact⟨⟨hs.n,hs.len,hs.bs,hs.l5⟩,rfl⟩
 rw[aK k9];generalize (lH (λb:bC=>decide (b.aA=a.kr)) s.aD).toNat=i;cases hb:s.aD[i]? with
 |none=>exact⟨hs,rfl⟩
 |some b=>
  simp only;have zz:=dA hb;have hB:=hs.bs b zz;have iq:=F5 hB.tG (Int.le_refl _) ht.2;have put:∀b':bC,yY a.time b'→b'.aA=b.aA→jE a.time (JP s i b')∧(JP s i b').aD.map (·.aA)=s.aD.map (·.aA):=λb' h1 h2=>⟨Pq hs i h1 _,Pp hb h2⟩
  have go:∀to:Int,0≤to→jE a.time (wP d s i b to a.time).1∧(wP d s i b to a.time).1.aD.map (·.aA)=s.aD.map (·.aA):=by
   intro to h0;unfold wP;cases hx:b.bU[to.toNat]? with
   |none=>exact⟨hs,rfl⟩
   |some x=>
    have e:to=((to.toNat:Nat):Int):=by omega
    have:=acO hI (Ux hs (IntKind.i64.wrap (s.aA+1))) (Int.le_refl _) ht.2 zz hx;rw[←e]at this;exact⟨Pq hs i this _,Pp hb rfl⟩
  have avh:=hB.cZ;unfold Gl;split
  ·split
   ·exact⟨hs,rfl⟩
   ·exact go _ (by omega)
  split
  ·split
   ·exact⟨hs,rfl⟩
   ·exact go _ (by omega)
  split
  ·split
   ·exact⟨hs,rfl⟩
   ·exact go _ (by omega)
  split
  ·split
   ·exact⟨hs,rfl⟩
   ·refine put _ ⟨hB.uI,hB.eD,hB.can,hB.runs,hB.kY,⟨iq.2.1,iq.2.2,Int.le_refl _⟩,hB.cZ,?_⟩ rfl;rcases hB.EW with h|⟨h1,h2,h3⟩
    ·exact .inl h
    ·exact .inr ⟨h1,h2,h3⟩
  split
  ·split
   ·exact⟨hs,rfl⟩
   ·rename_i hst;have Mr:b.aM.mD=true:=by simpa using hst
    obtain⟨c1,c2,c3⟩:=hB.tG;refine put _ ⟨hB.uI,hB.eD,hB.can,hB.runs,hB.kY,⟨c1,by show b.aM.shown≤a.time;omega,Int.le_refl _⟩,hB.cZ,?_⟩ rfl;rcases hB.EW with h|⟨h1,h2,h3⟩
    ·exact .inl h
    ·refine .inr ⟨h1,?_,h3⟩;rw[iq.1,aO Mr]at h2;show IntKind.i64.wrap (IntKind.i64.wrap (b.aM.shown+a.time) -a.time)≤b.eF;rw[show IntKind.i64.wrap (b.aM.shown+a.time)=b.aM.shown+a.time from cR (by unfold aU;omega),cR (by unfold aU;omega)];omega
  split
  ·split
   ·exact⟨hs,rfl⟩
   ·refine⟨Pq hs i (b:=wK d {s with aA:=IntKind.i64.wrap (s.aA+1)} b a) ⟨hB.uI,hB.eD,abF (O2 (ZS hB)),λk r hkr=>?_,hB.kY,⟨iq.2.1,iq.2.2,Int.le_refl _⟩,⟨by show(-1:Int)≤-1;omega,by show(-1:Int)<_;omega⟩,.inl (by show(-1:Int)<0;decide)⟩ _,Pp hb rfl⟩;have hm:(k,r)∈Lx d {s with aA:=IntKind.i64.wrap (s.aA+1)} b a:=(TU _).mem_iff.1 hkr;obtain⟨p,hp,q⟩:=List.mem_filterMap.1 hm;obtain⟨r',hr',q⟩:=eG.1 q;injection q with q1 q2
    subst q2;refine⟨?_,by rw[←q1];exact(hB.runs p.1 p.2 hp).2⟩;unfold BF at hr';split at hr'
    ·cases hr'
    ·rename_i hq;injection hr' with hr'
     subst hr'
     have oA:(fc b p.1 (eO b.aM a.time)).2=true:=by
      cases h:(fc b p.1 (eO b.aM a.time)).2
      ·exact absurd (.inl h) hq
      ·rfl
     have hfo:=CA (hB.ok (Int.le_refl _) ht.2) oA;exact PF (Jq hfo _) (by simp) ⟨iq.2.1,by show eO b.aM a.time≤_;omega⟩ (by simp) ym alA
  ·exact put _ ⟨hB.uI,hB.eD,hB.can,hB.runs,hl (by assumption),hB.tG,hB.cZ,hB.EW⟩ rfl
theorem P3{d:bJ}(h:yZ d)(a:fk):yZ (kH d a).1:=by
 unfold kH;split
 ·exact h
 rename_i h0;have h0:wN d a=0:=by simpa using h0
 obtain⟨k1,k2,k3,k4,k5⟩:=U8 h0;obtain⟨a1,a2,a3,a4⟩:=U4 h.pl k2 k5;split
 ·exact h
 ·have hA:=OR h.di h.si k4 k3.2;obtain⟨b1,b2⟩:=aom h.di hA a1 a3 a4;refine⟨⟨h.di.pre,h.di.lev,h.di.par⟩,?_,?_,?_,h.par⟩
  ·have:nN (d.bV++[a])=a.time:=by unfold nN;simp
   show jE (nN (d.bV++[a])) _;rw[this];exact b1
  ·show(kN d (jr d d.state a.time) a).1.aD.map (·.aA)=_;rw[b2,Ts];exact h.Wv
  ·show(d.bV++[a]).length≤5000;rw[List.length_append,List.length_singleton];exact Nat.lt_of_le_of_ne h.len (λq=>k1 (by rw[q];rfl))
end
section
set_option maxRecDepth 100000
open HP
section
variable {aJ σ : Heap} {R : HP} {pd : AV} {d : bJ}
theorem atv(a b c e:Int):((((A.cell (.ah a)).bind λv=>some [v]).bind λiW=>(A.au 0 iW [(AV.ah 0),(AV.ah 0),(AV.ah 0),(AV.ah 0)]).bind λjf=>((A.cell (.ah b)).bind λv=>some [v]).bind λlJ=>(A.au 1 lJ jf).bind λiM=>((A.cell (.ah c)).bind λv=>some [v]).bind λfJ=>(A.au 2 fJ iM).bind λiN=>((A.cell (.ah e)).bind λv=>some [v]).bind λjx=>(A.au 3 jx iN).bind λgK=>some gK).bind λcs=>some (AV.sl 1 (gf 1 4 cs)))=some (sl 1 vq [a,b,c,e]):=rfl
theorem ary(a b:Int):((((A.cell (.ah a)).bind λv=>some [v]).bind λjF=>(A.au 0 jF [(AV.ah 0),(AV.ah 0)]).bind λjG=>((A.cell (.ah b)).bind λv=>some [v]).bind λij=>(A.au 1 ij jG).bind λnG=>some nG).bind λcs=>some (AV.sl 1 (gf 1 2 cs)))=some (sl 1 vq [a,b]):=rfl
theorem akM(a:fk):(((A.cells 5 (.agg (bX a))).bind λDn=>(A.au 0 Dn [(AV.ah 0),(AV.ah 0),(AV.ah 0),(AV.ah 0),(AV.ah 0)]).bind λqU=>some qU).bind λcs=>some (AV.sl 5 (gf 5 1 cs)))=some (.sl 5 [bX a]):=rfl
theorem ado{r:AV→AV→Heap→aH}{x y v:AV}{σ σ':Heap}(e:r x y σ=some (v,σ')):A.wrap false [] .k (A.dL r) [x,y] σ=some (v,σ'):=by have:A.dL r [x,y] σ=some (v,σ'):=e;simp only[A.wrap,Bool.false_and,bG,A.dr,this,cC,kF]
theorem P0{α:Type}{c:α→aq}{sz:Nat}{B:aS→Prop}{v:AV}{l:List α}(H:Hs B aJ σ (Sl (fl c) sz v l*R)):A.cell v=some v:=by rcases Bw H with⟨_,rfl|rfl,_⟩|⟨id,g,rfl,_⟩<;>rfl
theorem ads{id:Nat}{vb:AV}{br:Nat}{va:AV}(hp:d.params.isSome=true)(hl:d.bV.length≤bu)(H:Hs cS aJ σ (kD id vb br va d*R)):Ch [.op id 0] σ=some (.ah (nN d.bV),σ):=
 EN (dX:=[.op id 0]) (ts:=[.rp (uh d)]) ⟨PL hp H,trivial⟩ (λσ=>adt d hl σ) rfl
theorem aqK{id:Nat}{vb:AV}{br:Nat}{va:AV}(hp:d.params.isSome=true)(hl:d.bV.length≤bu)(H:Hs cS aJ σ (kD id vb br va d*R))(t:Int):Kx [.op id 0,.ah t] σ=some (.ah (wB d.bV t),σ):=
 EN (dX:=[.op id 0,.ah t]) (ts:=[.rp (uh d),.ah t]) ⟨PL hp H,Ve t,trivial⟩ (λσ=>aqL d hl t σ) rfl
theorem PZ{id:Nat}{vb:AV}{br:Nat}{va:AV}{B:aS→Prop}(H:Hs B aJ σ (kD id vb br va d*R)):σ[id]? =some (.box (iU vb br va d)):=
 (kC (eu (show _=blk id (.box (iU vb br va d))*(Sl (fl aV) 10 vb d.state.aD*(blk br (.map ((d.params.getD []).map jv))*Sl (fl bX) 5 va d.bV)*R) by unfold kD;ac_rfl) H)).2
theorem U5{s:cE}{v:AV}{H:Heap}(h:Jt σ s v H):(∃ex,H=σ++ex)∧A.storeAt (.op H.length 0) (bI v s) (H++[aS.box wM])=some (H++[aS.box (bI v s)])∧(H++[aS.box (bI v s)])[H.length]? =some (.box (bI v s))∧((s.aD=[]∧v=.ez)∨∃g,v=.os (σ.length+1) g 10 0 s.aD.length∧SA σ (H++[aS.box (bI v s)]) H.length (σ.length+1) g s):=by
 obtain⟨⟨ex,hex⟩,_⟩:=h.ex;have hlen:σ.length≤H.length:=by rw[hex];simp
 have G0:(H++[aS.box wM])[H.length]? =some (.box wM):=by rw[jj (aQ _),Nat.sub_self];rfl
 have G1:(H++[aS.box (bI v s)])[H.length]? =some (.box (bI v s)):=by rw[jj (aQ _),Nat.sub_self];rfl
 refine⟨⟨ex,hex⟩,?_,G1,?_⟩
 ·simp only[A.storeAt,G0];rw[show A.au 0 (bI v s) wM=some (bI v s)from rfl,cC,rR _ _ (aQ _),Nat.sub_self];rfl
 ·rcases h with⟨h1,h2,h3⟩|⟨g,h1,h2⟩
  ·exact .inl ⟨h1,h2⟩
  ·refine .inr ⟨g,h1,⟨by rw[←h1];exact G1,?_,⟨ex++[aS.box (bI v s)],by rw[hex,mm]⟩,hlen,Nat.le_succ _⟩⟩;have hl:σ.length+1<H.length:=by rw[h2];simp
   rw[jk hl,h2];exact Qd σ g s
theorem aol{d:bJ}{pd:AV}(hI:sN d){σ H:Heap}(hd:vE pd d σ){s:cE}{v:AV}(h:Jt σ s v H){a:fk}(hs:jE a.time s)(hk:1≤a.kind∧a.kind≤9)(hp:a.kind≤7→∃b∈s.aD,b.aA=a.kr):
  ∃W',Ky [pd,.op H.length 0,.agg (bX a)] (H++[aS.box (bI v s)])=some (.ah (kN d s a).2,W')∧(∃ex,W'=σ++ex)∧W'[H.length]? =some (.box (bI v (kN d s a).1))∧((((kN d s a).1).aD=[]∧v=.ez)∨∃g,v=.os (σ.length+1) g 10 0 (kN d s a).1.aD.length∧W'[σ.length+1]? =some (.arr g 10 ((kN d s a).1.aD.map aV))):=by
 obtain⟨hex,_,G1,hc⟩:=U5 h;have Mn:∃ex,H++[aS.box (bI v s)]=σ++ex:=by obtain⟨ex,rfl⟩:=hex;exact⟨_,mm _ _ _⟩
 have hlen:σ.length≤H.length:=by obtain⟨ex,rfl⟩:=hex;simp
 by_cases k7:a.kind≤7
 ·rcases hc with⟨h1,h2⟩|⟨g,h1,A5⟩
  ·obtain⟨b,hb,_⟩:=hp k7;rw[h1]at hb;cases hb
  ·obtain⟨W',w1,w2⟩:=aqY hI hd A5 hs ⟨hk.1,k7⟩ (hp k7)
   have hle:(kN d s a).1.aD.length=s.aD.length:=by
    have:=w2.b1;have e:∀l1 l2:List bC,l1.map (·.aA)=l2.map (·.aA)→l1.length=l2.length:=λl1 l2 h=>by simpa using congrArg List.length h
    unfold kN;rw[aK (by omega),aK (by omega)];generalize (lH (λb:bC=>decide (b.aA=a.kr)) s.aD).toNat=i;cases hb:s.aD[i]? with
    |none=>rfl
    |some b=>
     simp only
     have hgo:∀to,(wP d s i b to a.time).1.aD.length=s.aD.length:=by intro to;unfold wP;cases b.bU[to.toNat]? <;>simp
     unfold Gl;repeat (first|rfl|exact hgo _|exact List.length_set|split)
   refine⟨W',w1,w2.ex,?_,.inr ⟨g,by rw[hle];exact h1,w2.b2⟩⟩;rw[w2.b1,hle,←h1]
 ·have Ce:((A.deref (.op H.length 1) (H++[aS.box (bI v s)])).bind λc=>A.ak 0 c)=some (.ah s.aA):=by simp only[A.deref,G1];rfl
  have Nt:∀(k:Nat)(W:Heap),A.deref (.rp ((bX a).drop k)) W=some ((bX a).drop k):=λk W=>rfl
  obtain⟨W0,EZ⟩:∃W0,W0=H++[aS.box (bI v s)]:=⟨_,rfl⟩
  have hHl:H.length<W0.length:=by rw[EZ];simp
  rw[←EZ]at Ce G1 Mn ⊢
  have st:∀(s1 s2:cE)(o:Nat)(new:aq),A.au o new (bI v s1)=some (bI v s2)→A.storeAt (.op H.length o) new (W0.set H.length (.box (bI v s1)))=some (W0.set H.length (.box (bI v s2))):=by intro s1 s2 o new hsp;simp only[A.storeAt,oK hHl,hsp,cC,List.set_set]
  have Ib:A.storeAt (.op H.length 1) [.ah (IntKind.i64.wrap (s.aA+1))] W0=some (W0.set H.length (.box (bI v {s with aA:=IntKind.i64.wrap (s.aA+1)}))):=by simp only[A.storeAt,G1];rfl
  have fin:∀s':cE,s'.aD=s.aD→(∃ex,W0.set H.length (.box (bI v s'))=σ++ex)∧(W0.set H.length (.box (bI v s')))[H.length]? =some (.box (bI v s'))∧((s'.aD=[]∧v=.ez)∨∃g,v=.os (σ.length+1) g 10 0 s'.aD.length∧(W0.set H.length (.box (bI v s')))[σ.length+1]? =some (.arr g 10 (s'.aD.map aV))):=by
   intro s' hs';refine⟨Va Mn hlen _,oK hHl,?_⟩;rcases hc with⟨h1,h2⟩|⟨g,h1,A5⟩
   ·exact .inl ⟨by rw[hs'];exact h1,h2⟩
   ·rw[←EZ]at A5;refine .inr ⟨g,by rw[hs'];exact h1,?_⟩;rw[List.getElem?_set_ne A5.ne,hs'];exact A5.b2
  have run:∃W',Iu pd (.op H.length 0) (.agg (bX a)) W0=some (.ah (kN d s a).2,W')∧W'=W0.set H.length (.box (bI v (kN d s a).1))∧(kN d s a).1.aD=s.aD:=by
   unfold Iu kN;rw[show((A.cells 5 (.agg (bX a))).bind λcs=>some (AV.rp cs))=some (.rp (bX a))from rfl,bS];simp only[nP,bS,Nt,show A.ak 0 ((bX a).drop 1)=some (.ah a.kind)from rfl,show A.ak 0 ((bX a).drop 4)=some (.ah a.level)from rfl,jU,show A.aW (.op H.length 0)=some (.op H.length 0)from rfl,show ∀o,A.aF o (.op H.length 0)=some (.op H.length o)from λo=>by simp [A.aF],Ce,nv];by_cases k8:a.kind=8
   ·rw[aO k8,ct k8,dO,sE,bS,Ib,bS,sE,bS,st _ {s with aA:=IntKind.i64.wrap (s.aA+1),l5:=a.level} 2 _ rfl,bS];exact⟨_,rfl,rfl,rfl⟩
   ·have k9:a.kind=9:=by omega
    rw[aK k8,bZ k8,dw,aO k9,ct k9,dO,sE,bS,Ib,bS,show((A.cell (AV.bool (decide (a.level=1)))).bind λv=>some [v])=some [.bool (decide (a.level=1))]from rfl,bS,st _ {s with aA:=IntKind.i64.wrap (s.aA+1),black:=decide (a.level=1)} 3 _ rfl,bS];exact⟨_,rfl,rfl,rfl⟩
  obtain⟨W',e1,e2,e3⟩:=run;subst e2;exact⟨_,Vp (kF _) e1,fin _ e3⟩
theorem VJ(hK:yZ d)(a:fk)(H:Hs cS aJ σ (nu pd d*R)):∃σ',Fm [pd,.agg (bX a)] σ=some (.ah (kH d a).2,σ')∧Hs cS aJ σ' (nu pd (kH d a).1*R):=by
 suffices h:∃σ',Og pd (.agg (bX a)) σ=some (.ah (kH d a).2,σ')∧Hs cS aJ σ' (nu pd (kH d a).1*R) by obtain⟨σ',e,h⟩:=h;exact⟨σ',ado e,h⟩
 obtain⟨id,vb,br,va,rfl,hp,H⟩:=O7 H;have pY:=PZ H;have ae9:=(bQ.1 pY).1;have Dv:d.bV.length≤bu:=by have:=hK.len;unfold bu;omega
 have tM:=eu (show _=Sl (fl bX) 5 va d.bV*(Sl (fl aV) 10 vb d.state.aD*blk id (.box (iU vb br va d))*blk br (.map ((d.params.getD []).map jv))*R) by unfold kD;ac_rfl) H;have Re:=eu (show _=Sl (fl aV) 10 vb d.state.aD*(blk id (.box (iU vb br va d))*(blk br (.map ((d.params.getD []).map jv))*Sl (fl bX) 5 va d.bV)*R) by unfold kD;ac_rfl) H;have ca:=P0 tM;have cb:=P0 Re;unfold Og;rw[show A.cells 5 (.agg (bX a))=some (bX a)from rfl,bS];simp only[show A.aW (.op id 0)=some (.op id 0)from rfl,bS,show ∀o,A.aF o (.op id 0)=some (.op id o)from λo=>by simp [A.aF]];rw[show((A.deref (.op id 11) σ).bind λc=>A.ak 0 c)=some va from by simp only[A.deref,pY];exact ca,bS,aea tM,bS,jU,bS,fM (yK _ _ σ),bS,KV,bS,fM (agR (abO a)),bS,aiB,bS,fM (abY _ σ),bS,AL,bS,fM (yK _ _ σ),bS,bS,fM (ads hp Dv H),bS,mU,bS,fM (yK _ _ σ),bS,atv,bS,fM (FT _ (by show 4≤bu;decide) σ),bS];rw[show((A.deref (.op id 4) σ).bind λc=>A.aC 0 5 c)=some (.agg (bO d.setup))from by simp only[A.deref,pY];rfl,bS,bS,fM (agS (acg hK.pl a)),bS,ary,bS,fM (FT _ (by show 2≤bu;decide) σ),bS];have hE:(([(([(if decide ((d.bV.length:Int)=5000)=true then 2 else 0),D9 a,(if(!(bf a.time 0 36000000))=true then 1 else 0),(if decide (a.time<nN d.bV)=true then 7 else 0)]:List Int).find? λn=>decide (¬n=0)).getD 0,ER d.setup a]:List Int).find? λn=>decide (¬n=0)).getD 0=wN d a:=rfl;rw[hE,fW,bS];unfold kH;by_cases h0:wN d a=0
 case neg=>
  rw[ct h0,dO,aO h0];exact⟨σ,rfl,FW hp H⟩
 rw[bZ (λq=>q h0),dw,aK (λq=>q h0),bS];obtain⟨k1,k2,k3,k4,k5⟩:=U8 h0;obtain⟨a1,a2,a3,a4⟩:=U4 hK.pl k2 k5;have hrd:=adb hp H;obtain⟨v,W,e1,e2⟩:=acD hK.di hrd k3.2 hK.si k4 ⟨.op id 0,by simp [A.aF],by simp only[A.deref,pY];rfl⟩ (adi Re);have MS:=OR hK.di hK.si k4 k3.2;obtain⟨s1,hs1⟩:∃s1,s1=jr d d.state a.time:=⟨_,rfl⟩
 have hpl:a.kind≤7→∃b∈s1.aD,b.aA=a.kr:=by
  intro h;obtain⟨p,hp1,hp2⟩:=a2 h;have hn:s1.aD.map (·.aA)=d.setup.cm.map (·.aA):=by rw[hs1,Ts];exact hK.Wv
  have:a.kr∈s1.aD.map (·.aA):=by rw[hn,←hp2];exact ia.2 ⟨p,hp1,rfl⟩
  obtain⟨b,hb,nV⟩:=ia.1 this;exact⟨b,hb,nV⟩
 rw[←hs1]at e1 e2 MS ⊢;rw[e1,bS];simp only;rw[show A.cells 4 (.agg (bI v s1))=some (bI v s1)from rfl,bS];obtain⟨x1,x2,x3,x4⟩:=U5 e2;rw[x2,bS,bS];obtain⟨W',w1,w2,w3,w4⟩:=aol hK.di hrd e2 MS a1 hpl;rw[w1,bS];simp only;rw[fW,bS];by_cases hr:(kN d s1 a).2=0
 case neg=>
  rw[ct hr,dO,aO hr];obtain⟨ex,rfl⟩:=w2;exact⟨_,rfl,FW hp (UR H ex)⟩
 rw[bZ (λq=>q hr),dw,aK (λq=>q hr)];obtain⟨s2,hs2⟩:∃s2,s2=(kN d s1 a).1:=⟨_,rfl⟩
 rw[←hs2]at w3 w4 ⊢;rw[show((A.deref (.op W.length 0) W').bind λc=>A.aC 0 4 c)=some (.agg (bI v s2))from by simp only[A.deref,w3];rfl,bS,show A.cells 4 (.agg (bI v s2))=some (bI v s2)from rfl,bS]
 -- the new boards are the desk's own
 have K:Hs cS aJ W' (blk id (.box (iU vb br va d))*(Sl (fl aV) 10 v s2.aD*(blk br (.map ((d.params.getD []).map jv))*(Sl (fl bX) 5 va d.bV*R)))):=by
  obtain⟨ex,hex⟩:=w2
  have H':Hs cS aJ W' (blk id (.box (iU vb br va d))*(blk br (.map ((d.params.getD []).map jv))*(Sl (fl bX) 5 va d.bV*R))):=by rw[hex];exact UR (zX (eu (show _=Sl (fl aV) 10 vb d.state.aD*(blk id (.box (iU vb br va d))*(blk br (.map ((d.params.getD []).map jv))*(Sl (fl bX) 5 va d.bV*R))) by unfold kD;ac_rfl) H)) ex
  rcases w4 with⟨q1,q2⟩|⟨g,q1,q2⟩
  ·rw[q1,q2];exact eu (show _=_ by ac_rfl) (uL (v:=.ez) (E:=fl aV) (sz:=10) H' (.inr rfl))
  ·rw[q1];have H'':=zX (eu (show _=Sl (fl aV) 10 vb d.state.aD*(blk id (.box (iU vb br va d))*(blk br (.map ((d.params.getD []).map jv))*(Sl (fl bX) 5 va d.bV*R))) by unfold kD;ac_rfl) H);have A1:=Ph H'' ⟨ex,hex⟩ (Nat.le_succ _) q2;exact eu (show _=_ by ac_rfl) (Qc (n:=s2.aD.length) A1)
 have K1:=CC (b':=.box (iU v br va {d with state:=s2})) K trivial;have asY:=(kC K).2;rw[show A.storeAt (.op id 0) (bI v s2) W'=some (W'.set id (.box (iU v br va {d with state:=s2})))from by simp only[A.storeAt,asY];rfl,bS];have as0:=(kC K1).2;rw[show((A.deref (.op id 11) (W'.set id (.box (iU v br va {d with state:=s2})))).bind λc=>A.ak 0 c)=some va from by simp only[A.deref,as0];exact ca,bS,bS,akM,bS]
 have K2:=eu (show _=Sl (fl bX) 5 va d.bV*(els (fl bX) [bX a] [a]*(blk id (.box (iU v br va {d with state:=s2}))*(Sl (fl aV) 10 v s2.aD*(blk br (.map ((d.params.getD []).map jv))*R)))) by
  rw[show els (fl bX) [bX a] [a]=pr (bX a=bX a)*emp from rfl];ac_rfl) (qm.2 ⟨(rfl:bX a=bX a),eu (D2 _).symm K1⟩)
 obtain⟨DI,W2,f1,f2⟩:=LG (most:=140737488355328 / 40) K2 (by have:=hK.len;simp;omega) (λ_ _ _ _=>trivial);rw[f1,bS];simp only;have ca':=P0 f2;have K3:=eu (show _=blk id (.box (iU v br va {d with state:=s2}))*(Sl (fl bX) 5 DI (d.bV++[a])*(Sl (fl aV) 10 v s2.aD*(blk br (.map ((d.params.getD []).map jv))*R))) by ac_rfl) f2;have as1:=(kC K3).2;have K4:=CC (b':=.box (iU v br DI {d with state:=s2,bV:=d.bV++[a]})) K3 trivial;rw[show((A.cell DI).bind λv=>some [v])=some [DI]from by rw[ca'];rfl,bS,show A.storeAt (.op id 11) [DI] W2=some (W2.set id (.box (iU v br DI {d with state:=s2,bV:=d.bV++[a]})))from by simp only[A.storeAt,as1];rfl,bS];exact⟨_,rfl,FW (d:={d with state:=s2,bV:=d.bV++[a]}) hp (eu (show _=kD id v br DI {d with state:=s2,bV:=d.bV++[a]}*R by unfold kD;ac_rfl) K4)⟩
end
end
section
set_option maxRecDepth 100000
open HP
noncomputable def iH (d:bJ) (s:cE) (k:aG) (t:Int):Int:=if ¬(eR d k).1=1 then(oV d s.aD k t).out else if s.black=true then 0 else tO (oV d s.aD k t).out s.l5
noncomputable def AK (d:bJ) (t:Int):List nK×Int:=
 if ¬(wB d.bV t=0)then([],wB d.bV t)else(d.keys.map (λk=>⟨k,iH d (jr d d.state t) k t⟩),0)
theorem aoa{l:List fk}{t:Int}(h:wB l t=0):(0≤t∧t≤36000000)∧nN l≤t:=by
 unfold wB at h;split at h
 ·rename_i q;refine⟨sL q,?_⟩;by_cases q2:t<nN l
  ·rw[ct q2,aO rfl]at h;cases h
  ·omega
 ·cases h
section
variable {aJ σ : Heap} {R : HP} {pd : AV} {d : bJ} {B : aS → Prop}
theorem alZ{ids:Nat}{v:AV}{s:cE}(H:Hs B aJ σ (blk ids (.box (bI v s))*(Sl (fl aV) 10 v s.aD*R))):Lt σ U0 (.op ids 0) (.rp (uV s)):=by
 obtain⟨uM,b1,b2,b3⟩:=LH (eu (show _=Sl (fl aV) 10 v s.aD*(blk ids (.box (bI v s))*R) by ac_rfl) H) FK (jQ _) 6;have hg:=(kC H).2;refine⟨⟨.rp [uM,.ah s.aA,.ah s.l5,.bool s.black],?_,rfl,?_⟩,rfl,λh=>by cases h⟩
 ·simp only[A.bM,Nat.not_lt_zero,if_false,hg,List.drop_zero,bI,A.xz,b1,aY,cC]
 ·show AV.rp (A.dr [(.s 10),.k,.k,.k] _)=AV.rp (A.dr [(.s 10),.k,.k,.k] (uV s));congr 1;unfold uV;simp only[A.dr,b3];rfl
theorem aoW{id:Nat}{vb:AV}{br:Nat}{va:AV}(hp:d.params.isSome=true){ids:Nat}{v:AV}{s:cE}(H:Hs B aJ σ (kD id vb br va d*(blk ids (.box (bI v s))*(Sl (fl aV) 10 v s.aD*R))))(hI:sN d){t:Int}(hs:jE t s)(k:aG):Fj [.op id 0,.op ids 0,.agg (aX k),.ah t] σ=some (.ah (iH d s k t),σ):=by
 have M5:∀b∈s.aD,uZ b t:=λb hb=>(hs.bs b hb).ok (Int.le_refl _) hs.n.2
 exact EN (dX:=[.op id 0,.op ids 0,.agg (aX k),.ah t]) (ts:=[.rp (uh d),.rp (uV s),.agg (aX k),.ah t]) ⟨PL hp H,alZ (zX H),Qo (Ab (Cu k)) rfl,Ve t,trivial⟩ (λσ=>aoX (by have:=hs.len;unfold bu;omega) M5 hs.l5 (λ_=>Vf hI M5) σ) rfl
theorem apa(k:aG)(n:Int):(((A.cells 2 (.agg (aX k))).bind λfJ=>(A.au 0 fJ [(AV.ah 0),bB,(AV.ah 0)]).bind λiN=>((A.cell (.ah n)).bind λv=>some [v]).bind λjx=>(A.au 2 jx iN).bind λgK=>some gK).bind λcs=>some (AV.agg cs))=some (.agg (eo ⟨k,n⟩)):=rfl
theorem apF(x:nK):(((A.cells 3 (.agg (eo x))).bind λqR=>(A.au 0 qR [(AV.ah 0),bB,(AV.ah 0)]).bind λuB=>some uB).bind λcs=>some (AV.sl 3 (gf 3 1 cs)))=some (.sl 3 [eo x]):=rfl
theorem ajg{id:Nat}{vb:AV}{br:Nat}{va:AV}(hp:d.params.isSome=true){ids:Nat}{v:AV}{s:cE}(hI:sN d){t:Int}(hs:jE t s)(hk:d.keys.length≤1000000){i:Nat}{k:aG}(hi:d.keys[i]? =some k){vo:AV}{out:List nK}(ho:out.length≤1000000)(H:Hs cS aJ σ (kD id vb br va d*(blk ids (.box (bI v s))*(Sl (fl aV) 10 v s.aD*(Sl (fl eo) 3 vo out*R))))):
  ∃ jm σ', ((λv11 mR =>
    (A.lss (aj v11 1) (AV.ah (d.keys.length:Int))).bind λef=>
    A.cond ef (
     (A.bh 2 (sl 2 aX d.keys) (aj v11 1)).bind λdV=>
     ((A.deref dV mR).bind λnF=>A.aC 0 2 nF).bind λdQ=>
     (A.cells 2 dQ).bind λkn=>
     (A.au 0 kn [(AV.ah 0),bB]).bind λiW=>
     (A.aC 0 2 iW).bind λeC=>
     (A.aC 0 2 iW).bind λcO=>
     (A.quiet (Fj [(AV.op id 0),(AV.op ids 0),cO,(AV.ah t)] mR) mR).bind λdW=>
     (((A.cells 2 eC).bind λfJ=>(A.au 0 fJ [(AV.ah 0),bB,(AV.ah 0)]).bind λiN=>((A.cell dW).bind λv=>some [v]).bind λjx=>(A.au 2 jx iN).bind λgK=>some gK).bind λcs=>some (AV.agg cs)).bind λeE=>
     (((A.cells 3 eE).bind λqR=>(A.au 0 qR [(AV.ah 0),bB,(AV.ah 0)]).bind λuB=>some uB).bind λcs=>some (AV.sl 3 (gf 3 1 cs))).bind λdF=>
     (A.append 3 (140737488355328 / 32) (aj v11 0) dF mR).bind λqZ=>
     (A.add (aj v11 1) (AV.ah 1)).bind λx32=>
     some (AX.normal,[qZ.1,x32],qZ.2)) (
     some (AX.exit 0,[(aj v11 0),(aj v11 1)],mR)))) [vo,.ah (i:Int)] σ=some (.normal,[jm,.ah ((i+1:Nat):Int)],σ')∧Hs cS aJ σ' (kD id vb br va d*(blk ids (.box (bI v s))*(Sl (fl aV) 10 v s.aD*(Sl (fl eo) 3 jm (out++[⟨k,iH d s k t⟩])*R)))):=by
 simp only[bW,cQ];rw[lF hi,bS,dO,kK hi,bS,qx,bS,sx,bS,Cs,bS,FZ _ _ rfl,bS,sx,bS,bS,fM (aoW hp H hI hs k),bS,apa,bS,apF,bS]
 have K2:=eu (show _=Sl (fl eo) 3 vo out*(els (fl eo) [eo ⟨k,iH d s k t⟩] [⟨k,iH d s k t⟩]*(kD id vb br va d*(blk ids (.box (bI v s))*(Sl (fl aV) 10 v s.aD*R)))) by
  rw[show els (fl eo) [eo ⟨k,iH d s k t⟩] [⟨k,iH d s k t⟩]=pr (eo ⟨k,iH d s k t⟩=eo ⟨k,iH d s k t⟩)*emp from rfl];ac_rfl) (qm.2 ⟨(rfl:eo ⟨k,iH d s k t⟩=eo ⟨k,iH d s k t⟩),eu (D2 _).symm H⟩)
 obtain⟨jm,σ',f1,f2⟩:=LG (most:=140737488355328 / 32) K2 (by simp;omega) (λ_ _ _ _=>trivial);rw[f1,bS];simp only;rw[iF hi (by unfold bu;omega),bS];exact⟨jm,σ',rfl,eu (by ac_rfl) f2⟩
theorem TQ(hK:yZ d)(hk:d.keys.length≤1000000)(t:Int)(H:Hs cS aJ σ (nu pd d*R)):∃v σ',Iq [pd,.ah t] σ=some (.aL [v,.ah (AK d t).2],σ')∧Hs cS aJ σ' (Sl (fl eo) 3 v (AK d t).1*(nu pd d*R)):=by
 suffices h:∃v σ',N5 pd (.ah t) σ=some (.aL [v,.ah (AK d t).2],σ')∧Hs cS aJ σ' (Sl (fl eo) 3 v (AK d t).1*(nu pd d*R)) by obtain⟨v,σ',e,h⟩:=h;exact⟨v,σ',ado e,h⟩
 obtain⟨id,vb,br,va,rfl,hp,H⟩:=O7 H;have Dv:d.bV.length≤bu:=by have:=hK.len;unfold bu;omega
 have pY:=PZ H;have Re:=eu (show _=Sl (fl aV) 10 vb d.state.aD*(blk id (.box (iU vb br va d))*(blk br (.map ((d.params.getD []).map jv))*Sl (fl bX) 5 va d.bV)*R) by unfold kD;ac_rfl) H;unfold N5 AK;rw[aqK hp Dv H,bS];simp only;rw[fW,bS];by_cases h0:wB d.bV t=0
 case neg=>
  rw[ct h0,dO,aO h0];exact⟨.az,σ,rfl,uL (FW hp H) (.inl rfl)⟩
 rw[bZ (λq=>q h0),dw,aK (λq=>q h0)];obtain⟨t1,t2⟩:=aoa h0;have hrd:=adb hp H;obtain⟨v,W,e1,e2⟩:=acD hK.di hrd t1.2 hK.si t2 ⟨.op id 0,by simp [A.aF],by simp only[A.deref,pY];rfl⟩ (adi Re);have MS:=OR hK.di hK.si t2 t1.2;obtain⟨s1,hs1⟩:∃s1,s1=jr d d.state t:=⟨_,rfl⟩
 rw[←hs1]at e1 e2 MS ⊢;rw[e1,bS];simp only;rw[show A.cells 4 (.agg (bI v s1))=some (bI v s1)from rfl,bS];obtain⟨x1,x2,x3,x4⟩:=U5 e2;rw[x2,bS];obtain⟨ids,Wj⟩:∃ids,ids=W.length:=⟨_,rfl⟩
 obtain⟨W0,EZ⟩:∃W0,W0=W++[aS.box (bI v s1)]:=⟨_,rfl⟩
 rw[←Wj]at x3 x4 ⊢;rw[←EZ]at x3 x4 ⊢;have Mn:∃ex,W0=σ++ex:=by rw[EZ];obtain⟨ex,rfl⟩:=x1;exact⟨_,mm _ _ _⟩
 have hlen:σ.length≤ids:=by rw[Wj];obtain⟨ex,rfl⟩:=x1;simp
 have K:Hs cS aJ W0 (kD id vb br va d*(blk ids (.box (bI v s1))*(Sl (fl aV) 10 v s1.aD*(Sl (fl eo) 3 .az []*R)))):=by
  rcases x4 with⟨q1,q2⟩|⟨g,q1,q2⟩
  ·have A1:=Ph H Mn hlen x3;rw[q2,q1];rw[q2]at A1;have A2:=uL (v:=.ez) (E:=fl aV) (sz:=10) (uL (v:=.az) (E:=fl eo) (sz:=3) A1 (.inl rfl)) (.inr rfl);exact eu (by ac_rfl) A2
  ·obtain⟨ex,hex⟩:=Mn;obtain⟨exW,as5⟩:=x1
   -- the boards first, then the box
   have hA:∃ex',W=σ++ex':=⟨exW,as5⟩
   have nV:W[σ.length+1]? =some (.arr g 10 (s1.aD.map aV)):=by
    have:=q2.b2;rcases e2 with⟨z1,z2,_⟩|⟨g',z1,z2⟩
    ·rw[q1]at z2;cases z2
    ·have hl:σ.length+1<W.length:=by rw[z2];simp
     rw[EZ,jk hl]at this;exact this
   have A1:=Ph H hA (Nat.le_succ _) nV;have A2:=Ph A1 (W:=W0) ⟨_,EZ⟩ (by rw[Wj];exact aQ _) x3;rw[q1];rw[q1]at A2;have A3:=uL (v:=.az) (E:=fl eo) (sz:=3) A2 (.inl rfl);have A4:=eu (show _=blk (σ.length+1) (.arr g 10 (s1.aD.map aV))*(kD id vb br va d*(blk ids (.box (bI (.os (σ.length+1) g 10 0 s1.aD.length) s1))*(Sl (fl eo) 3 .az []*R))) by ac_rfl) A3;exact eu (by ac_rfl) (Qc (n:=s1.aD.length) A4)
 simp only[show A.aW (.op id 0)=some (.op id 0)from rfl,bS,show ∀o,A.aF o (.op id 0)=some (.op id o)from λo=>by simp [A.aF]];have asZ:=PZ K;rw[show((A.deref (.op id 9) W0).bind λc=>A.ak 0 c)=some (sl 2 aX d.keys)from by simp only[A.deref,asZ];rfl,bS,iS,bS]
 have hL:∃q,A.loop ((λv11 mR=>
    (A.lss (aj v11 1) (AV.ah (d.keys.length:Int))).bind λef=>
    A.cond ef (
     (A.bh 2 (sl 2 aX d.keys) (aj v11 1)).bind λdV=>
     ((A.deref dV mR).bind λnF=>A.aC 0 2 nF).bind λdQ=>
     (A.cells 2 dQ).bind λkn=>
     (A.au 0 kn [(AV.ah 0),bB]).bind λiW=>
     (A.aC 0 2 iW).bind λeC=>
     (A.aC 0 2 iW).bind λcO=>
     (A.quiet (Fj [(AV.op id 0),(AV.op ids 0),cO,(AV.ah t)] mR) mR).bind λdW=>
     (((A.cells 2 eC).bind λfJ=>(A.au 0 fJ [(AV.ah 0),bB,(AV.ah 0)]).bind λiN=>((A.cell dW).bind λv=>some [v]).bind λjx=>(A.au 2 jx iN).bind λgK=>some gK).bind λcs=>some (AV.agg cs)).bind λeE=>
     (((A.cells 3 eE).bind λqR=>(A.au 0 qR [(AV.ah 0),bB,(AV.ah 0)]).bind λuB=>some uB).bind λcs=>some (AV.sl 3 (gf 3 1 cs))).bind λdF=>
     (A.append 3 (140737488355328 / 32) (aj v11 0) dF mR).bind λqZ=>
     (A.add (aj v11 1) (AV.ah 1)).bind λx32=>
     some (AX.normal,[qZ.1,x32],qZ.2)) (
     some (AX.exit 0,[(aj v11 0),(aj v11 1)],mR)))) [.az,.ah 0] W0=some q∧∃vo u W',q=(.exit 0,[vo,u],W')∧Hs cS aJ W' (kD id vb br va d*(blk ids (.box (bI v s1))*(Sl (fl aV) 10 v s1.aD*(Sl (fl eo) 3 vo (d.keys.map (λk=>⟨k,iH d s1 k t⟩))*R)))):=by
  refine pE (λz u w=>∃(i:Nat)(vo:AV),i≤d.keys.length∧u=[vo,.ah (i:Int)]∧z=d.keys.length-i∧Hs cS aJ w (kD id vb br va d*(blk ids (.box (bI v s1))*(Sl (fl aV) 10 v s1.aD*(Sl (fl eo) 3 vo ((d.keys.take i).map (λk=>⟨k,iH d s1 k t⟩))*R))))) ?_ (n:=d.keys.length) ⟨0,.az,jQ _,rfl,rfl,K⟩;rintro z u w ⟨i,vo,hi,rfl,hz,K⟩;by_cases h:i<d.keys.length
  ·have hx:d.keys[i]? =some d.keys[i]:=bR h;obtain⟨jm,σ',f1,f2⟩:=ajg hp hK.di MS hk hx (by simp;omega) K;refine .inl ⟨d.keys.length-(i+1),_,_,by omega,f1,i+1,jm,h,rfl,rfl,?_⟩;rw[List.take_add_one,hx,Option.toList_some,List.map_append,eY,List.map_nil];exact f2
  ·have:i=d.keys.length:=by omega
   subst this;rw[List.take_length]at K;refine .inr ⟨(.exit 0,[vo,.ah (d.keys.length:Int)],w),?_,by simp,vo,_,w,rfl,K⟩;simp only[bW,cQ];rw[lR,bS,dw]
 obtain⟨q,l1,vo,u,W',rfl,K'⟩:=hL;refine⟨vo,W',?_,?_⟩
 ·refine(congrArg (λz=>Option.bind z _) l1).trans ?_;rw[bS];simp only[oT,bW]
 ·have K2:=zX (eu (show _=(blk ids (.box (bI v s1))*Sl (fl aV) 10 v s1.aD)*(kD id vb br va d*(Sl (fl eo) 3 vo (d.keys.map (λk=>⟨k,iH d s1 k t⟩))*R)) by ac_rfl) K');have K3:=FW hp K2;exact eu (by ac_rfl) K3
theorem aox{α:Type}{c:α→aq}{sz most:Nat}{v:AV}{l:List α}(hl:l.length≤most)(H:Hs cS aJ σ (Sl (fl c) sz v l*R)){r0:AV→Heap→aH}(hr:∀a σ,r0 a σ=(A.tH a AV.az).bind λx1=>A.cond x1 (some (AV.az,σ)) ((A.append sz most AV.ez a σ).bind λr2=>some (r2.1,r2.2))):
  ∃v' σ',A.uc (A.wrap false [] .k (A.dP r0)) [v] σ=some (v',σ')∧Hs cS aJ σ' (Sl (fl c) sz v' l*(Sl (fl c) sz v l*R)):=by
 rcases Bw H with⟨rfl,hv,K⟩|⟨id,g,rfl,K⟩
 ·refine⟨.ez,σ,?_,uL H (.inr rfl)⟩;rcases hv with rfl|rfl<;>rfl
 ·by_cases h0:l=[]
  ·subst h0;exact⟨.ez,σ,rfl,uL H (.inr rfl)⟩
  obtain⟨n,hn⟩:∃n,l.length=n+1:=by
   cases h:l with
   |nil=>exact absurd h h0
   |cons b l=>exact⟨l.length,rfl⟩
  have hg:=(kC K).2;have e0:A.uc (A.wrap false [] .k (A.dP r0)) [.os id g sz 0 l.length] σ=A.wrap false [] .k (A.dP r0) [.os id g sz 0 l.length] σ:=by rw[hn];rfl
  have e1:A.dP r0 [.os id g sz 0 l.length] σ=some (.os σ.length l.length sz 0 l.length,σ++[.arr l.length sz (l.map c)]):=by
   show r0 (.os id g sz 0 l.length) σ=_;rw[hr,show A.tH (.os id g sz 0 l.length) .az=some (.bool false)from rfl,bS,dw]
   have hel:A.elems sz (.os id g sz 0 l.length) σ=some (l.map c):=by simp only[A.elems,hg];simp [rS]
   have hne:l.map c≠[]:=by simpa using h0
   have hap:A.append sz most .ez (.os id g sz 0 l.length) σ=some (.os σ.length l.length sz 0 l.length,σ++[.arr l.length sz (l.map c)]):=by unfold A.append;rw[hel,bS];simp only[A.wj,aK hne,List.length_map];rw[aO hl]
   rw[hap,bS]
  refine⟨.os σ.length l.length sz 0 l.length,σ++[.arr l.length sz (l.map c)],?_,?_⟩
  ·rw[e0];simp only[A.wrap,Bool.false_and,bG,A.dr,e1,cC,kF]
  ·exact Qc (n:=l.length) (Jn H trivial)
theorem alh(hl:d.bV.length≤5000)(H:Hs cS aJ σ (nu pd d*R)):∃v σ',NZ [pd] σ=some (v,σ')∧Hs cS aJ σ' (Sl (fl bX) 5 v d.bV*(nu pd d*R)):=by
 obtain⟨id,vb,br,va,rfl,hp,H⟩:=O7 H;have pY:=PZ H;have tM:=eu (show _=Sl (fl bX) 5 va d.bV*(Sl (fl aV) 10 vb d.state.aD*blk id (.box (iU vb br va d))*blk br (.map ((d.params.getD []).map jv))*R) by unfold kD;ac_rfl) H;obtain⟨v',σ',f1,f2⟩:=aox (most:=140737488355328 / 40) (by omega) tM (r0:=RD) (λ_ _=>rfl);refine⟨v',σ',?_,?_⟩
 ·have e:Ip (.op id 0) σ=some (v',σ'):=by unfold Ip;rw[show A.aW (.op id 0)=some (.op id 0)from rfl,bS,show A.aF 11 (.op id 0)=some (.op id 11)from by simp [A.aF],bS,show((A.deref (.op id 11) σ).bind λc=>A.ak 0 c)=some va from by simp only[A.deref,pY];exact P0 tM,bS,show NX [va] σ=some (v',σ')from f1,bS]
  have:A.dP Ip [.op id 0] σ=some (v',σ'):=e;show A.wrap false [] .k (A.dP Ip) [.op id 0] σ=_;simp only[A.wrap,Bool.false_and,bG,A.dr,this,cC,kF]
 ·have K:=eu (show _=kD id vb br va d*(Sl (fl bX) 5 v' d.bV*R) by unfold kD;ac_rfl) f2;exact eu (by ac_rfl) (FW hp K)
theorem ap0(hl:d.bV.length≤5000)(H:Hs cS aJ σ (nu pd d*R)):Ch [pd] σ=some (.ah (nN d.bV),σ):=by obtain⟨id,vb,br,va,rfl,hp,H⟩:=O7 H;exact ads hp (by unfold bu;omega) H
end
end
end Go.Proofs.YtooknfkholjpbaaGreat
