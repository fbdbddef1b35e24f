/- Parts of the proof of PickPresetsKeepWhatIsRecorded, in order. -/
import Derived.Orders
import Derived.Below
import Derived.WalkKit
import Derived.Laws.StructEq
import Derived.Laws.Append
import Derived.Laws.AppendOwn
import Derived.Test.YtjjjjbgohkklnaaRows
import Derived.KernelRfl
import Derived.Lib.Bytealg
import Derived.Sort.Defs
import Derived.Lib.BitFns
import Derived.Test.YtjjjjbgohkklnaaShelf
import Derived.Lib.Overlaps
import Derived.IntWalk
import Derived.Lib.Strings
import Derived.Sort.Statements
import Derived.WalkSpells
import Derived.ProofKit
import Derived.OpenShut
import Derived.Lib.Hide
import Derived.Lib.SmallJoins
import Derived.Deep.QuietTactic
import Derived.BigQuiet
import Derived.Deep.RegionHeld3
import Derived.Deep.Slices
import Derived.Test.YtjjjjbgohkklnaaKPickPresetsKeepWhatIsRecorded3
namespace Go.Proofs.Ytjjjjbgohkklnaa
set_option linter.unusedVariables false
set_option linter.unusedSimpArgs false
set_option linter.unusedSectionVars false
section
set_option maxRecDepth 100000
noncomputable def vY (a0:bB) (a1:bB):Option Int:=
 if ¬(a0.unit=a1.unit)then
  if a0.unit<a1.unit then
   some (-1)
  else
  some 1
 else
 some (Lib.compareBytes a0.param.data.toList a1.param.data.toList)
theorem Qn{a0:bB}{a1:bB}{σ:Heap}{r:Int}(h:vY a0 a1=some r):D2 [(AV.agg (bN a0)),(AV.agg (bN a1))] σ=some ((AV.aj r),σ):=by
 refine qN (f:=D3) (y0:=(AV.agg (bN a0))) (y1:=(AV.agg (bN a1))) (enc:=λr:Int=>(AV.aj r)) (T:=vY a0 a1) rfl rfl ?_ r h;unfold D3 vY;refine aI _ rfl<|aI _ rfl<|aI _ rfl<|aI _ rfl<|aI _ (nj _ _ _) ?_;refine qp (p:=¬(a0.unit=a1.unit)) (λc2=>?_) (λc2=>?_)
 ·refine aI _ rfl<|aI _ rfl<|aI _ rfl ?_;refine qp (p:=a0.unit<a1.unit) (λc1=>?_) (λc1=>?_)
  ·exact gL _ (dZ _ _) ⟨rfl,rfl⟩
  exact gL _ (dZ _ _) ⟨rfl,rfl⟩
 refine aI _ rfl<|aI _ rfl<|aI _ rfl ?_;exact gL _ (dZ _ _) ⟨rfl,rfl⟩
noncomputable def Bf (a0:aA) (a1:aA):Option Int:=(vY a0.key a1.key).bind λr1=>some r1
theorem Qb{a0:aA}{a1:aA}{σ:Heap}{r:Int}(h:Bf a0 a1=some r):qI [(AV.agg (ay a0)),(AV.agg (ay a1))] σ=some ((AV.aj r),σ):=by refine qN (f:=DY) (y0:=(AV.agg (ay a0))) (y1:=(AV.agg (ay a1))) (enc:=λr:Int=>(AV.aj r)) (T:=Bf a0 a1) rfl rfl ?_ r h;unfold DY Bf;refine aI _ rfl<|aI _ rfl<|aI _ rfl<|aI _ rfl ?_;refine tP (λr1:Int=>((AV.aj r1),σ)) (λr1 kn=>Qn kn) (λr1 kn=>?_);exact gL _ (dZ _ _) ⟨rfl,rfl⟩
end
section
open HP
section
variable {aL σ : Heap} {R : HP}
theorem FT{v v':AV}(H:Hs eH aL σ R)(h:A.br σ aL.length 8 v=some v')(hv:σ=aL→v'=v):A.fin aL v σ=some (v',aL):=by
 obtain⟨⟨bs,rfl,_⟩,_⟩:=H;by_cases nu:bs=[]
 ·subst nu;rw[List.append_nil]at h ⊢;rw[dZ,hv (by simp)]
 ·unfold A.fin;rw[aK (by simpa using nu),aM (by simp),h];rfl
end
end
section
open HP
def Inv(k:Nat)(l:List rA):Prop:=l.length≤1000∧∀c∈l,NC c.CF∧c.CF.length≤2000+k
section
variable {aL σ : Heap} {R : HP}
end
end
section
open HP
section
variable {α β : Type} {E : an → β → HP} {f : α → β} {B : aX → Prop} {aL σ : Heap} {R : HP} {sz : Nat} {v : AV}
end
section
variable {aL σ : Heap} {R : HP} {v : AV}
theorem VF{α:Type}{c:α→an}{sz:Nat}{l:List α}{vm:AV}(hc:∀x,iJ (c x))(H:Hs eH aL σ (Sl (fl c) sz vm l*R)):Lt σ (.s sz) vm (sl sz c l):=by
 obtain⟨v',h1,h2,h3⟩:=F8 H hc (kQ _) 7;refine⟨⟨v',h1,?_,by rw[h3];rfl⟩,rfl,λho=>?_⟩
 ·rcases oC H with⟨rfl,rfl|rfl,_⟩|⟨id,g,rfl,K⟩
  ·simp [A.br]at h1;subst h1;rfl
  ·simp [A.br]at h1;subst h1;rfl
  ·cases v'<;>first|rfl|(cases h2;done)|(simp only[A.nn]at h3;cases h3)
 ·rcases oC H with⟨rfl,rfl|rfl,_⟩|⟨id,g,rfl,K⟩
  ·rfl
  ·rfl
  ·cases ho
end
end
section
open HP
theorem GC(a b:AV):A.ext 0 (.aG [a,b])=some a:=rfl
theorem ext1(a b:AV):A.ext 1 (.aG [a,b])=some b:=rfl
theorem zo(a:Int):A.neq .i (.aj a) (.aj 0)=some (.bool (decide (¬(a=0)))):=by rw[nj]
end
section
open HP
def VI(n:Int):rA:=⟨n,⟨#[]⟩,0,0,0,0,⟨1,[]⟩,false,-1,[]⟩
def newRow(n:Int):an:=V3 (VI n) .aE .aE
section
variable {aL σ : Heap} {R : HP}
end
end
section
open HP
section
variable {aL σ : Heap} {R : HP}
theorem Ca{α:Type}{c:α→an}{sz:Nat}{B:aX→Prop}{v:AV}{l:List α}(hc:∀x,iJ (c x))(H:Hs B aL σ (Sl (fl c) sz v l*R)):∃v',A.fin aL v σ=some (v',aL)∧A.nn (.s sz) v'=sl sz c l:=by
 obtain⟨v',h1,h2,h3⟩:=F8 H hc (bH _) 7;refine⟨v',FT (Mc H) h1 (λe=>?_),h3⟩;rcases oC H with⟨rfl,rfl|rfl,_⟩|⟨id,g,rfl,K⟩
 ·simp [A.br]at h1;rw[h1]
 ·simp [A.br]at h1;rw[h1]
 ·obtain⟨k1,k2⟩:=nR K;have:=(bK.1 k2).1;subst e;omega
end
end
section
set_option maxRecDepth 100000
open HP
structure fW (l R : List aA) : Prop where
 oz:R.Pairwise λx y=>bu x y=true
 mem:∀s,s∈R↔(fk s.key l).getLast? =some s
theorem fW.Zy{l Z R:List aA}(h:fW Z R)(k:b7 Z l):fW l R:=⟨h.oz,λs=>by rw[h.mem,k]⟩
theorem K0:∀{R S:List aA},R.Pairwise (λx y=>bu x y=true)→S.Pairwise (λx y=>bu x y=true)→(∀s,s∈R↔s∈S)→R=S
 |[],[],_,_,_=>rfl
 |[],y::S,_,_,h=>by have:=(h y).2 (by simp);simp at this
 |x::R,[],_,_,h=>by have:=(h x).1 (by simp);simp at this
 |x::R,y::S,hR,hS,h=>by
  obtain⟨r1,r2⟩:=List.pairwise_cons.1 hR;obtain⟨s1,s2⟩:=List.pairwise_cons.1 hS;have HR:∀z,bu z z≠true:=λz e=>qT e rfl
  have e:x=y:=by
   rcases dc.1 ((h x).1 (by simp))with e|e
   ·exact e
   ·rcases dc.1 ((h y).2 (by simp))with e'|e'
    ·exact e'.symm
    ·exact absurd (Cq (s1 x e) (r1 y e')) (HR y)
  subst e;rw[K0 r2 s2 λs=>⟨λq=>?_,λq=>?_⟩]
  ·rcases dc.1 ((h s).1 (by simp [q]))with e|e
   ·subst e;exact absurd (r1 s q) (HR s)
   ·exact e
  ·rcases dc.1 ((h s).2 (by simp [q]))with e|e
   ·subst e;exact absurd (s1 s q) (HR s)
   ·exact e
theorem fW.uniq{l R S:List aA}(h:fW l R)(k:fW l S):R=S:=K0 h.oz k.oz λs=>by rw[h.mem,k.mem]
def sv(x:aA):List aA→Prop
 |[]=>True
 |y::_=>¬(y.key=x.key)
instance (x : aA) (l : List aA) : Decidable (sv x l) := by cases l <;> unfold sv <;> infer_instance
def kl:List aA→List aA
 |[]=>[]
 |x::t=>(if sv x t then[x]else[])++kl t
theorem Mf:∀{l:List aA}{s},s∈kl l→s∈l
 |x::t,s,h=>by
  unfold kl at h;rcases dg.1 h with e|e
  ·split at e
   ·rw[List.mem_singleton.1 e];simp
   ·simp at e
  ·exact ru _ (Mf e)
theorem Ls:∀{Z:List aA},dm Z→fW Z (kl Z)
 |[],_=>⟨List.Pairwise.nil,λs=>by simp [kl]⟩
 |x::t,h=>by
  obtain⟨h1,h2⟩:=List.pairwise_cons.1 h;have ih:=Ls h2;by_cases hk:sv x t
  ·have hlt:∀y∈t,bu x y=true:=by
    cases t with
    |nil=>simp
    |cons y t=>
     have hne:¬(y.key=x.key):=hk
     have hxy:bu x y=true:=by
      cases q:bu x y with
      |true=>rfl
      |false=>exact absurd (FG (h1 y (by simp)) q) hne
     intro z hz;rcases dc.1 hz with rfl|e
     ·exact hxy
     ·exact Nt hxy ((List.pairwise_cons.1 h2).1 z e)
   have e:kl (x::t)=x::kl t:=by show(if sv x t then[x]else[])++kl t=_;rw[aM hk];rfl
   rw[e];refine⟨List.pairwise_cons.2 ⟨λy hy=>hlt y (Mf hy),ih.oz⟩,λs=>?_⟩
   have hf:fk s.key (x::t)=if x.key=s.key then[x]else fk s.key t:=by
    show(x::t).filter _=_;rw[List.filter_cons];by_cases q:x.key=s.key
    ·rw[aM (by simpa using q),aM q]
     have:t.filter (λz=>decide (z.key=s.key))=[]:=by rw[List.filter_eq_nil_iff];intro y hy e;exact qT (hlt y hy) (by rw[q,of_decide_eq_true e])
     rw[this]
    ·rw[aK (by simpa using q),aK q]
   rw[hf,dc,ih.mem];by_cases q:x.key=s.key
   ·rw[aM q];constructor
    ·rintro(rfl|e)
     ·rfl
     ·have:s∈fk s.key t:=List.mem_of_getLast? e;exact absurd (by rw[q]) (qT (hlt s (List.mem_filter.1 this).1))
    ·intro e;left;simpa using e.symm
   ·rw[aK q];exact⟨λo=>o.resolve_left λe=>q (by rw[e]),.inr⟩
  ·cases t with
   |nil=>exact absurd trivial hk
   |cons y t=>
    have hy:y.key=x.key:=Classical.not_not.1 hk;have e:kl (x::y::t)=kl (y::t):=by show(if sv x (y::t)then[x]else[])++kl (y::t)=_;rw[aK hk];rfl
    rw[e];refine⟨ih.oz,λs=>?_⟩;rw[ih.mem]
    have:(fk s.key (x::y::t)).getLast? =(fk s.key (y::t)).getLast? :=by
     show((x::y::t).filter _).getLast? =((y::t).filter _).getLast?;by_cases q:x.key=s.key
     ·have q':y.key=s.key:=by rw[hy,q]
      simp [List.filter_cons,q,q']
     ·have q':¬y.key=s.key:=by rw[hy];exact q
      simp [List.filter_cons,q,q']
    rw[this]
noncomputable abbrev Oz : Nat → an → Heap → au := A.tab (fun _ _ => none) [(147, qI)]
theorem Tj(a b:bB):vY a b=some (wR a b):=by
 unfold vY wR;by_cases h:a.unit=b.unit
 ·simp [h]
 ·by_cases h2:a.unit<b.unit<;>simp [h,h2]
theorem VQ:n4 Oz (.fn 147 []):=λx y W=>by have:qI [.agg (ay x),.agg (ay y)] W=some (.int .i64 (wR x.key y.key),W):=Qb (by unfold Bf;rw[Tj,bS]);have e:A.eB Oz (.fn 147 []) [.agg (ay x),.agg (ay y)] W=qI [.agg (ay x),.agg (ay y)] W:=rfl;rw[e,this];exact BA _ _
theorem UB(x:aA)(t:List aA):kl (x::t)=(if sv x t then[x]else[])++kl t:=rfl
theorem Wx{aL σ:Heap}{R:HP}{v:AV}{l:List aA}(k:aA)(hl:l.length<1000000000)(H:Hs eH aL σ (Sl (fl ay) 3 v l*R)):∃v' σ',A.append 3 (140737488355328 / 32) v (.sl 3 [ay k]) σ=some (v',σ')∧Hs eH aL σ' (Sl (fl ay) 3 v' (l++[k])*R):=
 F7 (ys:=[ay k]) (xs:=[k]) (iW (show pr (ay k=ay k)*(Sl (fl ay) 3 v l*R)=_ by
  rw[show els (fl ay) [ay k] [k]=pr (ay k=ay k)*emp from rfl,wq,uz];ac_rfl) (qY.2 ⟨rfl,H⟩)) (by simp;omega) (λ_ _ _ _=>trivial)
theorem SN{id g n:Nat}{Z:List aA}{aL W:Heap}(hn:Z.length=n)(hl:n<1000000000){R:HP}(H:Hs eH aL W (blk id (bp g Z)*R)):
  ∃v i W',A.loop ((λv4 s5=>
   (A.lss (ah v4 1) (AV.int .i64 (n:Int))).bind λx7=>
   A.cond x7 (
    (A.aJ 3 (bn id g n) (ah v4 1)).bind λx8=>
    ((A.deref x8 s5).bind λc9=>A.aB 0 3 c9).bind λbg=>
    (A.cells 3 bg).bind λjd=>
    (A.aV 0 jd [b9,bD,b9]).bind λeU=>
    (A.add (ah v4 1) cO).bind λbT=>
    (A.bl (bn id g n)).bind λcu=>
    (A.eql .i bT cu).bind λbf=>
    (A.guard bf false (some (bn id g n)) aq).bind λbG=>
    (A.guard bf false (some (ah v4 1)) aq).bind λbM=>
    (A.guard bf false (A.add bM cO) aq).bind λbA=>
    (A.guard bf false (A.aJ 3 bG bA) aq).bind λcr=>
    (A.guard bf false (A.cW 0 cr) aq).bind λcU=>
    (A.guard bf false ((A.deref cU s5).bind λiL=>A.aB 0 2 iL) aq).bind λbX=>
    (A.guard bf false (A.aB 0 2 eU) aq).bind λcy=>
    (A.guard bf false (A.neq (.s [0,2]) bX cy) aq).bind λcC=>
    (A.pick bf eI cC).bind λcA=>
    (A.cond cA (
     (A.aB 0 3 eU).bind λcN=>
     (((A.cells 3 cN).bind λj0=>(A.aV 0 j0 [b9,bD,b9]).bind λke=>some ke).bind λcs=>some (AV.sl 3 (e8 3 1 cs))).bind λck=>
     (A.append 3 (140737488355328 / 32) (ah v4 0) ck s5).bind λjK=>
     some ([jK.1],jK.2)) (
     some ([(ah v4 0)],s5))).bind λiR=>
    (A.add (ah v4 1) cO).bind λdK=>
    some (AX.normal,[(ah iR.1 0),dK],iR.2)) (
    some (AX.exit 0,[(ah v4 0),(ah v4 1)],s5)))) [.aE,.int .i64 0] W=some (.exit 0,[v,i],W')∧Hs eH aL W' (Sl (fl ay) 3 v (kl Z)*(blk id (bp g Z)*R)):=by
 suffices hq:∃q,A.loop ((λv4 s5=>
   (A.lss (ah v4 1) (AV.int .i64 (n:Int))).bind λx7=>
   A.cond x7 (
    (A.aJ 3 (bn id g n) (ah v4 1)).bind λx8=>
    ((A.deref x8 s5).bind λc9=>A.aB 0 3 c9).bind λbg=>
    (A.cells 3 bg).bind λjd=>
    (A.aV 0 jd [b9,bD,b9]).bind λeU=>
    (A.add (ah v4 1) cO).bind λbT=>
    (A.bl (bn id g n)).bind λcu=>
    (A.eql .i bT cu).bind λbf=>
    (A.guard bf false (some (bn id g n)) aq).bind λbG=>
    (A.guard bf false (some (ah v4 1)) aq).bind λbM=>
    (A.guard bf false (A.add bM cO) aq).bind λbA=>
    (A.guard bf false (A.aJ 3 bG bA) aq).bind λcr=>
    (A.guard bf false (A.cW 0 cr) aq).bind λcU=>
    (A.guard bf false ((A.deref cU s5).bind λiL=>A.aB 0 2 iL) aq).bind λbX=>
    (A.guard bf false (A.aB 0 2 eU) aq).bind λcy=>
    (A.guard bf false (A.neq (.s [0,2]) bX cy) aq).bind λcC=>
    (A.pick bf eI cC).bind λcA=>
    (A.cond cA (
     (A.aB 0 3 eU).bind λcN=>
     (((A.cells 3 cN).bind λj0=>(A.aV 0 j0 [b9,bD,b9]).bind λke=>some ke).bind λcs=>some (AV.sl 3 (e8 3 1 cs))).bind λck=>
     (A.append 3 (140737488355328 / 32) (ah v4 0) ck s5).bind λjK=>
     some ([jK.1],jK.2)) (
     some ([(ah v4 0)],s5))).bind λiR=>
    (A.add (ah v4 1) cO).bind λdK=>
    some (AX.normal,[(ah iR.1 0),dK],iR.2)) (
    some (AX.exit 0,[(ah v4 0),(ah v4 1)],s5)))) [.aE,.int .i64 0] W=some q∧∃v i W',q=(.exit 0,[v,i],W')∧Hs eH aL W' (Sl (fl ay) 3 v (kl Z)*(blk id (bp g Z)*R)) by
  obtain⟨q,e,v,i,W',rfl,h⟩:=hq;exact⟨v,i,W',e,h⟩
 refine jq (λz u w=>∃(i:Nat)(v:AV)(T:List aA),i≤n∧z=n-i∧u=[v,.int .i64 (i:Int)]∧T.length≤i∧T++kl (Z.drop i)=kl Z∧Hs eH aL w (Sl (fl ay) 3 v T*(blk id (bp g Z)*R))) ?_ (n:=n) ⟨0,.aE,[],kQ _,rfl,rfl,bH _,rfl,uf H (.inl rfl)⟩;rintro z u w ⟨i,v,T,hi,rfl,rfl,hT,hk,HK⟩;simp only[cz,dB];rw[fE,bS];obtain⟨_,hg⟩:=nR (iW (Q:=blk id (bp g Z)*(Sl (fl ay) 3 v T*R)) (by ac_rfl) HK);by_cases hlt:i<n
 ·have hd:Z.drop i=Z[i]'(by omega)::Z.drop (i+1):=List.drop_eq_getElem_cons (by omega)
  have hx:Z[i]? =some (Z[i]'(by omega)):=bQ _
  generalize Z[i]'(by omega)=x at hd hx
  rw[cj hlt,cG,jk hlt,bS,l8 hg hx,bS,nH,bS,show A.aV 0 (ay x) [b9,bD,b9]=some (ay x)from rfl,bS,jx (by omega),bS,show A.bl (bn id g n)=some (.int .i64 (n:Int))from rfl,bS,qu,bS]
  have Gg:∀K:AV→Option LS,((A.guard (.bool (decide (((i+1:Nat):Int)=(n:Int)))) false (some (bn id g n)) (some (.aG []))).bind λbG=>(A.guard (.bool (decide (((i+1:Nat):Int)=(n:Int)))) false (some (.int .i64 (i:Int))) (some (.aG []))).bind λbM=>(A.guard (.bool (decide (((i+1:Nat):Int)=(n:Int)))) false (A.add bM (.int .i64 1)) (some (.aG []))).bind λbA=>(A.guard (.bool (decide (((i+1:Nat):Int)=(n:Int)))) false (A.aJ 3 bG bA) (some (.aG []))).bind λcr=>(A.guard (.bool (decide (((i+1:Nat):Int)=(n:Int)))) false (A.cW 0 cr) (some (.aG []))).bind λcU=>(A.guard (.bool (decide (((i+1:Nat):Int)=(n:Int)))) false ((A.deref cU w).bind λiL=>A.aB 0 2 iL) (some (.aG []))).bind λbX=>(A.guard (.bool (decide (((i+1:Nat):Int)=(n:Int)))) false (A.aB 0 2 (ay x)) (some (.aG []))).bind λcy=>(A.guard (.bool (decide (((i+1:Nat):Int)=(n:Int)))) false (A.neq (.s [0,2]) bX cy) (some (.aG []))).bind λcC=>(A.pick (.bool (decide (((i+1:Nat):Int)=(n:Int)))) (.bool true) cC).bind K)=K (.bool (decide (sv x (Z.drop (i+1))))):=by
   intro K;by_cases hl:i+1=n
   ·rw[cj (show((i+1:Nat):Int)=(n:Int) by omega),List.drop_of_length_le (by omega)];simp only[C9,bS,qA];rfl
   ·have hd2:Z.drop (i+1)=Z[i+1]'(by omega)::Z.drop (i+1+1):=List.drop_eq_getElem_cons (by omega)
    have hy:Z[i+1]? =some (Z[i+1]'(by omega)):=bQ _
    generalize Z[i+1]'(by omega)=y at hd2 hy
    rw[bZ (show ¬((i+1:Nat):Int)=(n:Int) by omega),hd2];rw[gF,bS,gF,bS,gF,jx (by omega),bS,gF,jk (by omega),bS,gF,show A.cW 0 (.oe id g (i+1) 0)=some (.oe id g (i+1) 0)from rfl,bS,gF]
    have hkr:((A.deref (.oe id g (i+1) 0) w).bind λc=>A.aB 0 2 c)=some (.agg (bN y.key)):=by simp only[A.deref,hg,if_true,xj,hy,dN,List.drop_zero];rfl
    rw[hkr,bS,gF,show A.aB 0 2 (ay x)=some (.agg (bN x.key))from rfl,bS,gF,VH,bS,sw,bS];rfl
  rw[Gg];have hkc:=UB x (Z.drop (i+1));rw[←hd]at hkc;by_cases hq:sv x (Z.drop (i+1))
  ·rw[aM hq]at hkc;rw[cj hq,cG,show A.aB 0 3 (ay x)=some (.agg (ay x))from rfl,bS,show(((A.cells 3 (.agg (ay x))).bind λj0=>(A.aV 0 j0 [b9,bD,b9]).bind λke=>some ke).bind λcs=>some (AV.sl 3 (e8 3 1 cs)))=some (.sl 3 [ay x])from rfl,bS];obtain⟨v2,W2,f1,f2⟩:=Wx x (by omega) HK;rw[f1,bS,bS];refine .inl ⟨n-(i+1),_,_,by omega,rfl,i+1,v2,T++[x],hlt,rfl,rfl,by simp;omega,?_,f2⟩;rw[←hk,hkc];simp
  ·rw[aK hq]at hkc;rw[bZ hq,bU,bS];refine .inl ⟨n-(i+1),_,_,by omega,rfl,i+1,v,T,hlt,rfl,rfl,by omega,?_,HK⟩;rw[←hk,hkc];simp
 ·rw[bZ hlt,bU];rw[show Z.drop i=[]from List.drop_of_length_le (by omega),show kl []=[]from rfl,List.append_nil]at hk;exact .inr ⟨_,rfl,by simp,v,_,w,rfl,by rw[←hk];exact HK⟩
theorem BH{f:an→Heap→Option LS}{v:an}{σ:Heap}{q:LS}(h:f v σ=some q)(hq:q.1≠.normal):A.loop f v σ=some q:=(nO h hq).elim λ_ h=>uq h
theorem Nc{aL σ:Heap}{R:HP}{l:List aA}(hl:l.length≤1000000000)(H:Hs eH aL σ R):∃v σ',qH [sl 3 ay l] σ=some (v,σ')∧A.cell v=some v∧Hs eH aL σ' (Sl (fl ay) 3 v l*R):=
 T9 (most:=140737488355328 / 32) (r:=λ_ _=>none) rfl (λ_ _=>rfl) (by omega) (λ_ _ _ _=>trivial) H
theorem Sk(dyn:Nat→an→Heap→au)(f:AV)(W:Heap){v:AV}(hv:v=.aE∨v=.ez):vQ dyn [v,f] W=some (.aG [],W):=by
 refine OI ?_;unfold AY;rw[show A.bl v=some (.int .i64 0) by rcases hv with rfl|rfl<;>rfl,bS]
 have hi:qF dyn [v,.int .i64 0,.int .i64 0,f] W=some (.aG [],W):=by refine OK rfl ?_;unfold AT;rw[show A.add (.int .i64 0) (.int .i64 1)=some (.int .i64 1)from oS (a:=0) (b:=1) (by omega),bS];refine(jF (BH (q:=(.exit 0,[.int .i64 1],W)) (by rfl) (by simp)) _).trans ?_;rw[bS];simp only[gn]
 have hs:xX dyn [v,.int .i64 0,f] W=some (.aG [],W):=by refine OJ ?_;unfold AZ;refine(jF (BH (q:=(.exit 0,[.int .i64 0,.int .i64 20],W)) (by rfl) (by simp)) _).trans ?_;rw[bS];simp only[gn,cz];rw[hi,bS];refine(jF (BH (q:=(.exit 2,[.int .i64 20],W)) (by rfl) (by simp)) _).trans ?_;rw[bS];simp only[gn]
 rw[hs,bS]
theorem TL{l:List aA}(hl:l.length≤900000)(σ:Heap):∃R,fW l R∧yp [sl 3 ay l] σ=some (sl 3 ay R,σ):=by
 suffices hr:∃R v',fW l R∧yq (sl 3 ay l) σ=some (v',σ)∧A.nn (.s 3) v'=sl 3 ay R by obtain⟨R,v',h1,h2,h3⟩:=hr;refine⟨R,h1,?_⟩;show(yq (sl 3 ay l) σ).map _=_;rw[h2,dN];exact congrArg (λz=>some (z,σ)) h3
 unfold yq;obtain⟨v,W1,e1,_,H1⟩:=Nc (aL:=σ) (l:=l) (by omega) (Co σ);rw[e1,bS];rcases yP H1 with⟨rfl,hv,H2⟩|⟨id,g,seg,rfl,Np,H2⟩
 ·rw[Sk _ _ _ hv,bS,show A.bl v=some (.int .i64 0) by rcases hv with rfl|rfl<;>rfl,bS];obtain⟨v',f1,f2⟩:=Ca (c:=ay) (sz:=3) sN (uf (v:=.aE) H2 (.inl rfl));refine⟨[],v',⟨List.Pairwise.nil,λs=>by simp⟩,?_,f2⟩;refine(jF (BH (q:=(.exit 0,[.aE,.int .i64 0],W1)) (by rfl) (by simp)) _).trans ?_;rw[bS];simp only[gn,cz];exact f1
 ·obtain⟨rfl,H3⟩:=wT.1 (iW (Q:=els (fl ay) seg l*(blk id (.arr g 3 seg)*emp)) (by ac_rfl) H2);obtain⟨_,hg⟩:=nR H3;obtain⟨Z,z1,z2,z3,z4⟩:=TN VQ (N:=l.length) (by omega) rfl hg;rw[show vQ (A.tab (λ_ _=>none) [(147,qI)]) [.os id g 3 0 l.length,.fn 147 []] W1=some (.aG [],W1.set id (bp g Z))from z4,bS,show A.bl (.os id g 3 0 l.length)=some (.int .i64 (l.length:Int))from rfl,bS];obtain⟨w,i,W',k1,k2⟩:=SN (n:=l.length) z3 (by omega) (zb (b':=bp g Z) H3 trivial);obtain⟨v',f1,f2⟩:=Ca (c:=ay) (sz:=3) sN k2;refine⟨kl Z,v',(Ls z1).Zy z2,?_,f2⟩;refine(jF k1 _).trans ?_;rw[bS];simp only[gn,cz];exact f1
end
section
set_option maxRecDepth 100000
open HP
theorem fW.ins{l T1 T2:List aA}{s:aA}(h:fW l (T1++T2))(h1:∀x∈T1,bu x s=true)(h2:∀y,T2.head? =some y→bu y s=false∧¬(y.key=s.key)):fW (l++[s]) (T1++s::T2):=by
 obtain⟨a1,a2,a3⟩:=List.pairwise_append.1 h.oz
 have h2':∀y∈T2,bu s y=true:=by
  intro y hy;cases T2 with
  |nil=>simp at hy
  |cons z T2=>
   obtain⟨q1,q2⟩:=h2 z rfl
   have hz:bu s z=true:=by
    cases q:bu s z with
    |true=>rfl
    |false=>exact absurd (FG q1 q) q2
   rcases dc.1 hy with rfl|e
   ·exact hz
   ·exact Cq hz ((List.pairwise_cons.1 a2).1 y e)
 refine⟨List.pairwise_append.2 ⟨a1,List.pairwise_cons.2 ⟨h2',a2⟩,λx hx y hy=>?_⟩,λx=>?_⟩
 ·rcases dc.1 hy with rfl|e
  ·exact h1 x hx
  ·exact a3 x hx y e
 ·have hf:fk x.key (l++[s])=fk x.key l++(if s.key=x.key then[s]else[]):=by show(l++[s]).filter _=_;rw[List.filter_append];congr 1;by_cases q:s.key=x.key<;>simp [q]
  rw[hf];by_cases q:s.key=x.key
  ·rw[aM q,List.getLast?_concat];constructor
   ·intro e;rcases dg.1 e with e|e
    ·exact absurd q.symm (qT (h1 x e))
    ·rcases dc.1 e with e|e
     ·rw[e]
     ·exact absurd q (qT (h2' x e))
   ·intro e;cases e;simp
  ·rw[aK q,List.append_nil,←h.mem];have:x≠s:=λe=>q (by rw[e])
   simp [this]
theorem fW.upd{l T1 T2:List aA}{s y:aA}(h:fW l (T1++y::T2))(hk:y.key=s.key):fW (l++[s]) (T1++s::T2):=by
 obtain⟨a1,a2,a3⟩:=List.pairwise_append.1 h.oz;obtain⟨a4,a5⟩:=List.pairwise_cons.1 a2;have h1:∀x∈T1,bu x s=true:=λx hx=>by have:=a3 x hx y (by simp);unfold bu at this ⊢;rw[←hk];exact this
 have h2':∀z∈T2,bu s z=true:=λz hz=>by have:=a4 z hz;unfold bu at this ⊢;rw[←hk];exact this
 refine⟨List.pairwise_append.2 ⟨a1,List.pairwise_cons.2 ⟨h2',a5⟩,λx hx z hz=>?_⟩,λx=>?_⟩
 ·rcases dc.1 hz with rfl|e
  ·exact h1 x hx
  ·exact a3 x hx z (by simp [e])
 ·have hf:fk x.key (l++[s])=fk x.key l++(if s.key=x.key then[s]else[]):=by show(l++[s]).filter _=_;rw[List.filter_append];congr 1;by_cases q:s.key=x.key<;>simp [q]
  rw[hf];by_cases q:s.key=x.key
  ·rw[aM q,List.getLast?_concat];constructor
   ·intro e;rcases dg.1 e with e|e
    ·exact absurd q.symm (qT (h1 x e))
    ·rcases dc.1 e with e|e
     ·rw[e]
     ·exact absurd q (qT (h2' x e))
   ·intro e;cases e;simp
  ·rw[aK q,List.append_nil,←h.mem];have e1:x≠s:=λe=>q (by rw[e])
   have e2:x≠y:=λe=>q (by rw[e,hk])
   simp [e1,e2]
theorem As(cs:an):A.lb (.lbx cs)=some cs:=rfl
theorem TY(a b:bB)(σ:Heap):A.quiet (wk [.agg (bN a),.agg (bN b)] σ) σ=some (.bool (fP a b)):=by
 refine yN (Ro ?_);unfold Bs fP;by_cases h:a.unit=b.unit
 ·simp [h,yQ]
 ·by_cases h2:a.unit<b.unit<;>simp [h,h2]
theorem Xb{aL σ:Heap}{R:HP}{v:AV}{l:List aA}{m:aA}{i:Nat}(hi:i≤l.length)(hl:l.length<1000000000)(H:Hs eH aL σ (Sl (fl ay) 3 v l*R)):
  ∃v' σ',xZ [v,.int .i64 (i:Int),.sl 3 [ay m]] σ=some (v',σ')∧Hs eH aL σ' (Sl (fl ay) 3 v' (l.take i++[m]++l.drop i)*R):=by
 obtain⟨v',σ',e,H2⟩:=Ms (most:=140737488355328 / 32) (zs:=[b9,bD,b9]) (qD:=DH) (B:=eH) (E:=fl ay) (y:=m) (ye:=ay m)
  (iW (show pr (ay m=ay m)*(Sl (fl ay) 3 v l*R)=_ by rw[show fl ay (ay m) m=pr (ay m=ay m)from rfl];ac_rfl) (qY.2 ⟨rfl,H⟩)) hi (by omega) (by omega) (λ_ _ _ _ _=>trivial)
 refine⟨v',σ',?_,H2⟩;unfold xZ A.wrap;rw[Bool.false_and,aQ,show A.bW [] [v,.int .i64 (i:Int),.sl 3 [ay m]]=[v,.int .i64 (i:Int),.sl 3 [ay m]] by simp [A.bW]];show(DL v (.int .i64 (i:Int)) (.sl 3 [ay m]) σ).map _=_;rw[show DL v (.int .i64 (i:Int)) (.sl 3 [ay m]) σ=some (v',σ')from e];simp [jW]
theorem G7{id g i:Nat}{w:Heap}{T:List aA}{x:aA}(hg:w[id]? =some (bp g T))(hx:T[i]? =some x):((A.deref (.oe id g i 0) w).bind λc=>A.aB 0 2 c)=some (.agg (bN x.key)):=by simp only[A.deref,hg,if_true,xj,hx,dN,List.drop_zero];rfl
theorem Wr{v:AV}{T:List aA}{s:aA}{aL W:Heap}{R:HP}(hl:T.length<1000000000)(H:Hs eH aL W (Sl (fl ay) 3 v T*R)):
  ∃T1 T2,T=T1++T2∧(∀x∈T1,bu x s=true)∧(∀y,T2.head? =some y→bu y s=false)∧A.loop ((λv11 eY=>
      (A.bl v).bind λcu=>
      (A.lss (ah v11 1) cu).bind λbf=>
      (A.guard bf true (some v) aq).bind λbG=>
      (A.guard bf true (some (ah v11 1)) aq).bind λbM=>
      (A.guard bf true (A.aJ 3 bG bM) aq).bind λbA=>
      (A.guard bf true (A.cW 0 bA) aq).bind λcr=>
      (A.guard bf true ((A.deref cr eY).bind λdD=>A.aB 0 2 dD) aq).bind λbw=>
      ((A.lb (ah v11 0)).bind λ_=>some (0)).bind λvu=>
            (A.guard bf true ((A.lb (ah v11 0)).bind λiM=>A.aB vu 2 iM) aq).bind λcC=>
      (A.guard bf true (A.quiet (wk [bw,cC] eY) eY) aq).bind λcA=>
      (A.pick bf cA bF).bind λcD=>
      A.cond cD (
       (A.add (ah v11 1) cO).bind λcN=>
       some (AX.normal,[(ah v11 0),cN],eY)) (
       some (AX.exit 2,[(ah v11 0),(ah v11 1)],eY)))) [.lbx (ay s),.int .i64 0] W=some (.exit 2,[.lbx (ay s),nI T1.length],W):=by
 suffices hq:∃q,A.loop ((λv11 eY=>
      (A.bl v).bind λcu=>
      (A.lss (ah v11 1) cu).bind λbf=>
      (A.guard bf true (some v) aq).bind λbG=>
      (A.guard bf true (some (ah v11 1)) aq).bind λbM=>
      (A.guard bf true (A.aJ 3 bG bM) aq).bind λbA=>
      (A.guard bf true (A.cW 0 bA) aq).bind λcr=>
      (A.guard bf true ((A.deref cr eY).bind λdD=>A.aB 0 2 dD) aq).bind λbw=>
      ((A.lb (ah v11 0)).bind λ_=>some (0)).bind λvu=>
            (A.guard bf true ((A.lb (ah v11 0)).bind λiM=>A.aB vu 2 iM) aq).bind λcC=>
      (A.guard bf true (A.quiet (wk [bw,cC] eY) eY) aq).bind λcA=>
      (A.pick bf cA bF).bind λcD=>
      A.cond cD (
       (A.add (ah v11 1) cO).bind λcN=>
       some (AX.normal,[(ah v11 0),cN],eY)) (
       some (AX.exit 2,[(ah v11 0),(ah v11 1)],eY)))) [.lbx (ay s),.int .i64 0] W=some q∧∃T1 T2,T=T1++T2∧(∀x∈T1,bu x s=true)∧(∀y,T2.head? =some y→bu y s=false)∧q=(.exit 2,[.lbx (ay s),nI T1.length],W) by
  obtain⟨q,e,T1,T2,h1,h2,h3,rfl⟩:=hq;exact⟨T1,T2,h1,h2,h3,e⟩
 refine jq (λz u w=>∃T1 T2,T=T1++T2∧(∀x∈T1,bu x s=true)∧z=T2.length∧u=[.lbx (ay s),nI T1.length]∧w=W) ?_ (n:=T.length) ⟨[],T,rfl,by simp,rfl,rfl,rfl⟩;rintro z u w ⟨T1,T2,rfl,h1,rfl,rfl,rfl⟩;simp only[cz,dB];rw[zc H,bS,fE,bS];cases T2 with
 |nil=>rw[bZ (by simp)];simp only[o8,As,bS,sw,bU];exact .inr ⟨_,rfl,by simp,T1,[],rfl,h1,by simp,rfl⟩
 |cons y T2=>
  rcases oC H with⟨h,_,_⟩|⟨id,g,rfl,K⟩
  ·simp at h
  obtain⟨_,hg⟩:=nR K;have hy:(T1++y::T2)[T1.length]? =some y:=by simp
  rw[cj (by simp)];simp only[gT,As,bS,qA];rw[jk (by simp),bS];rw[show A.cW 0 (.oe id g T1.length 0)=some (.oe id g T1.length 0)from rfl,bS];rw[G7 hg hy,bS];rw[show A.aB 0 2 (ay s)=some (.agg (bN s.key))from rfl,bS,TY,bS];cases q:fP y.key s.key with
  |true=>
   rw[cG,jx (by simp at hl;omega),bS];refine .inl ⟨T2.length,_,_,by simp,rfl,T1++[y],T2,by simp,λx hx=>?_,rfl,by simp,rfl⟩;rcases dg.1 hx with e|e
   ·exact h1 x e
   ·rw[List.mem_singleton.1 e];exact q
  |false=>rw[bU];exact .inr ⟨_,rfl,by simp,T1,y::T2,rfl,h1,λz hz=>by simp at hz;rw[←hz];exact q,rfl⟩
theorem U3{α:Type}(U V:List α)(x y:α):(U++x::V).set U.length y=U++y::V:=by rw[nZ _ _ (bH _),Nat.sub_self];rfl
theorem LP(m:aA):(((A.cells 3 (.agg (ay m))).bind λzH=>(A.aV 0 zH [b9,bD,b9]).bind λiM=>some iM).bind λcs=>some (AV.sl 3 (e8 3 1 cs)))=some (.sl 3 [ay m]):=rfl
theorem TK{l:List aA}(hl:l.length≤900000)(σ:Heap):∃R,fW l R∧Rq [sl 3 ay l] σ=some (sl 3 ay R,σ):=by
 suffices hr:∃R v',fW l R∧Br (sl 3 ay l) σ=some (v',σ)∧A.nn (.s 3) v'=sl 3 ay R by obtain⟨R,v',h1,h2,h3⟩:=hr;refine⟨R,h1,?_⟩;show(Br (sl 3 ay l) σ).map _=_;rw[h2,dN];exact congrArg (λz=>some (z,σ)) h3
 unfold Br;rw[gX,bS]
 obtain⟨q,hq,T,v,i,W',rfl,hT,HT⟩:∃q,A.loop ((λv2 s3=>
   (A.lss (ah v2 1) (AV.int .i64 (l.length:Int))).bind λx5=>
   A.cond x5 (
    (A.aJ 3 (sl 3 ay l) (ah v2 1)).bind λx6=>
    ((A.deref x6 s3).bind λc7=>A.aB 0 3 c7).bind λx8=>
    (A.cells 3 x8).bind λc9=>
    (A.aV 0 c9 [b9,bD,b9]).bind λoW=>
    (A.loop (λv11 eY=>
      (A.bl (ah v2 0)).bind λcu=>
      (A.lss (ah v11 1) cu).bind λbf=>
      (A.guard bf true (some (ah v2 0)) aq).bind λbG=>
      (A.guard bf true (some (ah v11 1)) aq).bind λbM=>
      (A.guard bf true (A.aJ 3 bG bM) aq).bind λbA=>
      (A.guard bf true (A.cW 0 bA) aq).bind λcr=>
      (A.guard bf true ((A.deref cr eY).bind λdD=>A.aB 0 2 dD) aq).bind λbw=>
      ((A.lb (ah v11 0)).bind λ_=>some (0)).bind λvu=>
            (A.guard bf true ((A.lb (ah v11 0)).bind λiM=>A.aB vu 2 iM) aq).bind λcC=>
      (A.guard bf true (A.quiet (wk [bw,cC] eY) eY) aq).bind λcA=>
      (A.pick bf cA bF).bind λcD=>
      A.cond cD (
       (A.add (ah v11 1) cO).bind λcN=>
       some (AX.normal,[(ah v11 0),cN],eY)) (
       some (AX.exit 2,[(ah v11 0),(ah v11 1)],eY))) [(AV.lbx oW),b9] s3).bind λeX=>
    bif eX.1==AX.exit 2 then(
     (A.bl (ah v2 0)).bind λdJ=>
     (A.lss (ah eX.2.1 1) dJ).bind λck=>
     (A.guard ck true (some (ah v2 0)) aq).bind λfA=>
     (A.guard ck true (some (ah eX.2.1 1)) aq).bind λdK=>
     (A.guard ck true (A.aJ 3 fA dK) aq).bind λeN=>
     (A.guard ck true (A.cW 0 eN) aq).bind λfQ=>
     (A.guard ck true ((A.deref fQ eX.2.2).bind λgA=>A.aB 0 2 gA) aq).bind λfR=>
     ((A.lb (ah eX.2.1 0)).bind λ_=>some (0)).bind λHW=>
          (A.guard ck true ((A.lb (ah eX.2.1 0)).bind λiu=>A.aB HW 2 iu) aq).bind λdQ=>
     (A.guard ck true (A.eql (.s [0,2]) fR dQ) aq).bind λiB=>
     (A.pick ck iB bF).bind λeA=>
     (A.cond eA (
      ((A.lb (ah eX.2.1 0)).bind λrQ=>A.aB 0 3 rQ).bind λjj=>
      (A.aJ 3 (ah v2 0) (ah eX.2.1 1)).bind λiS=>
      (A.cells 3 jj).bind λzL=>
      (A.storeAt iS zL eX.2.2).bind λHf=>
      some ([(ah v2 0)],Hf)) (
      ((A.lb (ah eX.2.1 0)).bind λHg=>A.aB 0 3 Hg).bind λeO=>
      (((A.cells 3 eO).bind λlU=>(A.aV 0 lU [b9,bD,b9]).bind λHh=>some Hh).bind λcs=>some (AV.sl 3 (e8 3 1 cs))).bind λe9=>
      (xZ [(ah v2 0),(ah eX.2.1 1),e9] eX.2.2).bind λga=>
      some ([ga.1],ga.2))).bind λfy=>
     (A.add (ah v2 1) cO).bind λfS=>
     some (AX.normal,[(ah fy.1 0),fS],fy.2))else
    none) (
    some (AX.exit 0,[(ah v2 0),(ah v2 1)],s3)))) [.aE,.int .i64 0] σ=some q∧∃T v i W',q=(.exit 0,[v,i],W')∧fW l T∧Hs eH σ W' (Sl (fl ay) 3 v T*emp):=by
  refine jq (λz u w=>∃(i:Nat)(v:AV)(T:List aA),i≤l.length∧z=l.length-i∧u=[v,.int .i64 (i:Int)]∧fW (l.take i) T∧T.length≤i∧Hs eH σ w (Sl (fl ay) 3 v T*emp)) ?_ (n:=l.length) ⟨0,.aE,[],kQ _,rfl,rfl,⟨List.Pairwise.nil,λs=>by simp⟩,bH _,uf (Co σ) (.inl rfl)⟩;rintro z u w ⟨i,v,T,hi,rfl,rfl,hT,Dc,HK⟩;simp only[cz,dB];rw[fE,bS];by_cases hlt:i<l.length
  ·have hx:l[i]? =some l[i]:=bQ hlt;have iy:l.take (i+1)=l.take i++[l[i]]:=List.take_succ_eq_append_getElem hlt;generalize l[i]=s at hx iy;rw[cj hlt,cG,show A.aJ 3 (sl 3 ay l) (.int .i64 (i:Int))=some (.rp (ay s))from gW 3 ay l hx,bS];rw[show((A.deref (.rp (ay s)) w).bind λc7=>A.aB 0 3 c7)=some (.agg (ay s))from rfl,bS,nH,bS,show A.aV 0 (ay s) [b9,bD,b9]=some (ay s)from rfl,bS];obtain⟨T1,T2,rfl,t1,t2,t3⟩:=Wr (s:=s) (by omega) HK;rw[List.length_append]at Dc;refine .inl ?_
   have hins:∃v2 w2,xZ [v,nI T1.length,.sl 3 [ay s]] w=some (v2,w2)∧Hs eH σ w2 (Sl (fl ay) 3 v2 (T1++s::T2)*emp):=by obtain⟨v2,w2,g1,g2⟩:=Xb (m:=s) (i:=T1.length) (by simp) (by simp;omega) HK;refine⟨v2,w2,g1,?_⟩;rw[show(T1++T2).take T1.length++[s]++(T1++T2).drop T1.length=T1++s::T2 by simp]at g2;exact g2
   cases T2 with
   |nil=>obtain⟨v2,w2,g1,g2⟩:=hins;refine⟨l.length-(i+1),[v2,.int .i64 ((i+1:Nat):Int)],w2,by omega,?_,i+1,v2,_,hlt,rfl,rfl,by rw[iy];exact hT.ins t1 (by simp),by simp;simp at Dc;omega,g2⟩;refine(jF t3 _).trans ?_;rw[bS];simp only[gn,cz,dB];rw[zc HK,bS,fE,bS,bZ (by simp)];simp only[o8,As,bS,sw,bU];rw[show A.aB 0 3 (ay s)=some (.agg (ay s))from rfl,bS,LP,bS,g1,bS,bS,jx (by omega),bS];rfl
   |cons y T3=>
    rcases oC HK with⟨h,_,_⟩|⟨id,g,rfl,K⟩
    ·simp at h
    obtain⟨_,hg⟩:=nR K;have hy:(T1++y::T3)[T1.length]? =some y:=by simp
    by_cases hk:y.key=s.key
    ·have K2:=zb (b':=bp g (T1++s::T3)) K trivial;have g2:Hs eH σ (w.set id (bp g (T1++s::T3))) (Sl (fl ay) 3 (.os id g 3 0 (T1++y::T3).length) (T1++s::T3)*emp):=uI (seg:=(T1++s::T3).map ay) (iW (by ac_rfl) (wT.2 ⟨rfl,K2⟩)) (by simp);refine⟨l.length-(i+1),[.os id g 3 0 (T1++y::T3).length,.int .i64 ((i+1:Nat):Int)],w.set id (bp g (T1++s::T3)),by omega,?_,i+1,_,_,hlt,rfl,rfl,by rw[iy];exact hT.upd hk,by simp at Dc ⊢;omega,g2⟩;refine(jF t3 _).trans ?_;rw[bS];simp only[gn,cz,dB];rw[zc HK,bS,fE,bS,cj (by simp)];simp only[gT,As,bS,qA];rw[jk (by simp),bS,show A.cW 0 (.oe id g T1.length 0)=some (.oe id g T1.length 0)from rfl,bS];rw[G7 hg hy,bS];simp only[gT,bS];rw[show A.aB 0 2 (ay s)=some (.agg (bN s.key))from rfl,bS,Cm,bS,cj hk,cG,show A.aB 0 3 (ay s)=some (.agg (ay s))from rfl,bS,nH,bS,sK s hg (by simp),bS,bS,jx (by omega),bS,U3];rfl
    ·obtain⟨v2,w2,g1,g2⟩:=hins;refine⟨l.length-(i+1),[v2,.int .i64 ((i+1:Nat):Int)],w2,by omega,?_,i+1,v2,_,hlt,rfl,rfl,by rw[iy];exact hT.ins t1 (λz hz=>⟨t2 z hz,by simp at hz;rw[←hz];exact hk⟩),by simp at Dc ⊢;omega,g2⟩;refine(jF t3 _).trans ?_;rw[bS];simp only[gn,cz,dB];rw[zc HK,bS,fE,bS,cj (by simp)];simp only[gT,As,bS,qA];rw[jk (by simp),bS,show A.cW 0 (.oe id g T1.length 0)=some (.oe id g T1.length 0)from rfl,bS];rw[G7 hg hy,bS];simp only[gT,bS];rw[show A.aB 0 2 (ay s)=some (.agg (bN s.key))from rfl,bS,Cm,bS,bZ hk,bU,show A.aB 0 3 (ay s)=some (.agg (ay s))from rfl,bS,LP,bS,g1,bS,bS,jx (by omega),bS];rfl
  ·rw[bZ hlt,bU];rw[gD (by omega)]at hT;exact .inr ⟨_,rfl,by simp,T,v,_,w,rfl,hT,HK⟩
 obtain⟨v',f1,f2⟩:=Ca (c:=ay) (sz:=3) sN HT;refine⟨T,v',hT,?_,f2⟩;refine(jF hq _).trans ?_;rw[bS];simp only[gn,cz];exact f1
end
theorem Uq(σ:Heap):vU [.aE,.int .i64 0] σ=some (.aE,σ):=by unfold vU A.wrap;rw[Bool.false_and,aQ];show(uo .aE (.int .i64 0) σ).map _=_;rw[show uo .aE (.int .i64 0) σ=some (.aE,σ)from rfl];simp [A.nn]
def oa:an:=[b9,bD,b9]
theorem Ur{n:Nat}(h0:0<n)(h1:n≤4398046511104)(σ:Heap):vU [.aE,.int .i64 (n:Int)] σ=some (.os σ.length n 3 0 0,σ++[.arr n 3 (List.replicate n oa)]):=by
 unfold vU A.wrap;rw[Bool.false_and,aQ];show(uo .aE (.int .i64 (n:Int)) σ).map _=_
 have run:uo .aE (.int .i64 (n:Int)) σ=some (.os σ.length n 3 0 0,σ++[.arr n 3 (List.replicate n oa)]):=by
  unfold uo;have hc:∀{k:AV→au}{u:au},A.mz (A.oP .aE) k u=k (.int .i64 0):=rfl;have lf:∀{k:AV→Option (an×Heap)}{u:Option (an×Heap)},A.mz (A.oP .aE) k u=k (.int .i64 0):=rfl;have e1:A.lss (.int .i64 (n:Int)) (.int .i64 0)=some (.bool false):=by rw[oO,bZ (by omega)]
  have e2:A.sub (.int .i64 (n:Int)) (.int .i64 0)=some (.int .i64 (n:Int)):=by rw[xp,Int.sub_zero,dL (by unfold bE;omega)]
  have e3:A.gtr (.int .i64 (n:Int)) (.int .i64 0)=some (.bool true):=by simp [A.gtr];omega
  rw[e1,aC,bU,aC,hc,show A.bl .aE=some (.int .i64 0)from rfl,aC,show A.sub (.int .i64 0) (.int .i64 0)=some (.int .i64 0)from rfl,aC,e2,aC,e3,aC,cG,lf];have e4:A.aZ 3 .aE none (some (.int .i64 0)) σ=some .aE:=by simp [A.aZ,A.bound]
  have e5:A.iV 3 (140737488355328 / 32) oa .aE (.int .i64 (n:Int)) σ=some (.os σ.length n 3 0 n,σ++[.arr n 3 (List.replicate n oa)]):=by
   have q:(0:Int)≤(n:Int)∧(n:Int)≤((140737488355328 / 32:Nat):Int):=by omega
   simp only[A.iV,aM q,A.iU,Int.toNat_natCast,List.length_replicate];rw[aK (by intro h;have:=congrArg List.length h;simp at this;omega),aM (by omega)]
  have e6:(σ++[aX.arr n 3 (List.replicate n oa)])[σ.length]? =some (.arr n 3 (List.replicate n oa)):=by simp
  simp only;rw[e4,aC,show[b9,bD,b9]=oa from rfl,e5,aC,aC,show(.int .i64 0:AV)=.int .i64 ((0:Nat):Int)from rfl,ow (pR e6 (by simp)) (mS (k:=0) (by omega)) mm,aC];rfl
 rw[run];simp [A.nn]
def Cx(x:List an):an:=[.sl 3 x]
def ia(L:List (List an)):Nat:=L.flatten.length
theorem E7{L:List (List an)}{i:Nat}{x:List an}(h:L[i]? =some x):(L.take (i+1)).flatten=(L.take i).flatten++x:=by rw[List.take_add_one,h];simp
theorem LR{L:List (List an)}(i:Nat):ia (L.take i)≤ia L:=by
 have:L=L.take i++L.drop i:=(List.take_append_drop _ _).symm;unfold ia;conv=>rhs;rw[this,List.flatten_append,List.length_append]
 omega
theorem SA{L:List (List an)}(hl:L.length≤bV)(h:ia L≤4398046511104)(hz:∀r∈L.flatten,iJ r)(σ:Heap):∃b:AV×Heap,DK (sl 1 Cx L) σ=some b∧b.2=σ∧A.nn (.s 3) b.1=.sl 3 L.flatten:=by
 unfold DK;rw[gX,aC];refine FY (Q:=λq=>∃w,q=(.exit 0,[.int .i64 (ia L:Int),w],σ)) (FF L (λi v s=>v=[.int .i64 (ia (L.take i):Int),.int .i64 (i:Int)]∧s=σ) ?_ ?_ ⟨rfl,rfl⟩) ?_
 ·rintro i x v s hx ⟨rfl,rfl⟩;have hle:=LR (L:=L) (i+1);have hs:ia (L.take (i+1))=ia (L.take i)+x.length:=by unfold ia;rw[E7 hx,List.length_append]
  simp only[cz,dB];rw[qZ hx,aC,cG,qR hx,aC];simp only[A.deref,aC];rw[show A.aD 0 (Cx x)=some (.sl 3 x)from rfl,aC,show A.bl (.sl 3 x)=some (.int .i64 (x.length:Int))from rfl,aC,G3 (by omega),aC];rw[show A.lss (.int .i64 ((ia (L.take i)+x.length:Nat):Int)) (.int .i64 0)=some (.bool false) by rw[oO,bZ (by omega)],aC,bU,aC,qS hx hl,aC];exact⟨_,_,rfl,by rw[hs],rfl⟩
 ·rintro v s ⟨rfl,rfl⟩;simp only[cz,dB];rw[qQ,aC,bU];refine⟨_,rfl,by simp,.int .i64 (L.length:Int),?_⟩;rw[List.take_length]
 ·rintro q ⟨w,rfl⟩;simp only[NP,cz];by_cases h0:ia L=0
  ·have qm:L.flatten=[]:=tE h0;rw[h0,show(((0:Nat):Int))=0 from rfl,Uq,aC,aC];refine FY (Q:=λq=>∃w,q=(.exit 2,[.aE,w],σ)) (FF L (λi v s=>v=[.aE,.int .i64 (i:Int)]∧s=σ) ?_ ?_ ⟨rfl,rfl⟩) ?_
   ·rintro i x v s hx ⟨rfl,rfl⟩
    have YQ:x=[]:=by have:=List.flatten_eq_nil_iff.1 qm x (cx hx);exact this
    subst YQ;simp only[cz,dB];rw[qZ hx,aC,cG,qR hx,aC];simp only[A.deref,aC];rw[show A.aD 0 (Cx [])=some (.sl 3 [])from rfl,aC,show A.append 3 (140737488355328 / 32) .aE (.sl 3 []) s=some (.aE,s) by simp [A.append,A.elems,A.iU],aC,qS hx hl,aC];exact⟨_,_,rfl,rfl,rfl⟩
   ·rintro v s ⟨rfl,rfl⟩;simp only[cz,dB];rw[qQ,aC,bU];exact⟨_,rfl,by simp,_,rfl⟩
   ·rintro q ⟨w,rfl⟩;refine⟨_,dZ _ _,rfl,?_⟩;rw[qm];rfl
  ·have hpos:0<ia L:=by omega
   rw[Ur hpos (by omega),aC,aC];obtain⟨n,hn⟩:∃n,n=ia L:=⟨_,rfl⟩
   rw[←hn]at hpos h ⊢;refine FY (Q:=λq=>∃w,q=(.exit 2,[.os σ.length n 3 0 n,w],σ++[.arr n 3 L.flatten])) (FF L (λi v s=>v=[.os σ.length n 3 0 (ia (L.take i)),.int .i64 (i:Int)]∧s=σ++[.arr n 3 ((L.take i).flatten++List.replicate (n-ia (L.take i)) oa)]) ?_ ?_ ⟨rfl,by simp [ia]⟩) ?_
   ·rintro i x v s hx ⟨rfl,rfl⟩;have hle:=LR (L:=L) (i+1);have hs:ia (L.take (i+1))=ia (L.take i)+x.length:=by unfold ia;rw[E7 hx,List.length_append]
    obtain⟨k,hk⟩:∃k,k=ia (L.take i):=⟨_,rfl⟩
    have hfl:(L.take i).flatten.length=k:=hk.symm;simp only[cz,dB];rw[qZ hx,aC,cG,qR hx,aC];simp only[A.deref,aC];rw[show A.aD 0 (Cx x)=some (.sl 3 x)from rfl,aC];rw[hs,E7 hx,←hk];have hg:(σ++[aX.arr n 3 ((L.take i).flatten++List.replicate (n-k) oa)])[σ.length]? =some (.arr n 3 ((L.take i).flatten++List.replicate (n-k) oa)):=by simp
    have WT:A.append 3 (140737488355328 / 32) (.os σ.length n 3 0 k) (.sl 3 x) (σ++[.arr n 3 ((L.take i).flatten++List.replicate (n-k) oa)])=some (.os σ.length n 3 0 (k+x.length),σ++[.arr n 3 ((L.take i).flatten++x++List.replicate (n-(k+x.length)) oa)]):=by
     simp only[A.append,A.elems,if_true,aC,A.iU,hg];rw[aM (by simp [hfl];omega)];by_cases hx0:x=[]
     ·subst hx0;simp
     ·rw[aK hx0,aM (by simp [hfl];omega)];congr 2;rw[nZ _ _ (bH _),Nat.sub_self];simp only[List.set_cons_zero,Nat.zero_add];congr 3;rw[List.take_append_of_le_length (by omega),gD (by omega)];congr 1;rw[List.drop_append,List.drop_of_length_le (by omega),List.nil_append,hfl,List.drop_replicate];congr 1;omega
    rw[WT,aC,qS hx hl,aC];exact⟨_,_,rfl,rfl,rfl⟩
   ·rintro v s ⟨rfl,rfl⟩;simp only[cz,dB];rw[qQ,aC,bU];refine⟨_,rfl,by simp,.int .i64 (L.length:Int),?_⟩;rw[List.take_length,←hn];simp
   ·rintro q ⟨w,rfl⟩;have hfl:L.flatten.length=n:=hn.symm
    have hfz:A.br (σ++[.arr n 3 L.flatten]) σ.length 8 (.os σ.length n 3 0 n)=some (.sl 3 L.flatten):=by
     have hg:(σ++[aX.arr n 3 L.flatten])[σ.length]? =some (.arr n 3 L.flatten):=by simp
     have key:∀(rows:List an),(∀r∈rows,iJ r)→∀(s:Heap)m d,A.gr s m d rows=some rows:=by
      intro rows;induction rows with
      |nil=>intro _ s m d;simp [A.gr]
      |cons r rows ih=>intro hr s m d;simp [A.gr,hr r (by simp) s m d,ih (λy hy=>hr y (by simp [hy])) s m d]
     simp only[A.br,Nat.lt_irrefl,if_false,hg];rw[aM (by rw[hfl];simp),List.drop_zero,gD (Nat.le_of_eq hfl),yH,key _ hz];rfl
    refine⟨(.sl 3 L.flatten,σ),?_,rfl,rfl⟩;show A.fin σ (.os σ.length n 3 0 n) (σ++[.arr n 3 L.flatten])=_;unfold A.fin;rw[aK (by simp),aM (by simp),hfz];rfl
theorem Tk{a b:List aA}(h:a.length+b.length≤4398046511104)(σ:Heap):vS [.sl 1 [[sl 3 ay a],[sl 3 ay b]]] σ=some (sl 3 ay (a++b),σ):=by
 obtain⟨⟨v,s⟩,h1,h2,h3⟩:=SA (L:=[a.map ay,b.map ay]) (by simp [bV]) (by simp [ia];omega) (by
  intro r hr;simp only[List.flatten_cons,List.flatten_nil,List.append_nil,dg,jS]at hr
  rcases hr with⟨x,_,rfl⟩|⟨x,_,rfl⟩<;>exact sN x) σ
 simp only at h2 h3;subst h2;refine wrap_eq rfl h1 ?_;rw[h3];simp [sl]
theorem Kb{l:List aA}(hl:l.length≤900000):∃R,fW l R:=let⟨R,h,_⟩:=TK hl [];⟨R,h⟩
noncomputable def fF (l:List aA):List aA:=by
 classical
 exact if h:∃R,fW l R then Classical.choose h else[]
theorem Ks{l:List aA}(hl:l.length≤900000):fW l (fF l):=by unfold fF;rw[dif_pos (Kb hl)];exact Classical.choose_spec (Kb hl)
theorem VX{l:List aA}(hl:l.length≤900000)(σ:Heap):yp [sl 3 ay l] σ=some (sl 3 ay (fF l),σ):=by obtain⟨R,h1,h2⟩:=TL hl σ;rw[h2,h1.uniq (Ks hl)]
theorem WH{l:List aA}(hl:l.length≤1000000000)(σ:Heap):A.qj (.s 3) qH [sl 3 ay l] σ=some (sl 3 ay l,σ):=by obtain⟨v,σ',e1,_,K⟩:=Nc hl (Co σ);obtain⟨v',e2,e3⟩:=Ca sN K;unfold A.qj;rw[e1,aC];simp only;rw[e2,dN];simp only;rw[e3]
theorem WI{a b:List aA}(h:a.length+b.length≤1000000000)(σ:Heap):vS [.sl 1 [[sl 3 ay a],[sl 3 ay b]]] σ=some (sl 3 ay (a++b),σ):=Tk (by omega) σ
section
set_option maxRecDepth 100000
open HP
def jr(p:aT):List aT→Bool→List aT
 |[],put=>if put then[]else[p]
 |x::t,put=>(if(!put&&decide (p.aH≤x.aH))=true then[p]else[])++((if ¬(x.aH=p.aH)then[x]else[])++jr p t (put||decide (p.aH≤x.aH)))
theorem Ww{aL σ:Heap}{R:HP}{v:AV}{l:List aT}(k:aT)(hl:l.length<1000000000)(H:Hs eH aL σ (Sl (fl aN) 3 v l*R)):∃v' σ',A.append 3 (140737488355328 / 48) v (.sl 3 [aN k]) σ=some (v',σ')∧Hs eH aL σ' (Sl (fl aN) 3 v' (l++[k])*R):=
 F7 (ys:=[aN k]) (xs:=[k]) (iW (show pr (aN k=aN k)*(Sl (fl aN) 3 v l*R)=_ by
  rw[show els (fl aN) [aN k] [k]=pr (aN k=aN k)*emp from rfl,wq,uz];ac_rfl) (qY.2 ⟨rfl,H⟩)) (by simp;omega) (λ_ _ _ _=>trivial)
theorem U1(m:aT):(((A.cells 3 (.agg (aN m))).bind λXL=>(A.aV 0 XL [b9,bD,AV.aE]).bind λXM=>some XM).bind λcs=>some (AV.sl 3 (e8 3 1 cs)))=some (.sl 3 [aN m]):=rfl
theorem E0{p:aT}:∀t:List aT,jr p t true=t.filter λx=>decide (¬x.aH=p.aH)
 |[]=>rfl
 |x::t=>by rw[jr,List.filter_cons,Bool.true_or,E0 t];by_cases h:x.aH=p.aH<;>simp [h]
end
section
set_option maxRecDepth 100000
open HP
theorem Ti{l:List aT}(hl:l.length≤10000)(hs:∀x∈l,x.bY.length≤1000000000){aL W:Heap}{R:HP}(H:Hs eH aL W R):
  ∃v w i,A.loop ((λbJ ct=>
     (A.lss (ah bJ 1) (AV.int .i64 (l.length:Int))).bind λiC=>
     A.cond iC (
      (A.aJ 3 (sl 3 aN l) (ah bJ 1)).bind λeO=>
      ((A.deref eO ct).bind λlU=>A.aB 0 3 lU).bind λdX=>
      (A.cells 3 dX).bind λoY=>
      (A.aV 0 oY [b9,bD,AV.aE]).bind λfH=>
      (A.aD 2 fH).bind λfS=>
      ((A.qj (.s 3) qH) [fS] ct).bind λoq=>
      ((A.cell oq.1).bind λv=>some [v]).bind λrR=>
      (A.aV 2 rR fH).bind λoZ=>
      (A.aB 0 3 oZ).bind λgJ=>
      (((A.cells 3 gJ).bind λzN=>(A.aV 0 zN [b9,bD,AV.aE]).bind λzO=>some zO).bind λcs=>some (AV.sl 3 (e8 3 1 cs))).bind λfT=>
      (A.append 3 (140737488355328 / 48) (ah bJ 0) fT oq.2).bind λeJ=>
      (A.add (ah bJ 1) cO).bind λdO=>
      some (AX.normal,[eJ.1,dO],eJ.2)) (
      some (AX.exit 2,[(ah bJ 0),(ah bJ 1)],ct)))) [.aE,.int .i64 0] W=some (.exit 2,[v,i],w)∧Hs eH aL w (Sl (fl aN) 3 v l*R):=by
 suffices hq:∃q,A.loop ((λbJ ct=>
     (A.lss (ah bJ 1) (AV.int .i64 (l.length:Int))).bind λiC=>
     A.cond iC (
      (A.aJ 3 (sl 3 aN l) (ah bJ 1)).bind λeO=>
      ((A.deref eO ct).bind λlU=>A.aB 0 3 lU).bind λdX=>
      (A.cells 3 dX).bind λoY=>
      (A.aV 0 oY [b9,bD,AV.aE]).bind λfH=>
      (A.aD 2 fH).bind λfS=>
      ((A.qj (.s 3) qH) [fS] ct).bind λoq=>
      ((A.cell oq.1).bind λv=>some [v]).bind λrR=>
      (A.aV 2 rR fH).bind λoZ=>
      (A.aB 0 3 oZ).bind λgJ=>
      (((A.cells 3 gJ).bind λzN=>(A.aV 0 zN [b9,bD,AV.aE]).bind λzO=>some zO).bind λcs=>some (AV.sl 3 (e8 3 1 cs))).bind λfT=>
      (A.append 3 (140737488355328 / 48) (ah bJ 0) fT oq.2).bind λeJ=>
      (A.add (ah bJ 1) cO).bind λdO=>
      some (AX.normal,[eJ.1,dO],eJ.2)) (
      some (AX.exit 2,[(ah bJ 0),(ah bJ 1)],ct)))) [.aE,.int .i64 0] W=some q∧∃v w i,q=(.exit 2,[v,i],w)∧Hs eH aL w (Sl (fl aN) 3 v l*R) by
  obtain⟨q,e,v,w,i,rfl,h⟩:=hq;exact⟨v,w,i,e,h⟩
 refine jq (λz u w=>∃(i:Nat)(v:AV),i≤l.length∧z=l.length-i∧u=[v,.int .i64 (i:Int)]∧Hs eH aL w (Sl (fl aN) 3 v (l.take i)*R)) ?_ (n:=l.length) ⟨0,.aE,kQ _,rfl,rfl,uf H (.inl rfl)⟩;rintro z u w ⟨i,v,hi,rfl,rfl,HK⟩;simp only[cz,dB];rw[fE,bS];by_cases hlt:i<l.length
 ·have hx:l[i]? =some l[i]:=bQ hlt;have hxs:l[i].bY.length≤1000000000:=hs _ (List.getElem_mem hlt);have iy:l.take (i+1)=l.take i++[l[i]]:=List.take_succ_eq_append_getElem hlt;generalize l[i]=x at hx hxs iy;obtain⟨v3,w3,f1,f2⟩:=Ww x (by rw[i6];omega) HK;rw[cj hlt,cG,gW 3 aN l hx,bS,show((A.deref (.rp (aN x)) w).bind λc7=>A.aB 0 3 c7)=some (.agg (aN x))from rfl,bS,show A.cells 3 (.agg (aN x))=some (aN x)from rfl,bS,show A.aV 0 (aN x) [b9,bD,AV.aE]=some (aN x)from rfl,bS,show A.aD 2 (aN x)=some (sl 3 ay x.bY)from rfl,bS,WH hxs w,bS];simp only;rw[show((A.cell (sl 3 ay x.bY)).bind λv=>some [v])=some [sl 3 ay x.bY]from rfl,bS,show A.aV 2 [sl 3 ay x.bY] (aN x)=some (aN x)from rfl,bS,show A.aB 0 3 (aN x)=some (.agg (aN x))from rfl,bS,U1,bS,f1,bS,jx (by omega),bS];exact .inl ⟨l.length-(i+1),_,_,by omega,rfl,i+1,v3,hlt,rfl,rfl,by rw[iy];exact f2⟩
 ·rw[bZ hlt,bU];rw[gD (by omega)]at HK;exact .inr ⟨_,rfl,by simp,v,w,_,rfl,HK⟩
end
section
set_option maxRecDepth 100000
open HP
def lI(r:cK):List aA→Int
 |[]=>0
 |x::l=>if mB r x.key=false then 8 else if cm x.level 0 65535=false then 1 else lI r l
noncomputable def rF (ps:List aT) (n:Int) (t:ByteArray) (l:List aA) (m:Bool):aT:=
 if((iT ps n).2&&m)=true then⟨n,if t=⟨#[]⟩then(iT ps n).1.title else t,fF ((iT ps n).1.bY++l)⟩else⟨n,t,fF l⟩
noncomputable def lO (r:cK) (ps:List aT) (n:Int) (t:ByteArray) (l:List aA) (m:Bool):List aT×Int:=
 if ¬(iD r ps=0)then([],iD r ps)
 else if cm n 1 999=false then([],1)
 else if oG t=false then([],3)
 else if 20000<(l.length:Int)then([],2)
 else if ¬(lI r l=0)then([],lI r l)
 else if 2000<((rF ps n t l m).bY.length:Int)∨200<((jr (rF ps n t l m) ps false).length:Int)then([],2)
 else(jr (rF ps n t l m) ps false,0)
theorem F3{r:cK}{ps:List aT}(h:iD r ps=0):ps.length≤200∧∀p∈ps,p.bY.length≤2000:=by
 unfold iD at h;split at h
 ·rename_i h0;exact absurd h h0
 split at h
 ·cases h
 rename_i h1;refine⟨by omega,λp hp=>?_⟩;obtain⟨i,hi⟩:=tD.1 hp;have:=(sP ps 0).1 h i p hi;unfold sW at this;split at this
 ·cases this
 split at this
 ·cases this
 split at this
 ·cases this
 split at this
 ·cases this
 omega
theorem LX{s:List Sh}{ro:Sh}{r:AV→AV→AV→AV→AV→AV→Heap→au}{x y z u v w q q':AV}{σ:Heap}(h:[x,y,z,u,v,w].any A.own=false)(e1:A.bW s [x,y,z,u,v,w]=[x,y,z,u,v,w])(e2:A.nn ro q=q')(e:r x y z u v w σ=some (q,σ)):A.wrap true s ro (A.tT r) [x,y,z,u,v,w] σ=some (q',σ):=by refine wrap_eq h ?_ e2;rw[e1];exact e
theorem tv{α:Type}(sz:Nat)(c:α→an)(l:List α):A.nn (.s sz) (sl sz c l)=sl sz c l:=by simp [sl,A.nn]
theorem Wk(ss:List Sh)(vs:an):A.nn (.t ss) (.aG vs)=.aG (A.bW ss vs):=by simp [A.nn]
theorem uH(vs:an):A.bW [] vs=vs:=by simp [A.bW]
theorem LA(r:cK):A.nn oM (.agg (dM r))=.agg (dM r):=by rw[show A.nn oM (.agg (dM r))=.agg (A.bW [(.s 3),(.s 4)] (dM r)) by simp [A.nn],show A.bW [(.s 3),(.s 4)] (dM r)=dM r from gZ (tv ..) (gZ (tv ..) (uH _))]
theorem Wn(n:Nat){α:Type}{X Y:α}:(bif (AX.ret==AX.exit n)then X else Y)=Y:=by rw[show(AX.ret==AX.exit n)=false from rfl];rfl
theorem Wo{α:Type}{X Y:α}:(bif (AX.ret==AX.ret)then X else Y)=X:=rfl
theorem I4{ps:List aT}{n:Int}(h:(iT ps n).2=true):(iT ps n).1∈ps∧(iT ps n).1.aH=n:=by
 unfold iT at h ⊢;cases hf:ps.find? λp=>decide (p.aH=n)with
 |none=>rw[hf]at h;cases h
 |some p=>exact⟨zn hf,by simpa using List.find?_some hf⟩
theorem Vq{α:Type}{c:α→an}{sz:Nat}{aL σ:Heap}{R:HP}{v:AV}{l:List α}{e:Int}(hc:∀x,iJ (c x))(H:Hs eH aL σ (Sl (fl c) sz v l*R)):∃v',A.fin aL (.aG [v,.int .i64 e]) σ=some (.aG [v',.int .i64 e],aL)∧A.nn (.s sz) v'=sl sz c l:=by
 obtain⟨v',h1,h2,h3⟩:=F8 H hc (bH _) 7;refine⟨v',FT (Mc H) (by simp [A.br,A.cX,h1]) (λe=>?_),h3⟩;rcases oC H with⟨rfl,rfl|rfl,_⟩|⟨id,g,rfl,K⟩
 ·simp [A.br]at h1;rw[h1]
 ·simp [A.br]at h1;rw[h1]
 ·obtain⟨k1,k2⟩:=nR K;have:=(bK.1 k2).1;subst e;omega
theorem L6{aL σ:Heap}{R:HP}{e:Int}(H:Hs eH aL σ R):A.fin aL (.aG [.aE,.int .i64 e]) σ=some (.aG [.aE,.int .i64 e],aL):=FT H (by simp [A.br,A.cX]) (λ_=>rfl)
theorem VN{v:AV}{l:List aT}(h:A.nn (.s 3) v=sl 3 aN l):A.nn (.e 3 lJ) v=sl 3 aN l:=by
 have hc:∀x:aT,A.bW lJ (aN x)=aN x:=λx=>gZ (jW _) (gZ (jW _) (gZ (tv ..) (uH _)))
 rw[←Nw hc l,←h];cases v<;>simp [A.nn]
theorem UT{p:aT}{out:List aT}{v:AV}{σ w:Heap}{F:List aT×Int}(K:Hs eH σ w (Sl (fl aN) 3 v out*emp))(hF:F=if 2000<(p.bY.length:Int)∨200<(out.length:Int)then([],2)else(out,0)):
  ∃q,((A.guard (.bool (decide (2000<(p.bY.length:Int)))) false (some v) aq).bind λXy=>
   (A.guard (.bool (decide (2000<(p.bY.length:Int)))) false (A.bl Xy) aq).bind λXz=>
   (A.guard (.bool (decide (2000<(p.bY.length:Int)))) false (A.gtr Xz (AV.int .i64 200)) aq).bind λXA=>
   (A.pick (.bool (decide (2000<(p.bY.length:Int)))) eI XA).bind λXB=>
   A.cond XB (A.fin σ (AV.aG [AV.aE,(AV.int .i64 2)]) w) (A.fin σ (AV.aG [v,b9]) w))=some (.aG [q,.int .i64 F.2],σ)∧A.nn (.e 3 lJ) q=sl 3 aN F.1:=by
 by_cases h:2000<(p.bY.length:Int)
 ·rw[aM (.inl h)]at hF;subst hF;rw[cj h,C9,bS,C9,bS,C9,bS,qA,bS,cG,L6 K];exact⟨_,rfl,FH _ _⟩
 rw[bZ h,gF,bS,gF,zc K,bS,gF,xm,bS,sw,bS];by_cases h2:200<(out.length:Int)
 ·rw[aM (.inr h2)]at hF;subst hF;rw[cj h2,cG,L6 K];exact⟨_,rfl,FH _ _⟩
 ·rw[aK (λk=>k.elim h h2)]at hF;subst hF;obtain⟨v',g1,g2⟩:=Vq (e:=0) Bv K;rw[bZ h2,bU,g1];exact⟨_,rfl,VN g2⟩
theorem UX(a b:List aA):((((A.cell (sl 3 ay a)).bind λv=>some [v]).bind λXG=>(A.aV 0 XG [AV.aE,AV.aE]).bind λXH=>((A.cell (sl 3 ay b)).bind λv=>some [v]).bind λXI=>(A.aV 1 XI XH).bind λXJ=>some XJ).bind λcs=>some (AV.sl 1 (e8 1 2 cs)))=some (.sl 1 [[sl 3 ay a],[sl 3 ay b]]):=rfl
theorem Cz{X Y:au}{f:AV→AV×Heap}{P:AV→Prop}(h:X=Y)(k:∃v,Y=some (f v)∧P v):∃v,X=some (f v)∧P v:=h▸k
end
section
set_option maxRecDepth 100000
open HP
theorem FJ{r:cK}{ps:List aT}(h:iD r ps=0):ps.Pairwise λa b=>a.aH<b.aH:=by
 unfold iD at h;split at h
 ·rename_i h0;exact absurd h h0
 split at h
 ·cases h
 have hc:=(sP ps 0).1 h;refine EF (r:=λa b:aT=>a.aH<b.aH) (λa b c=>Int.lt_trans) ps λi x hx=>?_
 rw[←LN];have:=hc (i+1) x hx;unfold sW at this;split at this
 ·cases this
 split at this
 ·cases this
 rename_i q;rw[show(0+(i+1))=i+1 by omega]at q;rw[cj (by omega:(0:Int)<((i+1:Nat):Int)),Bool.true_and,decide_eq_true_eq]at q;omega
theorem UP{r:cK}{ps:List aT}(h:iD r ps=0):∀p∈ps,1≤p.aH∧p.aH≤999:=by
 unfold iD at h;split at h
 ·rename_i h0;exact absurd h h0
 split at h
 ·cases h
 intro p hp;obtain⟨i,hi⟩:=tD.1 hp;have:=(sP ps 0).1 h i p hi;unfold sW at this;split at this
 ·cases this
 rename_i q;simpa [cm]using q
theorem Fm{n:Int}:∀{ps:List aT},(ps.Pairwise λa b=>a.aH<b.aH)→∃pre post,(∀x∈pre,x.aH<n)∧(∀x∈post,n<x.aH)∧((∃old,ps=pre++old::post∧old.aH=n)∨ps=pre++post)
 |[],_=>⟨[],[],by simp,by simp,.inr rfl⟩
 |x::ps,h=>by
  have hs:=List.pairwise_cons.1 h;by_cases h1:x.aH<n
  ·obtain⟨pre,post,a1,a2,a3⟩:=Fm hs.2;refine⟨x::pre,post,λy hy=>?_,a2,?_⟩
   ·rcases dc.1 hy with rfl|hy
    ·exact h1
    ·exact a1 y hy
   ·rcases a3 with⟨old,rfl,ho⟩|rfl
    ·exact .inl ⟨old,rfl,ho⟩
    ·exact .inr rfl
  ·by_cases h2:x.aH=n
   ·exact⟨[],ps,by simp,λy hy=>by have:=hs.1 y hy;omega,.inl ⟨x,rfl,h2⟩⟩
   ·refine⟨[],x::ps,by simp,λy hy=>?_,.inr rfl⟩;rcases dc.1 hy with rfl|hy
    ·omega
    ·have:=hs.1 y hy;omega
theorem yA{p:aT}{t:List aT}:∀{pre:List aT},(∀x∈pre,x.aH<p.aH)→jr p (pre++t) false=pre++jr p t false
 |[],_=>rfl
 |x::pre,h=>by have hx:=h x (by simp);rw[jT,jr,Bool.false_or,bZ (by omega),yA λy hy=>h y (by simp [hy])];simp [show ¬x.aH=p.aH by omega]
theorem I6{p:aT}{post:List aT}(h:∀x∈post,p.aH<x.aH):(post.filter λx=>decide (¬x.aH=p.aH))=post:=by rw[List.filter_eq_self];intro x hx;have:=h x hx;simp;omega
theorem JG{p old:aT}{post:List aT}(ho:old.aH=p.aH)(h:∀x∈post,p.aH<x.aH):jr p (old::post) false=p::post:=by rw[jr,Bool.false_or,cj (by omega),E0,I6 h];simp [ho]
theorem Jn{p:aT}{post:List aT}(h:∀x∈post,p.aH<x.aH):jr p post false=p::post:=by
 cases post with
 |nil=>rfl
 |cons x t=>have hx:=h x (by simp);rw[jr,Bool.false_or,cj (by omega),E0,I6 λy hy=>h y (by simp [hy])];simp [show ¬x.aH=p.aH by omega]
theorem Jm{old:aT}{pre post:List aT}{n:Int}(ho:old.aH=n)(h:∀x∈pre,x.aH<n):iT (pre++old::post) n=(old,true):=by unfold iT;rw[List.find?_append,List.find?_eq_none.2 (λx hx=>by have:=h x hx;simp;omega),Option.none_or,List.find?_cons,cj ho]
theorem Ru{ps:List aT}{n:Int}(h:∀x∈ps,¬x.aH=n):iT ps n=(⟨0,⟨#[]⟩,[]⟩,false):=by unfold iT;rw[List.find?_eq_none.2 (λx hx=>by simpa using h x hx)]
theorem Na{dyn:Nat→an→Heap→au}{l:List aT}{fn:Nat}{k:Int}{cv:aT→Int}{p:Nat}{σ:Heap}(hl:l.length<4611686018427387904)(hp:p≤l.length)
  (hd:∀x∈l,dyn fn [.agg (aN x),.int .i64 k] σ=some (.int .i64 (cv x),σ)) (hc:∀h x,l[h]? =some x→(cv x<0↔h<p)):
  vN dyn [sl 3 aN l,.int .i64 k,.fn fn []] σ=some (.aG [.int .i64 (p:Int),.bool ((l[p]?).any λx=>decide (cv x=0))],σ):=by
 refine wrap_eq rfl ?_ rfl;show AU dyn (sl 3 aN l) (.int .i64 k) (.fn fn []) σ=_;unfold AU;rw[gX,aC];rw[T4 (v0:=[.int .i64 0,.int .i64 (l.length:Int)]) (λi j=>[.int .i64 (i:Int),.int .i64 (j:Int)]) hp rfl ?_ ?_,aC]
 ·simp only[NP,dB,cz];rw[G4,aC];by_cases hpl:p<l.length
  ·have hx:l[p]? =some l[p]:=bQ hpl;have rZ:=hd _ (cx hx);have iO:=gW 3 aN l hx;have hq:=yN (by show A.eB dyn (.fn fn []) [.agg (aN l[p]),.int .i64 k] σ=_;simp only[A.eB,List.append_nil];exact rZ);simp only[cj hpl,A.guard,beq_self_eq_true,bh,aC,dB,cz,iO,A.deref,EO,A.lb,A.aD,A.aB,A.pick,hx,Option.any_some];show((A.quiet (A.eB dyn (.fn fn []) [.agg (aN l[p]),.int .i64 k] σ) σ).bind _)=_;rw[hq,aC,qu];exact dZ _ _
  ·have hx:l[p]? =none:=iZ (by omega);simp only[bZ hpl,A.guard,aC,A.pick,hx,Option.any_none];exact dZ _ _
 ·intro i j hij hj;have hlt:(i+j) / 2<l.length:=by omega
  have hx:l[(i+j) / 2]? =some l[(i+j) / 2]:=bQ hlt;have rZ:=hd _ (cx hx);have iO:=gW 3 aN l hx;have hq:A.eB dyn (.fn fn []) [.agg (aN l[(i+j) / 2]),.int .i64 k] σ=some (.int .i64 (cv l[(i+j) / 2]),σ):=by simp only[A.eB,List.append_nil];exact rZ
  simp only[dB,cz];rw[G4,aC,cj hij];simp only[A.cond,bh];rw[G3 (by omega),aC,Vp (by omega),aC,Ut (by omega),aC,Vo (by omega),aC,iO,aC];simp only[A.deref,aC,EO,A.lb];rw[hq,aC,Wt,aC];by_cases hh:(i+j) / 2<p
  ·have:=(hc _ _ hx).2 hh;rw[cj this,aM hh];simp only[bh,Ws (show(i+j) / 2+1<9223372036854775808 by omega),aC];rfl
  ·have:¬(cv l[(i+j) / 2]<0):=λe=>hh ((hc _ _ hx).1 e)
   rw[bZ this,aK hh];rfl
 ·intro i hi;simp only[dB,cz];rw[G4,aC,bZ (Nat.lt_irrefl i)];rfl
theorem TR{s:List Sh}{ro:Sh}{r:AV→AV→Heap→au}{x y v v':AV}{σ:Heap}(h:[x,y].any A.own=false)(e1:A.bW s [x,y]=[x,y])(e2:A.nn ro v=v')(e:r x y σ=some (v,σ)):A.wrap true s ro (A.dh r) [x,y] σ=some (v',σ):=by refine wrap_eq h ?_ e2;rw[e1];exact e
theorem Mq{x:aT}{n:Int}(hx:1≤x.aH∧x.aH≤999)(hn:1≤n∧n≤999)(σ:Heap):A.tab (λ_ _=>none) [(113,pJ)] 113 [.agg (aN x),.int .i64 n] σ=some (.int .i64 (x.aH-n),σ):=by
 show pJ [.agg (aN x),.int .i64 n] σ=_;refine TR rfl ?_ (jW _) ?_
 ·exact gZ (by
   rw[show A.nn (.a lJ) (.agg (aN x))=.agg (A.bW lJ (aN x)) by simp [A.nn],show A.bW lJ (aN x)=aN x from gZ (jW _) (gZ (jW _) (gZ (tv ..) (uH _)))]) (uH _)
 unfold II;rw[show A.cells 3 (.agg (aN x))=some (aN x)from rfl,bS,show A.aD 0 (aN x)=some (.int .i64 x.aH)from rfl,bS,show A.sub (.int .i64 x.aH) (.int .i64 n)=some (.int .i64 (x.aH-n)) by rw[xp,dL (by unfold bE;omega)],bS,dZ]
theorem RW{r:cK}{M:List (bB×Bool)}(hM:∀k,(iG k M).getD false=mB r k){l:List aA}(hl:l.length≤20000)(W:Heap):
  ∃ i, A.loop ((λdj iA =>
    (A.lss (ah dj 2) (AV.int .i64 (l.length:Int))).bind λck=>
    A.cond ck (
     (A.aJ 3 (sl 3 ay l) (ah dj 2)).bind λfA=>
     ((A.deref fA iA).bind λuY=>A.aB 0 3 uY).bind λeN=>
     (A.cells 3 eN).bind λlT=>
     (A.aV 0 lT [b9,bD,b9]).bind λgA=>
     (A.aB 0 2 gA).bind λfR=>
     (A.look (.s [0,2]) (va (λx=>(AV.agg (bN x))) (λx=>(AV.bool x)) M) fR bF iA).bind λji=>
     (A.not ji).bind λew=>
     A.cond ew (
      some (AX.ret,[AV.aE,(AV.int .i64 8),(ah dj 2)],iA)) (
      (A.aD 2 gA).bind λdQ=>
      (sM [dQ] iA).bind λko=>
      (A.not ko.1).bind λeA=>
      A.cond eA (
       some (AX.ret,[AV.aE,cO,(ah dj 2)],ko.2)) (
       (A.add (ah dj 2) cO).bind λku=>
       some (AX.normal,[(ah dj 0),(ah dj 1),ku],ko.2)))) (
     some (AX.exit 0,[(ah dj 0),(ah dj 1),(ah dj 2)],iA)))) [.aE,.int .i64 0,.int .i64 0] W=some (if lI r l=0 then(.exit 0,[.aE,.int .i64 0,i],W)else(.ret,[.aE,.int .i64 (lI r l),i],W)):=by
 suffices hq:∃q,A.loop ((λdj iA=>
    (A.lss (ah dj 2) (AV.int .i64 (l.length:Int))).bind λck=>
    A.cond ck (
     (A.aJ 3 (sl 3 ay l) (ah dj 2)).bind λfA=>
     ((A.deref fA iA).bind λuY=>A.aB 0 3 uY).bind λeN=>
     (A.cells 3 eN).bind λlT=>
     (A.aV 0 lT [b9,bD,b9]).bind λgA=>
     (A.aB 0 2 gA).bind λfR=>
     (A.look (.s [0,2]) (va (λx=>(AV.agg (bN x))) (λx=>(AV.bool x)) M) fR bF iA).bind λji=>
     (A.not ji).bind λew=>
     A.cond ew (
      some (AX.ret,[AV.aE,(AV.int .i64 8),(ah dj 2)],iA)) (
      (A.aD 2 gA).bind λdQ=>
      (sM [dQ] iA).bind λko=>
      (A.not ko.1).bind λeA=>
      A.cond eA (
       some (AX.ret,[AV.aE,cO,(ah dj 2)],ko.2)) (
       (A.add (ah dj 2) cO).bind λku=>
       some (AX.normal,[(ah dj 0),(ah dj 1),ku],ko.2)))) (
     some (AX.exit 0,[(ah dj 0),(ah dj 1),(ah dj 2)],iA)))) [.aE,.int .i64 0,.int .i64 0] W=some q∧∃i,q=(if lI r l=0 then(.exit 0,[.aE,.int .i64 0,i],W)else(.ret,[.aE,.int .i64 (lI r l),i],W)) by
  obtain⟨q,e,i,rfl⟩:=hq;exact⟨i,e⟩
 refine jq (λz u w=>∃i:Nat,i≤l.length∧z=l.length-i∧u=[.aE,.int .i64 0,.int .i64 (i:Int)]∧lI r (l.drop i)=lI r l∧w=W) ?_ (n:=l.length) ⟨0,kQ _,rfl,rfl,rfl,rfl⟩;rintro z u w ⟨i,hi,rfl,rfl,hT,rfl⟩;simp only[cz,dB];rw[fE,bS];by_cases hlt:i<l.length
 ·have hd:l.drop i=l[i]::l.drop (i+1):=List.drop_eq_getElem_cons hlt;have hx:l[i]? =some l[i]:=bQ hlt;generalize l[i]=x at hd hx;rw[hd,lI]at hT;rw[cj hlt,cG,gW 3 ay l hx,bS,show((A.deref (.rp (ay x)) w).bind λdD=>A.aB 0 3 dD)=some (.agg (ay x))from rfl,bS,nH,bS,show A.aV 0 (ay x) [b9,bD,b9]=some (ay x)from rfl,bS,IP,bS,KJ (ek:=(.s [0,2])) (eK:=(λx=>(AV.agg (bN x)))) (eV:=(λx=>(AV.bool x))) yU x.key false rfl,bS,hM];cases hh:mB r x.key
  ·rw[hh,aM rfl]at hT;rw[GY,bS,cG];refine .inr ⟨_,rfl,by simp,.int .i64 (i:Int),?_⟩;rw[←hT,aK (by decide)]
  ·rw[hh,aK (by decide)]at hT;rw[CY,bS,bU,IW,bS,En,bS];simp only;cases hw:cm x.level 0 65535
   ·rw[hw,aM rfl]at hT;rw[GY,bS,cG];refine .inr ⟨_,rfl,by simp,.int .i64 (i:Int),?_⟩;rw[←hT,aK (by decide)]
   ·rw[hw,aK (by decide)]at hT;rw[CY,bS,bU,jx (by omega),bS];exact .inl ⟨l.length-(i+1),_,_,by omega,rfl,i+1,hlt,rfl,rfl,hT,rfl⟩
 ·rw[bZ hlt,bU];rw[show l.drop i=[]from List.drop_of_length_le (by omega),lI]at hT;refine .inr ⟨_,rfl,by simp,.int .i64 (i:Int),?_⟩;rw[←hT,aM rfl]
theorem UA{r:cK}(hr:oI r)(h0:fY r=0):∃M,sO r=some M∧∀k,(iG k M).getD false=mB r k:=by refine⟨(mj r).foldl (λs x=>lP x true s) [],?_,λk=>by rw[E6,KN h0];simp [iG]⟩;unfold sO;have:=KP h0;simp only[ze hr,aC,h0,if_true];rw[J2 (λs x=>lP x true s) (λ_ _=>True) (by unfold bV;omega) trivial (λ_ _ _ _ _=>trivial) (λ_ _ _ _ _=>rfl)];rfl
theorem UU{n:Int}(hn:1≤n∧n≤999){ps:List aT}(hl:ps.length≤200)(hps:∀p∈ps,1≤p.aH∧p.aH≤999)(hs:ps.Pairwise λa b=>a.aH<b.aH) {σ W:Heap} {v:AV} (K:Hs eH σ W (Sl (fl aN) 3 v ps*emp)):
  ∃(is:Bool)(pre post:List aT)(id g:Nat)(w:Heap)(T0:ByteArray)(S0:AV),
   vN (A.tab (λ_ _=>none) [(113,pJ)]) [v,.int .i64 n,(AV.fn 113 [])] W=some (.aG [.int .i64 (pre.length:Int),.bool is],W)∧
   is=(iT ps n).2∧(is=true→T0=(iT ps n).1.title∧S0=sl 3 ay (iT ps n).1.bY)∧
   (∀K:an×Heap→au,((A.not (.bool is)).bind λnG=>
    (A.cond nG (
     ((((A.cell (.int .i64 n)).bind λv=>some [v]).bind λzP=>(A.aV 0 zP [b9,bD,AV.aE]).bind λu9=>some u9).bind λcs=>some (AV.agg cs)).bind λvE=>
     (((A.cells 3 vE).bind λzR=>(A.aV 0 zR [b9,bD,AV.aE]).bind λzS=>some zS).bind λcs=>some (AV.sl 3 (e8 3 1 cs))).bind λvG=>
     (vT [v,(.int .i64 (pre.length:Int)),vG] W).bind λAy=>
     some ([Ay.1],Ay.2)) (
     some ([v],W))).bind K)=K ([.os id g 3 0 (pre.length+1+post.length)],w))∧
   Hs eH σ w (blk id (.arr g 3 (pre.map aN++[.int .i64 n,.str T0,S0]::post.map aN))*emp)∧
   (∀t s,jr ⟨n,t,s⟩ ps false=pre++⟨n,t,s⟩::post):=by
 obtain⟨pre,post,a1,a2,a3⟩:=Fm (n:=n) hs
 obtain⟨rest,CC,hge⟩:∃rest,ps=pre++rest∧∀x∈rest,n≤x.aH:=by
  rcases a3 with⟨old,rfl,ho⟩|rfl
  ·refine⟨_,rfl,λx hx=>?_⟩;rcases dc.1 hx with rfl|hx
   ·omega
   ·have:=a2 x hx;omega
  ·exact⟨_,rfl,λx hx=>by have:=a2 x hx;omega⟩
 have nu:=Na (dyn:=A.tab (λ_ _=>none) [(113,pJ)]) (l:=ps) (fn:=113) (k:=n) (cv:=λx=>x.aH-n) (p:=pre.length) (σ:=W) (by omega) (by rw[CC];simp) (λx hx=>Mq (hps x hx) hn _) (λh x hx=>by
  rw[CC]at hx;by_cases hlt:h<pre.length
  ·rw[eG hlt]at hx;have:=a1 x (cx hx);exact⟨λ_=>hlt,λ_=>by omega⟩
  ·rw[eC (by omega)]at hx;have:=hge x (cx hx)
   exact⟨λq=>by omega,λq=>absurd q hlt⟩)
 have Ng:∀{b:Bool},(ps[pre.length]?).any (λx=>decide (x.aH-n=0))=b→vN (A.tab (λ_ _=>none) [(113,pJ)]) [v,.int .i64 n,(AV.fn 113 [])] W=some (.aG [.int .i64 (pre.length:Int),.bool b],W):=by
  rintro b rfl;refine zA (cP:=[.s 3]) (ts:=[sl 3 aN ps,.int .i64 n,.fn 113 []]) ⟨VF Bv K,VE n,CE (by intro σ a b;simp [A.br,A.cX]) rfl,trivial⟩ (λσ'=>?_) rfl
  exact Na (dyn:=A.tab (λ_ _=>none) [(113,pJ)]) (l:=ps) (fn:=113) (k:=n) (cv:=λx=>x.aH-n) (p:=pre.length) (σ:=σ') (by omega) (by rw[CC];simp) (λx hx=>Mq (hps x hx) hn _) (λh x hx=>by
   rw[CC]at hx;by_cases hlt:h<pre.length
   ·rw[eG hlt]at hx;have:=a1 x (cx hx);exact⟨λ_=>hlt,λ_=>by omega⟩
   ·rw[eC (by omega)]at hx;have:=hge x (cx hx)
    exact⟨λq=>by omega,λq=>absurd q hlt⟩)
 clear nu;rcases a3 with⟨old,rfl,ho⟩|rfl
 ·subst ho;rcases oC K with⟨h,_,_⟩|⟨id,g,rfl,K2⟩
  ·simp at h
  refine⟨true,pre,post,id,g,W,old.title,sl 3 ay old.bY,Ng (by simp),?_,?_,?_,?_,λt s=>by rw[yA (p:=⟨old.aH,t,s⟩) a1,JG (p:=⟨old.aH,t,s⟩) (old:=old) rfl a2]⟩
  ·rw[Jm rfl a1]
  ·intro _;rw[Jm rfl a1];exact⟨rfl,rfl⟩
  ·intro K;rw[CY,bS,bU,bS,List.length_append,List.length_cons,jA,Nat.add_comm 1]
  ·rw[List.map_append,eT]at K2;exact K2
 ·have hno:∀x∈pre++post,¬x.aH=n:=by
   intro x hx;rcases dg.1 hx with hx|hx
   ·have:=a1 x hx;omega
   ·have:=a2 x hx;omega
  obtain⟨c,hc⟩:∃c:aT→an,c=λx=>if x.aH=n then[.int .i64 n,.str ⟨#[]⟩,.aE]else aN x:=⟨_,rfl⟩
  have Hz:∀l:List aT,(∀x∈l,¬x.aH=n)→l.map c=l.map aN:=λl h=>List.map_congr_left λx hx=>by rw[hc];exact aK (h x hx)
  have Od:c ⟨n,⟨#[]⟩,[]⟩=[.int .i64 n,.str ⟨#[]⟩,.aE]:=by rw[hc];exact aM rfl
  have K2:Hs eH σ W (Sl (fl c) 3 v (pre++post)*emp):=by
   rcases oC K with⟨h,hv,K⟩|⟨id,g,rfl,K2⟩
   ·rw[h];exact uf K hv
   ·exact Mu (by rw[Hz _ hno];exact K2)
  obtain⟨v',w,e,H2⟩:=Ms (most:=140737488355328 / 48) (zs:=[b9,bD,AV.aE]) (qD:=xY) (B:=eH) (E:=fl c) (y:=⟨n,⟨#[]⟩,[]⟩) (ye:=[.int .i64 n,.str ⟨#[]⟩,.aE]) (i:=pre.length)
   (iW (show pr ([.int .i64 n,.str ⟨#[]⟩,.aE]=c ⟨n,⟨#[]⟩,[]⟩)*(Sl (fl c) 3 v (pre++post)*emp)=_ by rw[show fl c [.int .i64 n,.str ⟨#[]⟩,.aE] ⟨n,⟨#[]⟩,[]⟩=pr ([.int .i64 n,.str ⟨#[]⟩,.aE]=c ⟨n,⟨#[]⟩,[]⟩)from rfl];ac_rfl) (qY.2 ⟨Od.symm,K2⟩)) (by simp) (by omega) (by omega) (λ_ _ _ _ _=>trivial)
  have e2:vT [v,.int .i64 (pre.length:Int),.sl 3 [[.int .i64 n,.str ⟨#[]⟩,.aE]]] W=some (v',w):=by unfold vT A.wrap;rw[Bool.false_and,aQ,show A.bW [] [v,.int .i64 (pre.length:Int),.sl 3 [[.int .i64 n,.str ⟨#[]⟩,.aE]]]=[v,.int .i64 (pre.length:Int),.sl 3 [[.int .i64 n,.str ⟨#[]⟩,.aE]]] by simp [A.bW]];show(Ba v (.int .i64 (pre.length:Int)) (.sl 3 [[.int .i64 n,.str ⟨#[]⟩,.aE]]) W).map _=_;rw[show Ba v (.int .i64 (pre.length:Int)) (.sl 3 [[.int .i64 n,.str ⟨#[]⟩,.aE]]) W=some (v',w)from e];simp [jW]
  rw[List.take_left' rfl,List.drop_left' rfl]at H2;rcases oC H2 with⟨h,_,_⟩|⟨id,g,rfl,K3⟩
  ·simp at h
  refine⟨false,pre,post,id,g,w,⟨#[]⟩,.aE,Ng ?_,?_,(λh=>by cases h),?_,?_,λt s=>by rw[yA (p:=⟨n,t,s⟩) a1,Jn (p:=⟨n,t,s⟩) a2]⟩
  ·rw[eC (bH _),Nat.sub_self];cases post with
   |nil=>rfl
   |cons x t=>have:=a2 x (by simp);simp;omega
  ·rw[Ru hno]
  ·intro K;rw[GY,bS,cG,show((((A.cell (.int .i64 n)).bind λv=>some [v]).bind λzP=>(A.aV 0 zP [b9,bD,AV.aE]).bind λu9=>some u9).bind λcs=>some (AV.agg cs))=some (.agg [.int .i64 n,.str ⟨#[]⟩,.aE])from rfl,bS,show(((A.cells 3 (.agg [.int .i64 n,.str ⟨#[]⟩,.aE])).bind λzR=>(A.aV 0 zR [b9,bD,AV.aE]).bind λzS=>some zS).bind λcs=>some (AV.sl 3 (e8 3 1 cs)))=some (.sl 3 [[.int .i64 n,.str ⟨#[]⟩,.aE]])from rfl,bS,e2,bS,bS];rw[show(pre++[(⟨n,⟨#[]⟩,[]⟩:aT)]++post).length=pre.length+1+post.length by simp;omega]
  ·rw[List.map_append,List.map_append,eT,List.map_nil,Od,Hz pre (λx hx=>hno x (by simp [hx])),Hz post (λx hx=>hno x (by simp [hx])),gl]at K3;exact K3
end
section
set_option maxRecDepth 100000
open HP
theorem Vr{a b c d:Int}:(([a,b,c,d]:List Int).find? λn=>decide (¬n=0)).getD 0=if ¬(a=0)then a else if ¬(b=0)then b else if ¬(c=0)then c else d:=by by_cases h1:a=0<;>by_cases h2:b=0<;>by_cases h3:c=0<;>by_cases h4:d=0<;>simp [List.find?_cons,h1,h2,h3,h4]
theorem Gp{id g p:Nat}{w:Heap}{A1 A2:List an}{x:an}(hg:w[id]? =some (.arr g 3 (A1++x::A2)))(hp:A1.length=p)(o:Nat):A.deref (.oe id g p o) w=some (x.drop o):=by subst hp;simp only[A.deref,hg,if_true];rw[eC (bH _),Nat.sub_self,List.getElem?_cons_zero];rfl
theorem MY{id g p o:Nat}{w:Heap}{A1 A2:List an}{x y new:an}(hg:w[id]? =some (.arr g 3 (A1++x::A2)))(hp:A1.length=p)(h:A.aV o new x=some y):A.storeAt (.oe id g p o) new w=some (w.set id (.arr g 3 (A1++y::A2))):=by subst hp;simp only[A.storeAt,hg,if_true];rw[eC (bH _),Nat.sub_self,List.getElem?_cons_zero,aC,h,dN,nZ _ _ (bH _),Nat.sub_self,List.set_cons_zero]
theorem Sp{r:cK}(hr:oI r){ps:List aT}(hp:dI qL ps)(n:Int){t:ByteArray}(ht:eD t)(l:List aA)(m:Bool)(σ:Heap):
  Bi [.agg (dM r),sl 3 aN ps,.int .i64 n,.str t,sl 3 ay l,.bool m] σ=some (.aG [sl 3 aN (lO r ps n t l m).1,.int .i64 (lO r ps n t l m).2],σ):=by
 have YC:A.bW [oM,(.s 3),.k,.k,(.s 3)] [.agg (dM r),sl 3 aN ps,.int .i64 n,.str t,sl 3 ay l,.bool m]=[.agg (dM r),sl 3 aN ps,.int .i64 n,.str t,sl 3 ay l,.bool m]:=gZ (LA r) (gZ (tv ..) (gZ (jW _) (gZ (jW _) (gZ (tv ..) (uH _)))))
 suffices hq:∃v,Bj (.agg (dM r)) (sl 3 aN ps) (.int .i64 n) (.str t) (sl 3 ay l) (.bool m) σ=some (.aG [v,.int .i64 (lO r ps n t l m).2],σ)∧A.nn (.e 3 lJ) v=sl 3 aN (lO r ps n t l m).1 by obtain⟨v,h1,h2⟩:=hq;refine LX rfl YC ?_ h1;rw[Wk];exact congrArg AV.aG (gZ h2 (gZ (jW _) (uH _)))
 have qm:A.nn (.e 3 lJ) .aE=sl 3 aN []:=FH _ _;obtain⟨F,hF⟩:∃F,F=lO r ps n t l m:=⟨_,rfl⟩
 rw[←hF];unfold lO at hF;unfold Bj;rw[nP,bS,nQ,bS,IE (IS r ps hr hp),bS];simp only;rw[nN,bS];simp only;rw[show A.not (.bool (cm n 1 999))=some (.bool (!cm n 1 999))from rfl,bS,B5,bS];simp only;rw[KA t ht,bS];simp only;rw[show A.not (.bool (oG t))=some (.bool (!oG t))from rfl,bS,B5,bS];simp only;rw[gX,bS,xm,bS,B5,bS];simp only;have hrow:∀a b c d:Int,((((A.cell (.int .i64 a)).bind λv=>some [v]).bind λrO=>(A.aV 0 rO [b9,b9,b9,b9]).bind λiq=>((A.cell (.int .i64 b)).bind λv=>some [v]).bind λgz=>(A.aV 1 gz iq).bind λuW=>((A.cell (.int .i64 c)).bind λv=>some [v]).bind λjZ=>(A.aV 2 jZ uW).bind λgm=>((A.cell (.int .i64 d)).bind λv=>some [v]).bind λoX=>(A.aV 3 oX gm).bind λdD=>some dD).bind λcs=>some (AV.sl 1 (e8 1 4 cs)))=some (sl 1 xq [a,b,c,d]):=λ_ _ _ _=>rfl
 rw[hrow,bS,Kv _ (by show 4≤bV;unfold bV;omega),bS,Vr];simp only;rw[zo,bS];by_cases h0:iD r ps=0
 case neg=>
  rw[aM h0]at hF;subst hF;rw[aM h0,cj h0,cG,dZ];exact⟨_,rfl,qm⟩
 rw[aK (λh=>h h0)]at hF;rw[aK (λh=>h h0)];cases h1:cm n 1 999
 ·rw[h1,aM rfl]at hF;subst hF;rw[show(!false)=true from rfl,aM rfl,aM (show ¬((1:Int)=0) by decide),cj (show ¬((1:Int)=0) by decide),cG,dZ];exact⟨_,rfl,qm⟩
 rw[h1,aK (by decide)]at hF;rw[show(!true)=false from rfl,aK (show ¬(false=true) by decide),aK (show ¬¬((0:Int)=0) by decide)];cases h2:oG t
 ·rw[h2,aM rfl]at hF;subst hF;rw[show(!false)=true from rfl,aM rfl,aM (show ¬((3:Int)=0) by decide),cj (show ¬((3:Int)=0) by decide),cG,dZ];exact⟨_,rfl,qm⟩
 rw[h2,aK (by decide)]at hF;rw[show(!true)=false from rfl,aK (show ¬(false=true) by decide),aK (show ¬¬((0:Int)=0) by decide)];by_cases h3:20000<(l.length:Int)
 ·rw[aM h3]at hF;subst hF;rw[cj h3,aM rfl,cj (show ¬((2:Int)=0) by decide),cG,dZ];exact⟨_,rfl,qm⟩
 rw[aK h3]at hF;rw[bZ h3,aK (show ¬(false=true) by decide),bZ (show ¬¬((0:Int)=0) by decide),bU];obtain⟨M,Yb,Yc⟩:=UA hr (I5 h0);rw[bS,Jh Yb,bS,bS];simp only;obtain⟨i,Aj⟩:=RW Yc (l:=l) (by omega) σ;refine Cz (jF Aj _) ?_;rw[bS];by_cases h4:lI r l=0
 case neg=>
  rw[aM h4]at hF;subst hF;rw[aK h4];simp only[Wn,Wo,cz,dB];rw[dZ];exact⟨_,rfl,qm⟩
 rw[aK (λh=>h h4)]at hF;rw[aM h4];simp only[gn,cz,dB];obtain⟨b1,b2⟩:=F3 h0;have hn:1≤n∧n≤999:=by simpa [cm]using h1
 rw[gX,bS];obtain⟨v,w,i,e1,K⟩:=Ti (l:=ps) (by omega) (λx hx=>by have:=b2 x hx;omega) (Co σ);refine Cz (jF e1 _) ?_;rw[bS];simp only[gn,cz,dB];obtain⟨is,pre,post,id,g,w2,T0,S0,f1,f2,f3,f4,f5,f6⟩:=UU hn b1 (UP h0) (FJ h0) K;rw[f1,bS];simp only;rw[GC,bS,ext1,bS];refine Cz (f4 _) ?_;simp only[cz,dB];rw[show A.aJ 3 (.os id g 3 0 (pre.length+1+post.length)) (.int .i64 (pre.length:Int))=some (.oe id g pre.length 0) by simp [A.aJ,A.idx,show((pre.length:Int)<((pre.length:Int)+1+(post.length:Int))) by omega],bS];obtain⟨_,g2⟩:=nR f5;have hfa:∀o,A.cW o (.oe id g pre.length 0)=some (.oe id g pre.length o):=λo=>by simp [A.cW]
 have hnc:A.jy (.oe id g pre.length 0)=some (.oe id g pre.length 0):=rfl;have hpl:(pre.map aN).length=pre.length:=by simp
 obtain⟨L,T,hP,qw,hmid⟩:∃L T,rF ps n t l m=⟨n,T,fF L⟩∧L.length≤22000∧∀K:an×Heap→au,((A.guard (.bool m) true (some (.bool is)) aq).bind λIp=>
    (A.pick (.bool m) Ip bF).bind λAK=>
    (A.cond AK (
     (A.jy (.oe id g pre.length 0)).bind λIq=>
     (A.cW 2 Iq).bind λIr=>
     ((A.deref Ir w2).bind λrS=>A.aD 0 rS).bind λIs=>
     ((((A.cell Is).bind λv=>some [v]).bind λHi=>(A.aV 0 Hi [AV.aE,AV.aE]).bind λHj=>((A.cell (sl 3 ay l)).bind λv=>some [v]).bind λHl=>(A.aV 1 Hl Hj).bind λHo=>some Ho).bind λcs=>some (AV.sl 1 (e8 1 2 cs))).bind λvI=>
     (vS [vI] w2).bind λsD=>
     (A.eql .z (.str t) bD).bind λIt=>
     (A.cond It (
      (A.jy (.oe id g pre.length 0)).bind λAN=>
      (A.cW 1 AN).bind λIu=>
      ((A.deref Iu sD.2).bind λHq=>A.aD 0 Hq).bind λIv=>
      some ([Iv],sD.2)) (
      some ([(.str t)],sD.2))).bind λAz=>
     some ([(ah Az.1 0),sD.1],Az.2)) (
     some ([(.str t),(sl 3 ay l)],w2))).bind K)=K ([.str T,sl 3 ay L],w2):=by
  unfold rF;cases m
  ·refine⟨l,t,by rw[Bool.and_false];rfl,by omega,λK=>?_⟩;rw[o8,bS,sw,bS,bU,bS]
  rw[Bool.and_true,←f2];cases is
  ·refine⟨l,t,rfl,by omega,λK=>?_⟩;rw[gT,bS,qA,bS,bU,bS]
  obtain⟨rfl,rfl⟩:=f3 rfl;have hol:=b2 _ (I4 f2.symm).1;refine⟨(iT ps n).1.bY++l,if t=⟨#[]⟩then(iT ps n).1.title else t,rfl,by rw[List.length_append];omega,λK=>?_⟩
  rw[gT,bS,qA,bS,cG,hnc,bS,hfa,bS,show((A.deref (.oe id g pre.length 2) w2).bind λrS=>A.aD 0 rS)=some (sl 3 ay (iT ps n).1.bY) by rw[Gp g2 hpl];rfl,bS,UX,bS,WI (by omega),bS,show A.eql .z (.str t) (.str ⟨#[]⟩)=some (.bool (decide (t=⟨#[]⟩)))from CM _ _,bS];simp only;by_cases ht:t=⟨#[]⟩
  ·rw[cj ht,cG,aM ht,bS,hfa,bS,show((A.deref (.oe id g pre.length 1) w2).bind λrS=>A.aD 0 rS)=some (.str (iT ps n).1.title) by rw[Gp g2 hpl];rfl,bS,bS,bS];rfl
  ·rw[bZ ht,bU,aK ht,bS,bS];rfl
 refine Cz (hmid _) ?_;simp only[cz,dB];rw[VX (by omega),bS];simp only;obtain⟨R,hR⟩:∃R,R=fF L:=⟨_,rfl⟩
 have w1:=MY (o:=1) (new:=[.str T]) (y:=[.int .i64 n,.str T,S0]) g2 hpl rfl;have hid:id<w2.length:=(bK.1 g2).1;have g3:(w2.set id (.arr g 3 (pre.map aN++[.int .i64 n,.str T,S0]::post.map aN)))[id]? =some (.arr g 3 (pre.map aN++[.int .i64 n,.str T,S0]::post.map aN)):=jR hid;have w3:=MY (o:=2) (new:=[sl 3 ay (fF L)]) (y:=aN ⟨n,T,fF L⟩) g3 hpl rfl;rw[List.set_set]at w3;have K5:=zb (b':=.arr g 3 ((pre++⟨n,T,fF L⟩::post).map aN)) f5 trivial;rw[List.map_append,eT]at K5;have g4:(w2.set id (.arr g 3 (pre.map aN++aN ⟨n,T,fF L⟩::post.map aN)))[id]? =some (.arr g 3 (pre.map aN++aN ⟨n,T,fF L⟩::post.map aN)):=jR hid;rw[hnc,bS,hfa,bS,show((A.cell (.str T)).bind λv=>some [v])=some [.str T]from rfl,bS,w1,bS,bS,hfa,bS,show((A.cell (sl 3 ay (fF L))).bind λv=>some [v])=some [sl 3 ay (fF L)]from rfl,bS,w3,bS,bS,hfa,bS,show((A.deref (.oe id g pre.length 2) (w2.set id (.arr g 3 (pre.map aN++aN ⟨n,T,fF L⟩::post.map aN)))).bind λrS=>A.aD 0 rS)=some (sl 3 ay (fF L)) by rw[Gp g4 hpl];rfl,bS,gX,bS,xm,bS];rw[hP,f6]at hF;refine UT (p:=⟨n,T,fF L⟩) (out:=pre++⟨n,T,fF L⟩::post) ?_ hF;have K6:Hs eH σ _ (Sl (fl aN) 3 (.os id g 3 0 (pre.length+1+post.length)) (pre++⟨n,T,fF L⟩::post)*emp):=Mu (by rw[List.map_append,eT];exact K5) (by simp;omega);exact K6
end
section
set_option maxRecDepth 100000
noncomputable def sL (a0:(List aA)) (a1:(List aA)):Option Bool:=
 if ¬((a0.length:Int)=(a1.length:Int))then
  some false
 else
 kS a0 (λ(i8:Nat)e7(s1:Unit)=>(show Option (Lr Unit Unit Unit)from
   (pH a1 (i8:Int)).bind λx9=>
   if ¬(e7=x9)then
    some (.ret ())
   else
   some (.go ()))) (λs1=>some ()) () (λb2=>
  some true) (λb2=>
  some false)
theorem PU{a0:(List aA)}{a1:(List aA)}{σ:Heap}{r:Bool}(h:sL a0 a1=some r):DM [(sl 3 ay a0),(sl 3 ay a1)] σ=some ((AV.bool r),σ):=by
 refine qN (f:=DN) (y0:=(sl 3 ay a0)) (y1:=(sl 3 ay a1)) (enc:=λr:Bool=>(AV.bool r)) (T:=sL a0 a1) rfl rfl ?_ r h;unfold DN sL;refine aI _ (gX _ _ _)<|aI _ (gX _ _ _)<|aI _ (nj _ _ _) ?_;refine qp (p:=¬((a0.length:Int)=(a1.length:Int))) (λjd=>?_) (λjd=>?_)
 ·exact gL _ (dZ _ _) ⟨rfl,rfl⟩
 refine aI _ (gX _ _ _) ?_;refine wY (B:=Unit) (R:=Unit) (λ(i8:Nat)(s1:Unit)v w3=>v=[bF,(AV.aj (i8:Int))]∧σ=w3) (λ(b2:Unit)(q:LS)=>∃u4 AD,q=((AX.exit 0),([u4,AD]:an),σ)) (λ(b2:Unit)(q:LS)=>∃AD,q=(AX.ret,([bF,AD]:an),σ)) ?_ ?_ ⟨rfl,rfl⟩ ?_ ?_
 ·intro GN i8 e7 s1 v w3 vg hI;obtain⟨rfl,rfl⟩:=hI;refine aI _ (qZ vg)<|xg<|aI _ (qR vg)<|aI _ rfl ?_;refine tP (λx9:aA=>(AV.rp (ay x9))) (λx9 Ou=>Gl Ou) (λx9 Ou=>?_);refine aI _ rfl<|aI _ (R4 _ _) ?_;refine qp (p:=¬(e7=x9)) (λoW=>?_) (λoW=>?_)
  ·exact gj (oF (by simp) ⟨_,rfl⟩)
  refine aI _ (qS vg GN) ?_;exact gj (wZ ⟨rfl,rfl⟩)
 ·intro hl s1 v w3 hI;obtain⟨rfl,rfl⟩:=hI;refine aI _ (qQ _)<|xe ?_;exact gj ⟨by simp,⟨_,_,rfl⟩⟩
 ·intro hl b2 q hq;obtain⟨u4,AD,rfl⟩:=hq;refine oJ rfl ?_;exact gL _ (dZ _ _) ⟨rfl,rfl⟩
 ·intro hl b2 q hq;obtain⟨AD,rfl⟩:=hq;refine zj rfl<|oJ rfl ?_;exact gL _ (dZ _ _) ⟨rfl,rfl⟩
noncomputable def pK (a0:aT) (a1:aT):Option Bool:=
 (if((decide (a0.aH=a1.aH))&&(decide (a0.title=a1.title)))=true then sL a0.bY a1.bY else some default).bind λr1=>
 some (((decide (a0.aH=a1.aH))&&(decide (a0.title=a1.title)))&&r1)
theorem Qg{a0:aT}{a1:aT}{σ:Heap}{r:Bool}(h:pK a0 a1=some r):DZ [(AV.agg (aN a0)),(AV.agg (aN a1))] σ=some ((AV.bool r),σ):=by refine qN (f:=D0) (y0:=(AV.agg (aN a0))) (y1:=(AV.agg (aN a1))) (enc:=λr:Bool=>(AV.bool r)) (T:=pK a0 a1) rfl rfl ?_ r h;unfold D0 pK;refine aI _ rfl<|aI _ rfl<|aI _ rfl<|aI _ rfl<|aI _ (qu _ _ _)<|hJ (AV.str a0.title) (λhg=>rfl)<|hJ (AV.str a1.title) (λhg=>rfl)<|hJ (AV.bool (decide (a0.title=a1.title))) (λhg=>by(try rw[hg]);exact(CM _ _))<|aI _ (wW _ _)<|hJ (sl 3 ay a0.bY) (λhg=>rfl)<|hJ (sl 3 ay a1.bY) (λhg=>rfl) ?_;refine Cr (ω:=Bool) (λr1=>(AV.bool r1)) (λhg r1 kn=>by(try rw[hg]);exact(yN (PU kn))) (λr1 kn=>?_);refine aI _ (wW _ _) ?_;exact gL _ (dZ _ _) ⟨rfl,rfl⟩
noncomputable def DF (a0:aA) (a1:aA):Option Bool:=some (decide (a0.key=a1.key))
theorem OS{a0:aA}{a1:aA}{σ:Heap}{r:Bool}(h:DF a0 a1=some r):nJ [(AV.agg (ay a0)),(AV.rp (ay a1))] σ=some ((AV.bool r),σ):=by refine qN (f:=DB) (y0:=(AV.agg (ay a0))) (y1:=(AV.rp (ay a1))) (enc:=λr:Bool=>(AV.bool r)) (T:=DF a0 a1) rfl rfl ?_ r h;unfold DB DF;refine aI _ rfl<|aI _ rfl<|aI _ rfl<|aI _ rfl<|aI _ (Cm _ _) ?_;exact gL _ (dZ _ _) ⟨rfl,rfl⟩
noncomputable def xV (a0:aT) (a1:aT):Option Bool:=(pK a1 a0).bind λr1=>some r1
theorem OT{a0:aT}{a1:aT}{σ:Heap}{r:Bool}(h:xV a0 a1=some r):nK [(AV.agg (aN a0)),(AV.rp (aN a1))] σ=some ((AV.bool r),σ):=by refine qN (f:=DC) (y0:=(AV.agg (aN a0))) (y1:=(AV.rp (aN a1))) (enc:=λr:Bool=>(AV.bool r)) (T:=xV a0 a1) rfl rfl ?_ r h;unfold DC xV;refine aI _ rfl<|aI _ rfl<|aI _ rfl ?_;refine tP (λr1:Bool=>((AV.bool r1),σ)) (λr1 kn=>Qg kn) (λr1 kn=>?_);exact gL _ (dZ _ _) ⟨rfl,rfl⟩
end
section
set_option maxRecDepth 100000
open HP
theorem Uf{α:Type}{l:List α}{body:Nat→α→Unit→Option (Lr Unit Unit Unit)}{K:Unit→Option Bool}(hl:l.length≤bV)(hb:∀i x,l[i]? =some x→body i x ()=some (.go ())):kS l body (λs=>some ()) () (λ_=>some true) K=some true:=by
 rw[J1 (p:=λ_=>false) (r:=λ_=>()) hl (λi x hx=>by rw[hb i x hx];rfl)];have:l.find? (λ_=>false)=none:=by simp
 rw[this]
theorem S8(l:List aA)(hl:l.length≤bV):sL l l=some true:=by
 unfold sL;simp only[not_true_eq_false,if_false];refine Uf hl λi x hx=>?_
 rw[FM (x:=x) (by omega) (by simpa using hx)];simp
theorem Rb(p:aT)(h:p.bY.length≤bV):pK p p=some true:=by unfold pK;simp only[decide_true,Bool.and_self,if_true,S8 _ h,aC]
theorem LO{p:aT}{x:aT}:∀{l:List aT}{b:Bool},x∈jr p l b→x=p∨x∈l
 |[],b,h=>by
  rw[jr]at h;split at h
  ·cases h
  ·exact .inl (by simpa using h)
 |y::l,b,h=>by
  rw[jr]at h;rcases dg.1 h with h|h
  ·split at h
   ·exact .inl (by simpa using h)
   ·cases h
  rcases dg.1 h with h|h
  ·split at h
   ·exact .inr (by simp at h;simp [h])
   ·cases h
  ·rcases LO h with h|h
   ·exact .inl h
   ·exact .inr (by simp [h])
theorem US{r:cK}{ps:List aT}{n:Int}{t:ByteArray}{l:List aA}{m:Bool}:(lO r ps n t l m).1.length≤200∧∀p∈(lO r ps n t l m).1,p.bY.length≤2000:=by
 unfold lO;by_cases h0:iD r ps=0;case neg=>rw[aM h0];exact⟨by simp,by simp⟩
 obtain⟨b1,b2⟩:=F3 h0;rw[aK (λh=>h h0)];split
 ·exact⟨by simp,by simp⟩
 split
 ·exact⟨by simp,by simp⟩
 split
 ·exact⟨by simp,by simp⟩
 split
 ·exact⟨by simp,by simp⟩
 split
 ·exact⟨by simp,by simp⟩
 rename_i h;refine⟨by simp only;omega,λp hp=>?_⟩;rcases LO hp with rfl|hp
 ·omega
 ·exact b2 p hp
end
section
set_option maxRecDepth 100000
open HP
structure MA (r : cK) (p : aT) : Prop where
 num:cm p.aH 1 999=true
 OG:oG p.title=true
 len:p.bY.length≤2000
 set:∀s∈p.bY,mB r s.key=true∧cm s.level 0 65535=true
 oz:p.bY.Pairwise λa b=>fP a.key b.key=true
theorem Ts{r:cK}{ps:List aT}(h:iD r ps=0):∀p∈ps,MA r p:=by
 unfold iD at h;split at h
 ·rename_i h0;exact absurd h h0
 split at h
 ·cases h
 intro p hp;obtain⟨i,hi⟩:=tD.1 hp;have:=(sP ps 0).1 h i p hi;unfold sW at this;split at this
 ·cases this
 rename_i q1;split at this
 ·cases this
 split at this
 ·cases this
 rename_i q3;split at this
 ·cases this
 rename_i q4;have hs:=(sP p.bY 0).1 this
 have hstep:∀j x,p.bY[j]? =some x→mB r x.key=true∧cm x.level 0 65535=true∧(0<j→fP (pv p.bY j).key x.key=true):=by
  intro j x hx;have:=hs j x hx;unfold zl at this;split at this
  ·cases this
  rename_i w1;split at this
  ·cases this
  rename_i w2;split at this
  ·cases this
  rename_i w3;refine⟨by simpa using w1,by simpa using w2,λhj=>?_⟩;rw[Nat.zero_add,cj (by omega:(0:Int)<(j:Int)),Bool.true_and]at w3;simpa using w3
 refine⟨by simpa using q1,by simpa using q3,by omega,λs hs'=>?_,?_⟩
 ·obtain⟨j,hj⟩:=tD.1 hs';exact⟨(hstep j s hj).1,(hstep j s hj).2.1⟩
 ·refine EF (r:=λa b:aA=>fP a.key b.key=true) (λa b c h1 h2=>Kc h1 h2) p.bY λi x hx=>?_
  rw[←LN];exact(hstep (i+1) x hx).2.2 (by omega)
theorem Mp{α:Type}[Inhabited α]{l:List α}{i:Nat}{x:α}(hi:0<i)(hx:l[i]? =some x){r:α→α→Prop}(h:l.Pairwise r):r (pv l i) x:=by
 have hlt:=(bK.1 hx).1
 have h1:pv l i=l[i-1]'(by omega):=by
  unfold pv;rw[aM hi,List.getD_eq_getElem?_getD,bQ (by omega)];rfl
 rw[h1,←(bK.1 hx).2];exact List.pairwise_iff_getElem.1 h _ _ _ _ (by omega)
theorem Rv{r:cK}{ps:List aT}(hr:fY r=0)(hl:ps.length≤200)(hg:∀p∈ps,MA r p)(hs:ps.Pairwise λa b=>a.aH<b.aH):iD r ps=0:=by
 unfold iD;rw[aK (λh=>h hr),aK (by omega),sP];intro i p hi;have g:=hg p (cx hi);unfold sW;rw[g.num,g.OG,aK (by decide),aK,aK (by decide),aK (by have:=g.len;omega),sP]
 ·intro j x hx;obtain⟨a1,a2⟩:=g.set x (cx hx);unfold zl;rw[a1,a2,aK (by decide),aK (by decide),aK];rw[Nat.zero_add];by_cases h:0<j
  ·rw[Mp (r:=λa b:aA=>fP a.key b.key=true) h hx g.oz];simp
  ·rw[bZ (by omega)];simp
 ·rw[Nat.zero_add];by_cases h:0<i
  ·have:=Mp (r:=λa b:aT=>a.aH<b.aH) h hi hs;rw[bZ (by omega:¬p.aH≤(pv ps i).aH)];simp
  ·rw[bZ (by omega)];simp
theorem EJ{r:cK}:∀{l:List aA},lI r l=0→∀s∈l,mB r s.key=true∧cm s.level 0 65535=true
 |[],_,s,hs=>by cases hs
 |x::l,h,s,hs=>by
  rw[lI]at h;split at h
  ·cases h
  rename_i h1;split at h
  ·cases h
  rename_i h2;rcases dc.1 hs with rfl|hs
  ·exact⟨by simpa using h1,by simpa using h2⟩
  ·exact EJ h s hs
theorem fW.sub{l R:List aA}(h:fW l R){s:aA}(hs:s∈R):s∈l:=by have:=(h.mem s).1 hs;exact(List.mem_filter.1 (List.mem_of_getLast? this)).1
theorem fW.find{l R:List aA}(h:fW l R){x:aA}(hx:(fk x.key l).getLast? =some x):R.find? (λs=>decide (s.key=x.key))=some x:=by
 have hm:=(h.mem x).2 hx;cases hf:R.find? λs=>decide (s.key=x.key)with
 |none=>have:=List.find?_eq_none.1 hf x hm;simp at this
 |some y=>
  have hy:=zn hf;have hk:y.key=x.key:=by simpa using List.find?_some hf
  have:=(h.mem y).1 hy;rw[hk,hx]at this;exact this.symm
structure Gc (r : cK) (ps : List aT) (n : Int) (l : List aA) (out : List aT) : Prop where
 lV:iD r out=0
 ok:dI qL out
 last:∀i x,l[i]? =some x→((l.drop (i+1)).any λt=>decide (t.key=x.key))=false→Cc out x.key ⟨0,n⟩=(x.level,0)
 stay:∀p∈ps,¬p.aH=n→p∈out
theorem UW{r:cK}{ps:List aT}{n:Int}{t:ByteArray}{l:List aA}{m:Bool}(hps:dI qL ps)(hn:bE n)(ht:eD t)(hl:dI uw l):
  ((lO r ps n t l m).1=[]∧¬((lO r ps n t l m).2=0))∨((lO r ps n t l m).2=0∧l.length≤20000∧ps.length≤200∧Gc r ps n l (lO r ps n t l m).1):=by
 unfold lO;by_cases h0:iD r ps=0;case neg=>rw[aM h0];exact .inl ⟨rfl,h0⟩
 rw[aK (λh=>h h0)];by_cases h1:cm n 1 999=false
 ·rw[aM h1];exact .inl ⟨rfl,by decide⟩
 rw[aK h1];by_cases h2:oG t=false
 ·rw[aM h2];exact .inl ⟨rfl,by decide⟩
 rw[aK h2];by_cases h3:20000<(l.length:Int)
 ·rw[aM h3];exact .inl ⟨rfl,by decide⟩
 rw[aK h3];by_cases h4:lI r l=0;case neg=>rw[aM h4];exact .inl ⟨rfl,h4⟩
 rw[aK (λh=>h h4)];by_cases h5:2000<((rF ps n t l m).bY.length:Int)∨200<((jr (rF ps n t l m) ps false).length:Int)
 ·rw[aM h5];exact .inl ⟨rfl,by decide⟩
 rw[aK h5];obtain⟨b1,b2⟩:=F3 h0;have hg:=Ts h0;have Ak:cm n 1 999=true:=by simpa using h1
 have hn9:1≤n∧n≤999:=by simpa [cm]using Ak
 obtain⟨T,L,hP,qw,hT,Yg,hL,Ya,V8⟩:∃T L,rF ps n t l m=⟨n,T,fF L⟩∧L.length≤22000∧oG T=true∧eD T∧(∀s∈L,mB r s.key=true∧cm s.level 0 65535=true)∧(∀s∈L,uw s)∧∃o,L=o++l:=by
  unfold rF;by_cases hc:((iT ps n).2&&m)=true
  ·rw[aM hc];rw[dP]at hc;obtain⟨hm,_⟩:=I4 hc.1;have g:=hg _ hm;obtain⟨_,o2,o3⟩:=hps.2 _ hm;refine⟨_,_,rfl,by have:=g.len;rw[List.length_append];omega,?_,?_,λs hs=>?_,λs hs=>?_,_,rfl⟩
   ·split
    ·exact g.OG
    ·simpa using h2
   ·split
    ·exact o2
    ·exact ht
   ·rcases dg.1 hs with hs|hs
    ·exact g.set s hs
    ·exact EJ h4 s hs
   ·rcases dg.1 hs with hs|hs
    ·exact o3.2 s hs
    ·exact hl.2 s hs
  ·rw[aK hc];exact⟨t,l,rfl,by omega,by simpa using h2,ht,λs hs=>EJ h4 s hs,hl.2,[],rfl⟩
 rw[hP]at h5 ⊢;simp only[not_or]at h5;obtain⟨pre,post,a1,a2,a3⟩:=Fm (n:=n) (FJ h0)
 have hout:jr ⟨n,T,fF L⟩ ps false=pre++⟨n,T,fF L⟩::post:=by
  rcases a3 with⟨old,rfl,ho⟩|rfl
  ·rw[yA (p:=⟨n,T,fF L⟩) a1,JG (p:=⟨n,T,fF L⟩) ho a2]
  ·rw[yA (p:=⟨n,T,fF L⟩) a1,Jn (p:=⟨n,T,fF L⟩) a2]
 have hsub:∀p,p∈pre∨p∈post→p∈ps:=by rcases a3 with⟨old,rfl,ho⟩|rfl<;>intro p hp<;>rcases hp with hp|hp<;>simp [hp]
 have CV:(pre++post).Pairwise λa b=>a.aH<b.aH:=by
  have:=FJ h0;rcases a3 with⟨old,rfl,ho⟩|rfl
  ·exact this.sublist (List.Sublist.append_left (List.sublist_cons_self _ _) _)
  ·exact this
 rw[hout]at h5 ⊢;have Dj:=Ks (l:=L) (by omega);refine .inr ⟨rfl,by omega,b1,?_,⟨by simp only;unfold bV;omega,λp hp=>?_⟩,λi x hx hno=>?_,λp hp hne=>?_⟩
 ·refine Rv (I5 h0) (by simp only;omega) (λp hp=>?_) ?_
  ·rcases dg.1 hp with hp|hp
   ·exact hg p (hsub p (.inl hp))
   rcases dc.1 hp with rfl|hp
   ·refine⟨Ak,hT,by simp only;omega,λs hs=>hL s (Dj.sub hs),?_⟩;exact Dj.oz.imp λh=>h
   ·exact hg p (hsub p (.inr hp))
  ·show List.Pairwise _ (pre++_::post);rw[List.pairwise_append]at CV ⊢;refine⟨CV.1,List.pairwise_cons.2 ⟨λy hy=>a2 y hy,CV.2.1⟩,λa ha b hb=>?_⟩;rcases dc.1 hb with rfl|hb
   ·exact a1 a ha
   ·exact CV.2.2 a ha b hb
 ·rcases dg.1 hp with hp|hp
  ·exact hps.2 p (hsub p (.inl hp))
  rcases dc.1 hp with rfl|hp
  ·exact⟨hn,Yg,by simp only;unfold bV;omega,λs hs=>Ya s (Dj.sub hs)⟩
  ·exact hps.2 p (hsub p (.inr hp))
 ·have hf:(pre++(⟨n,T,fF L⟩:aT)::post).find? (λp=>decide (p.aH=n))=some ⟨n,T,fF L⟩:=by rw[List.find?_append,List.find?_eq_none.2 (λy hy=>by have:=a1 y hy;simp;omega),Option.none_or,List.find?_cons,cj rfl]
  have hx2:(fk x.key L).getLast? =some x:=by
   obtain⟨o,rfl⟩:=V8
   have hsp:l=l.take i++x::l.drop (i+1):=by have hlt:=(bK.1 hx).1;rw[←(bK.1 hx).2,←List.drop_eq_getElem_cons hlt,List.take_append_drop]
   have qm:(l.drop (i+1)).filter (λs=>decide (s.key=x.key))=[]:=by rw[List.filter_eq_nil_iff];intro y hy;have:=List.any_eq_false.1 hno y hy;simpa using this
   rw[hsp];show((o++(l.take i++x::l.drop (i+1))).filter _).getLast? =_;rw[List.filter_append,List.filter_append,List.filter_cons,cj rfl,aM rfl,qm];simp
  unfold Cc;simp only[hf,Dj.find hx2];rw[aK (by simp),aK (by simp [cm]),aK (by omega)]
 ·rcases a3 with⟨old,rfl,ho⟩|rfl
  ·rcases dg.1 hp with hp|hp
   ·simp [hp]
   rcases dc.1 hp with rfl|hp
   ·exact absurd ho hne
   ·simp [hp]
  ·rcases dg.1 hp with hp|hp<;>simp [hp]
theorem Vs{σ:Heap}{id:Nat}{cs:an}(h:σ[id]? =some (.box cs))(hc:iJ cs)(d:Nat):A.br σ 0 (d+1) (.op id 0)=some (.rp cs):=by simp only[A.br,h,Nat.not_lt_zero,if_false,List.drop_zero,Cb,hc σ 0 d,dN]
theorem MW{σ:Heap}{id:Nat}{cs:an}(h:σ[id]? =some (.box cs))(hc:iJ cs):Lt σ .k (.op id 0) (.rp cs):=
 ⟨⟨.rp cs,Vs h hc 7,rfl,rfl⟩,rfl,λh=>by cases h⟩
theorem L4{s:Heap}{z c c':an}(h:A.aV 0 c z=some c'):A.storeAt (.op s.length 0) c (s++[.box z])=some (s++[.box c']):=by simp [A.storeAt,h]
theorem L3(s:Heap)(b:aX):(s++[b])[s.length]? =some b:=by simp
theorem Re{α:Type}(sz:Nat)(c:α→an)(l:List α){k:Nat}(h:k≤l.length){σ:Heap}:A.aZ sz (sl sz c l) (some (.aj (k:Int))) none σ=some (sl sz c (l.drop k)):=by simp [A.aZ,sl,A.bound,h,List.map_drop];rw[gD (by simp)]
noncomputable abbrev Dl : Nat → an → Heap → au := A.tab (fun _ _ => none) [(119, nJ), (122, nK)]
theorem V7(l:List aA)(hl:l.length≤20000)(x:aA){σ:Heap}{id:Nat}(h:σ[id]? =some (.box (ay x))):uk Dl [sl 3 ay l,.fn 119 [.op id 0]] σ=some (.bool (l.any λt=>decide (t.key=x.key)),σ):=
 OY Dl l (by unfold bV;omega) 119 [.op id 0] (λt=>decide (t.key=x.key)) σ (λy hy=>zA (σ:=σ) (bR:=[.agg (ay y),.op id 0]) (cP:=[]) (ts:=[.agg (ay y),.rp (ay x)]) ⟨CE (FU (sN y)) rfl,MW h (sN x),trivial⟩ (λσ=>OS rfl) rfl)
theorem Ui{α γ R:Type}{l:List α}{body:Nat→α→Unit→Option (Lr Unit Unit R)}{K1:Unit→Option γ}{K2:R→Option γ}(hl:l.length≤bV)(hb:∀i x,l[i]? =some x→body i x ()=some (.go ())∨∃q,body i x ()=some (.ret q)):kS l body (λs=>some ()) () K1 K2=K1 ()∨∃q,kS l body (λs=>some ()) () K1 K2=K2 q:=by
 rw[yV hl]
 have key:∀(rest pre:List α),l=pre++rest→gM body (λs=>some ()) rest pre.length ()=some (.inl ())∨∃q,gM body (λs=>some ()) rest pre.length ()=some (.inr q):=by
  intro rest;induction rest with
  |nil=>intro pre _;exact .inl rfl
  |cons x rest ih=>
   intro pre hp;rcases hb pre.length x (by rw[hp];simp)with h|⟨q,h⟩
   ·rw[gM,h,aC];have:=ih (pre++[x]) (by simpa using hp);simpa using this
   ·rw[gM,h,aC];exact .inr ⟨q,rfl⟩
 rcases key l [] rfl with h|⟨q,h⟩
 ·rw[List.length_nil]at h;rw[h];exact .inl rfl
 ·rw[List.length_nil]at h;rw[h];exact .inr ⟨q,rfl⟩
theorem Rm(a b:List aA)(ha:a.length≤bV):∃r,sL a b=some r:=by
 unfold sL;by_cases h:(a.length:Int)=(b.length:Int)
 ·rw[aK (λk=>k h)]
  have hb:∀(i:Nat)x,a[i]? =some x→((pH b (i:Int)).bind λx9=>if ¬(x=x9)then some (Lr.ret ():Lr Unit Unit Unit)else some (.go ()))=some (.go ())∨∃q,((pH b (i:Int)).bind λx9=>if ¬(x=x9)then some (Lr.ret ():Lr Unit Unit Unit)else some (.go ()))=some (.ret q):=by
   intro i x hx;have hi:=(bK.1 hx).1
   rw[FM (x:=b[i]'(by omega)) (by omega) (by simp),aC]
   by_cases h2:x=b[i]'(by omega)
   ·exact .inl (aK (λk=>k h2))
   ·exact .inr ⟨(),aM h2⟩
  rcases Ui (l:=a) (body:=λ(i:Nat)x(_:Unit)=>(pH b (i:Int)).bind λx9=>if ¬(x=x9)then some (Lr.ret ():Lr Unit Unit Unit)else some (.go ())) (K1:=λ_=>some true) (K2:=λ_=>some false) ha hb with e|⟨q,e⟩
  ·exact⟨true,e⟩
  ·exact⟨false,e⟩
 ·rw[aM h];exact⟨false,rfl⟩
theorem S4(p q:aT)(hp:p.bY.length≤bV):∃r,pK p q=some r:=by
 unfold pK;split
 ·obtain⟨r,h⟩:=Rm p.bY q.bY hp;rw[h];exact⟨_,rfl⟩
 ·exact⟨_,rfl⟩
theorem Vv{l:List aT}(hl:l.length≤20000){x:aT}(hx:x.bY.length≤bV)(hm:x∈l){σ:Heap}{id:Nat}(h:σ[id]? =some (.box (aN x))):um Dl [sl 3 aN l,.fn 122 [.op id 0]] σ=some (.bool true,σ):=by
 have:=O2 Dl l (by unfold bV;omega) 122 [.op id 0] (λt=>(pK x t).getD false) σ (λy hy=>by
  obtain⟨r,hr⟩:=S4 x y hx;have h2:xV y x=some r:=by unfold xV;rw[hr];rfl
  rw[hr]
  exact zA (σ:=σ) (bR:=[.agg (aN y),.op id 0]) (cP:=[.a lJ]) (ts:=[.agg (aN y),.rp (aN x)]) ⟨CE (FU (Bv y)) rfl,MW h (Bv x),trivial⟩ (λσ=>OT h2) rfl)
 rw[this];have:(l.any λt=>(pK x t).getD false)=true:=List.any_eq_true.2 ⟨x,hm,by rw[Rb x hx];rfl⟩;rw[this]
theorem RU{r:cK}{ps:List aT}{n:Int}{l:List aA}{out:List aT}(hl:l.length≤20000)(hR:Gc r ps n l out)(W:Heap):
  ∃w i bs,A.loop ((λeE fL=>
     (A.lss (ah eE 1) (AV.aj (l.length:Int))).bind λbG=>
     A.cond bG (
      (A.aJ 3 (sl 3 ay l) (ah eE 1)).bind λbM=>
      ((A.deref bM fL).bind λgm=>A.aB 0 3 gm).bind λcr=>
      (A.cells 3 cr).bind λdD=>
      (A.storeAt (AV.op fL.length 0) dD (fL++[aX.box [(AV.aj 0),bD,(AV.aj 0)]])).bind λiL=>
      (A.add (ah eE 1) (AV.aj 1)).bind λbX=>
      (A.aZ 3 (sl 3 ay l) (some bX) none iL).bind λcy=>
      (uk (A.tab (λ_ _=>none) [(119,nJ),(122,nK)]) [cy,(AV.fn 119 [(AV.op fL.length 0)])] iL).bind λep=>
      A.cond ep.1 (
       (A.add (ah eE 1) (AV.aj 1)).bind λcA=>
       some (AX.normal,[(ah eE 0),cA],ep.2)) (
       (A.cW 0 (AV.op fL.length 0)).bind λcD=>
       ((A.deref cD ep.2).bind λuX=>A.aB 0 2 uX).bind λeM=>
       ((((A.cell (AV.aj n)).bind λv=>some [v]).bind λke=>(A.aV 1 ke [(AV.aj 0),(AV.aj 0)]).bind λlS=>some lS).bind λcs=>some (AV.agg cs)).bind λfA=>
       (wg [(sl 3 aN out),eM,fA] ep.2).bind λr32=>
       (A.ext 0 r32.1).bind λeN=>
       (A.ext 1 r32.1).bind λfQ=>
       (A.neq .i fQ (AV.aj 0)).bind λeZ=>
       (A.guard eZ false (some eN) aq).bind λfR=>
       (A.guard eZ false (A.cW 2 (AV.op fL.length 0)) aq).bind λji=>
       (A.guard eZ false ((A.deref ji r32.2).bind λiu=>A.aD 0 iu) aq).bind λdQ=>
       (A.guard eZ false (A.neq .i fR dQ) aq).bind λiB=>
       (A.pick eZ eI iB).bind λeA=>
       A.cond eA (
        some (AX.ret,[bF,(ah eE 1)],r32.2)) (
        (A.add (ah eE 1) (AV.aj 1)).bind λku=>
        some (AX.normal,[(ah eE 0),ku],r32.2)))) (
      some (AX.exit 0,[(ah eE 0),(ah eE 1)],fL)))) [.bool false,.aj 0] W=some (.exit 0,[.bool false,i],w)∧w=W++bs:=by
 obtain⟨q,hq,w,i,bs,rfl,hw⟩:∃q,A.loop ((λeE fL=>
     (A.lss (ah eE 1) (AV.aj (l.length:Int))).bind λbG=>
     A.cond bG (
      (A.aJ 3 (sl 3 ay l) (ah eE 1)).bind λbM=>
      ((A.deref bM fL).bind λgm=>A.aB 0 3 gm).bind λcr=>
      (A.cells 3 cr).bind λdD=>
      (A.storeAt (AV.op fL.length 0) dD (fL++[aX.box [(AV.aj 0),bD,(AV.aj 0)]])).bind λiL=>
      (A.add (ah eE 1) (AV.aj 1)).bind λbX=>
      (A.aZ 3 (sl 3 ay l) (some bX) none iL).bind λcy=>
      (uk (A.tab (λ_ _=>none) [(119,nJ),(122,nK)]) [cy,(AV.fn 119 [(AV.op fL.length 0)])] iL).bind λep=>
      A.cond ep.1 (
       (A.add (ah eE 1) (AV.aj 1)).bind λcA=>
       some (AX.normal,[(ah eE 0),cA],ep.2)) (
       (A.cW 0 (AV.op fL.length 0)).bind λcD=>
       ((A.deref cD ep.2).bind λuX=>A.aB 0 2 uX).bind λeM=>
       ((((A.cell (AV.aj n)).bind λv=>some [v]).bind λke=>(A.aV 1 ke [(AV.aj 0),(AV.aj 0)]).bind λlS=>some lS).bind λcs=>some (AV.agg cs)).bind λfA=>
       (wg [(sl 3 aN out),eM,fA] ep.2).bind λr32=>
       (A.ext 0 r32.1).bind λeN=>
       (A.ext 1 r32.1).bind λfQ=>
       (A.neq .i fQ (AV.aj 0)).bind λeZ=>
       (A.guard eZ false (some eN) aq).bind λfR=>
       (A.guard eZ false (A.cW 2 (AV.op fL.length 0)) aq).bind λji=>
       (A.guard eZ false ((A.deref ji r32.2).bind λiu=>A.aD 0 iu) aq).bind λdQ=>
       (A.guard eZ false (A.neq .i fR dQ) aq).bind λiB=>
       (A.pick eZ eI iB).bind λeA=>
       A.cond eA (
        some (AX.ret,[bF,(ah eE 1)],r32.2)) (
        (A.add (ah eE 1) (AV.aj 1)).bind λku=>
        some (AX.normal,[(ah eE 0),ku],r32.2)))) (
      some (AX.exit 0,[(ah eE 0),(ah eE 1)],fL)))) [.bool false,.aj 0] W=some q∧∃w i bs,q=(.exit 0,[.bool false,i],w)∧w=W++bs:=by
  refine jq (λz u w=>∃(i:Nat)(bs:Heap),i≤l.length∧z=l.length-i∧u=[.bool false,.aj (i:Int)]∧w=W++bs) ?_ (n:=l.length) ⟨0,[],kQ _,rfl,rfl,by simp⟩;rintro z u w ⟨i,bs,hi,rfl,rfl,hw⟩;simp only[cz,dB];rw[fE,bS];by_cases hlt:i<l.length
  ·have hx:l[i]? =some l[i]:=bQ hlt;generalize l[i]=x at hx;have hst:A.storeAt (AV.op w.length 0) (ay x) (w++[aX.box [(AV.aj 0),bD,(AV.aj 0)]])=some (w++[.box (ay x)]):=L4 rfl;have jH:=L3 w (.box (ay x));have hrd:∀o,A.deref (.op w.length o) (w++[.box (ay x)])=some ((ay x).drop o):=λo=>by simp only[A.deref,jH]
   have hfa:∀o,A.cW o (.op w.length 0)=some (.op w.length o):=λo=>by simp [A.cW]
   rw[cj hlt,cG,gW 3 ay l hx,bS,show((A.deref (.rp (ay x)) w).bind λdD=>A.aB 0 3 dD)=some (.agg (ay x))from rfl,bS,nH,bS,hst,bS,jx (by omega),bS,Re 3 ay l (by omega),bS,V7 _ (by rw[List.length_drop];omega) x jH,bS];simp only;refine .inl ?_;cases ha:(l.drop (i+1)).any λt=>decide (t.key=x.key)
   ·have hlv:=hR.last i x hx ha;rw[bU,hfa,bS,hrd,bS,show A.aB 0 2 ((ay x).drop 0)=some (.agg (bN x.key))from rfl,bS,show((((A.cell (.aj n)).bind λv=>some [v]).bind λke=>(A.aV 1 ke [(AV.aj 0),(AV.aj 0)]).bind λlS=>some lS).bind λcs=>some (AV.agg cs))=some (.agg (Ck ⟨0,n⟩))from rfl,bS,QX (TW out hR.ok x.key ⟨0,n⟩),bS];simp only[hlv];rw[GC,bS,ext1,bS,zo,bS,bZ (by simp),gF,bS,gF,hfa,bS,gF,hrd,show((some ((ay x).drop 2)).bind λiu=>A.aD 0 iu)=some (.aj x.level)from rfl,bS,gF,nj,bS,bZ (by simp),sw,bS,bU,bS];exact⟨l.length-(i+1),_,_,by omega,rfl,i+1,bs++[.box (ay x)],hlt,rfl,rfl,by rw[hw,gl]⟩
   ·rw[cG,bS];exact⟨l.length-(i+1),_,_,by omega,rfl,i+1,bs++[.box (ay x)],hlt,rfl,rfl,by rw[hw,gl]⟩
  ·rw[bZ hlt,bU];exact .inr ⟨_,rfl,by simp,w,_,bs,rfl,hw⟩
 exact⟨w,i,bs,hq,hw⟩
theorem RV{r:cK}{ps:List aT}{n:Int}{l:List aA}{out:List aT}(hl:ps.length≤200)(hps:∀p∈ps,p.bY.length≤bV)(ho:out.length≤20000)(hR:Gc r ps n l out)(W:Heap):
  ∃ w i bs, A.loop ((λbJ ct =>
      (A.lss (ah bJ 1) (AV.aj (ps.length:Int))).bind λiC=>
      A.cond iC (
       (A.aJ 3 (sl 3 aN ps) (ah bJ 1)).bind λeO=>
       ((A.deref eO ct).bind λlU=>A.aB 0 3 lU).bind λdX=>
       (A.cells 3 dX).bind λoY=>
       (A.storeAt (AV.op ct.length 0) oY (ct++[aX.box [(AV.aj 0),bD,AV.aE]])).bind λfH=>
       (A.cW 0 (AV.op ct.length 0)).bind λfS=>
       ((A.deref fS fH).bind λu0=>A.aD 0 u0).bind λgq=>
       (A.neq .i gq (AV.aj n)).bind λfB=>
       (A.guard fB true (some (sl 3 aN out)) aq).bind λgJ=>
       (A.guard fB true (some (AV.fn 122 [(AV.op ct.length 0)])) aq).bind λgd=>
       (A.guard fB true (A.quiet (um (A.tab (λ_ _=>none) [(119,nJ),(122,nK)]) [gJ,gd] fH) fH) aq).bind λkC=>
       (A.guard fB true (A.not kC) aq).bind λfT=>
       (A.pick fB fT bF).bind λsG=>
       A.cond sG (
        some (AX.ret,[bF,(ah bJ 1)],fH)) (
        (A.add (ah bJ 1) (AV.aj 1)).bind λdO=>
        some (AX.normal,[(ah bJ 0),dO],fH))) (
       some (AX.exit 2,[(ah bJ 0),(ah bJ 1)],ct)))) [.bool false,.aj 0] W=some (.exit 2,[.bool false,i],w)∧w=W++bs:=by
 obtain⟨q,hq,w,i,bs,rfl,hw⟩:∃q,A.loop ((λbJ ct=>
      (A.lss (ah bJ 1) (AV.aj (ps.length:Int))).bind λiC=>
      A.cond iC (
       (A.aJ 3 (sl 3 aN ps) (ah bJ 1)).bind λeO=>
       ((A.deref eO ct).bind λlU=>A.aB 0 3 lU).bind λdX=>
       (A.cells 3 dX).bind λoY=>
       (A.storeAt (AV.op ct.length 0) oY (ct++[aX.box [(AV.aj 0),bD,AV.aE]])).bind λfH=>
       (A.cW 0 (AV.op ct.length 0)).bind λfS=>
       ((A.deref fS fH).bind λu0=>A.aD 0 u0).bind λgq=>
       (A.neq .i gq (AV.aj n)).bind λfB=>
       (A.guard fB true (some (sl 3 aN out)) aq).bind λgJ=>
       (A.guard fB true (some (AV.fn 122 [(AV.op ct.length 0)])) aq).bind λgd=>
       (A.guard fB true (A.quiet (um (A.tab (λ_ _=>none) [(119,nJ),(122,nK)]) [gJ,gd] fH) fH) aq).bind λkC=>
       (A.guard fB true (A.not kC) aq).bind λfT=>
       (A.pick fB fT bF).bind λsG=>
       A.cond sG (
        some (AX.ret,[bF,(ah bJ 1)],fH)) (
        (A.add (ah bJ 1) (AV.aj 1)).bind λdO=>
        some (AX.normal,[(ah bJ 0),dO],fH))) (
       some (AX.exit 2,[(ah bJ 0),(ah bJ 1)],ct)))) [.bool false,.aj 0] W=some q∧∃w i bs,q=(.exit 2,[.bool false,i],w)∧w=W++bs:=by
  refine jq (λz u w=>∃(i:Nat)(bs:Heap),i≤ps.length∧z=ps.length-i∧u=[.bool false,.aj (i:Int)]∧w=W++bs) ?_ (n:=ps.length) ⟨0,[],kQ _,rfl,rfl,by simp⟩;rintro z u w ⟨i,bs,hi,rfl,rfl,hw⟩;simp only[cz,dB];rw[fE,bS];by_cases hlt:i<ps.length
  ·have hx:ps[i]? =some ps[i]:=bQ hlt;have hm:=List.getElem_mem hlt;generalize ps[i]=x at hx hm;have hst:A.storeAt (AV.op w.length 0) (aN x) (w++[aX.box [(AV.aj 0),bD,AV.aE]])=some (w++[.box (aN x)]):=L4 rfl;have jH:=L3 w (.box (aN x));have hrd:∀o,A.deref (.op w.length o) (w++[.box (aN x)])=some ((aN x).drop o):=λo=>by simp only[A.deref,jH]
   have hfa:∀o,A.cW o (.op w.length 0)=some (.op w.length o):=λo=>by simp [A.cW]
   rw[cj hlt,cG,gW 3 aN ps hx,bS,show((A.deref (.rp (aN x)) w).bind λdD=>A.aB 0 3 dD)=some (.agg (aN x))from rfl,bS,show A.cells 3 (.agg (aN x))=some (aN x)from rfl,bS,hst,bS,hfa,bS,hrd,show((some ((aN x).drop 0)).bind λiu=>A.aD 0 iu)=some (.aj x.aH)from rfl,bS,nj,bS];refine .inl ?_;by_cases hne:x.aH=n
   ·rw[bZ (by simpa using hne),o8,bS,o8,bS,o8,bS,o8,bS,sw,bS,bU,jx (by omega),bS];exact⟨ps.length-(i+1),_,_,by omega,rfl,i+1,bs++[.box (aN x)],hlt,rfl,rfl,by rw[hw,gl]⟩
   ·rw[cj (by simpa using hne),gT,bS,gT,bS,gT,yN (Vv ho (hps x hm) (hR.stay x hm hne) jH),bS,gT,CY,bS,qA,bS,bU,jx (by omega),bS];exact⟨ps.length-(i+1),_,_,by omega,rfl,i+1,bs++[.box (aN x)],hlt,rfl,rfl,by rw[hw,gl]⟩
  ·rw[bZ hlt,bU];exact .inr ⟨_,rfl,by simp,w,_,bs,rfl,hw⟩
 exact⟨w,i,bs,hq,hw⟩
theorem O6{r:cK}{ps:List aT}{n:Int}{t:ByteArray}{l:List aA}{m:Bool}{σ:Heap}(h:oI r∧dI qL ps∧bE n∧eD t∧dI uw l):Ix [.agg (dM r),sl 3 aN ps,.aj n,.str t,sl 3 ay l,.bool m] σ=some (.bool true,σ):=by
 obtain⟨hr,hp,hn,ht,hl⟩:=h;refine LX rfl (gZ (LA r) (gZ (tv ..) (gZ (jW _) (gZ (jW _) (gZ (tv ..) (uH _)))))) (jW _) ?_;unfold DG;rw[nP,bS,nQ,bS,Sp hr hp n ht l m,bS];simp only;rw[GC,bS,ext1,bS];have hout:=UW (r:=r) (t:=t) (m:=m) hp hn ht hl;have hbd:=(US (r:=r) (ps:=ps) (n:=n) (t:=t) (l:=l) (m:=m)).1;generalize lO r ps n t l m=F at hout hbd;rcases hout with⟨h1,h2⟩|⟨h1,h2,h3,hR⟩
 ·rw[zo,bS,cj h2,cG,h1,gX,bS,qu,bS,dZ];rfl
 rw[h1,zo,bS,bZ (by simp),bU,bS,IE (IS r F.1 hr hR.ok),hR.lV,bS];simp only;rw[zo,bS,bZ (by simp),bU,gX,bS];obtain⟨w,i,bs,e1,rfl⟩:=RU h2 hR σ;refine(jF e1 _).trans ?_;rw[bS];simp only[gn,cz,dB];rw[gX,bS];obtain⟨w,j,bs2,e2,rfl⟩:=RV h3 (λp hp'=>(hp.2 p hp').2.2.1) (by omega) hR (σ++bs);refine(jF e2 _).trans ?_;rw[bS];simp only[gn];rw[gl];exact Fe _ _ _
theorem O7(r:cK)(ps:List aT)(n:Int)(t:ByteArray)(l:List aA)(m:Bool)(hr:oI r)(hp:dI qL ps)(hn:bE n)(ht:eD t)(hl:dI uw l):oI r∧dI qL ps∧bE n∧eD t∧dI uw l:=⟨hr,hp,hn,ht,hl⟩
end
section
open Go.ChangeShapes Go.WideShapes Go.ChangeAt Go.RowKit
theorem own:ownKnob Try.prog.godebug=none:=by kernel_rfl
theorem laidOut:laidOutB Try.prog=true:=by kernel_rfl
theorem IX{H:Type}{enc:TypeId×Value→H}{P:Program}(hl:laidOutB P=true){W W':World}(hb:Below W.heap.size W W'):
  ∀{ts:List TypeId}{vs:List Value}{ds:List (DataW H)}{ps:List MemPlace},(ts.all λt=>P.readableRec t&&decide (t<P.types.size))=true→
   DataW.TrodAll enc P W 0 (λ_=>true) true ts vs ds ps→(∀x∈ps,x.block<W.heap.size)→DataW.TrodAll enc P W' 0 (λb=>decide (b<W.heap.size)) true ts vs ds ps
 |[],[],[],_,_,h,_=>h
 |t::ts,v::vs,d::ds,ps,hts,h,hlt=>by
  obtain⟨p,q,h1,h2,rfl⟩:=h;simp only[List.all_cons,dP,decide_eq_true_eq]at hts
  exact⟨p,q,Below.trod hl hts.1.1 hts.1.2 h1 hb (λx hx=>hlt x (List.mem_append_left _ hx)),
   IX hl hb (by simpa using hts.2) h2 (λx hx=>hlt x (List.mem_append_right _ hx)),rfl⟩
 |[],_::_,_,_,_,h,_=>h.elim
 |[],[],_::_,_,_,h,_=>h.elim
 |_::_,[],_,_,_,h,_=>h.elim
 |_::_,_::_,[],_,_,h,_=>h.elim
theorem Tv{H:Type}{enc:TypeId×Value→H}{f:Func}{s:ChangeSpec}{W W':World}{args:Array Value}{ds gs:List (DataW H)}{before:List MemPlace}{t:TypeId}
  (hts:(f.params.toList.all λt=>Try.prog.readableRec t&&decide (t<Try.prog.types.size))=true) (su:f.resultTypes=#[t]) (ht:Try.prog.underlying t=some .bool) (hvs:s.vars=[])
  (hW:DataW.Whole enc Try.prog f.params.toList s.vars false W args.toList ds gs before) (hb:Below W.heap.size W W')
  (Gk:s.fn H (ds++gs)={results:=[.lit (.bool true)],args:=ds}):
  s.post enc Try.prog f false true false false W args (.bool true) W':=by
 have Dd:=hW;obtain⟨p,q,hA,hV,rfl,hfz,hnd⟩:=hW;have hlt:∀x∈p++q,x.block<W.heap.size:=λx hx=>Dd.lt x hx
 refine⟨ds,gs,p++q,[],p,[],Dd,?_,?_,?_,hb.frame _,λh=>by cases h⟩
 ·rw[Gk,su];exact trodAll_cons_mk (shut_bool ht _) trodAll_mk0
 ·rw[Gk];exact IX laidOut hb hts hA (λx hx=>hlt x (List.mem_append_left _ hx))
 ·rw[Gk,hvs];exact rfl
end
section
open Go.RowKit
def Gr(w w':World):Prop:=Below w.heap.size w w'
theorem Gr.cell{a b:World}(h:Gr a b){p:Addr}{v:Value}(hc:a.cell? p=some v):b.cell? p=some v:=by
 by_cases hp:p.block<a.heap.size
 ·rw[Below.cell h hp];exact hc
 ·have:a.heap[p.block]? =none:=Array.getElem?_eq_none (by omega);simp [World.cell?,this]at hc
abbrev aac(w:World)(b:Nat)(v0:Value):Prop:=(w.cell? ⟨b,0,none⟩=some v0)∧(w.frozen? ⟨b,0,none⟩=false)∧b<w.heap.size
abbrev aad(w:World)(b:Nat)(v0 v1:Value):Prop:=(w.cell? ⟨b,0,none⟩=some v0∧w.cell? ⟨b,1,none⟩=some v1)∧(w.frozen? ⟨b,0,none⟩=false∧w.frozen? ⟨b,1,none⟩=false)∧b<w.heap.size
abbrev aae(w:World)(b:Nat)(v0 v1 v2:Value):Prop:=(w.cell? ⟨b,0,none⟩=some v0∧w.cell? ⟨b,1,none⟩=some v1∧w.cell? ⟨b,2,none⟩=some v2)∧(w.frozen? ⟨b,0,none⟩=false∧w.frozen? ⟨b,1,none⟩=false∧w.frozen? ⟨b,2,none⟩=false)∧b<w.heap.size
abbrev aaf(w:World)(b:Nat)(v0 v1 v2 v3:Value):Prop:=(w.cell? ⟨b,0,none⟩=some v0∧w.cell? ⟨b,1,none⟩=some v1∧w.cell? ⟨b,2,none⟩=some v2∧w.cell? ⟨b,3,none⟩=some v3)∧(w.frozen? ⟨b,0,none⟩=false∧w.frozen? ⟨b,1,none⟩=false∧w.frozen? ⟨b,2,none⟩=false∧w.frozen? ⟨b,3,none⟩=false)∧b<w.heap.size
abbrev aag(w:World)(b:Nat)(v0 v1 v2 v3 v4:Value):Prop:=(w.cell? ⟨b,0,none⟩=some v0∧w.cell? ⟨b,1,none⟩=some v1∧w.cell? ⟨b,2,none⟩=some v2∧w.cell? ⟨b,3,none⟩=some v3∧w.cell? ⟨b,4,none⟩=some v4)∧(w.frozen? ⟨b,0,none⟩=false∧w.frozen? ⟨b,1,none⟩=false∧w.frozen? ⟨b,2,none⟩=false∧w.frozen? ⟨b,3,none⟩=false∧w.frozen? ⟨b,4,none⟩=false)∧b<w.heap.size
abbrev aah(w:World)(b:Nat)(v0 v1 v2 v3 v4 v5:Value):Prop:=(w.cell? ⟨b,0,none⟩=some v0∧w.cell? ⟨b,1,none⟩=some v1∧w.cell? ⟨b,2,none⟩=some v2∧w.cell? ⟨b,3,none⟩=some v3∧w.cell? ⟨b,4,none⟩=some v4∧w.cell? ⟨b,5,none⟩=some v5)∧(w.frozen? ⟨b,0,none⟩=false∧w.frozen? ⟨b,1,none⟩=false∧w.frozen? ⟨b,2,none⟩=false∧w.frozen? ⟨b,3,none⟩=false∧w.frozen? ⟨b,4,none⟩=false∧w.frozen? ⟨b,5,none⟩=false)∧b<w.heap.size
abbrev aai(w:World)(b:Nat)(v0 v1 v2 v3 v4 v5 v6:Value):Prop:=(w.cell? ⟨b,0,none⟩=some v0∧w.cell? ⟨b,1,none⟩=some v1∧w.cell? ⟨b,2,none⟩=some v2∧w.cell? ⟨b,3,none⟩=some v3∧w.cell? ⟨b,4,none⟩=some v4∧w.cell? ⟨b,5,none⟩=some v5∧w.cell? ⟨b,6,none⟩=some v6)∧(w.frozen? ⟨b,0,none⟩=false∧w.frozen? ⟨b,1,none⟩=false∧w.frozen? ⟨b,2,none⟩=false∧w.frozen? ⟨b,3,none⟩=false∧w.frozen? ⟨b,4,none⟩=false∧w.frozen? ⟨b,5,none⟩=false∧w.frozen? ⟨b,6,none⟩=false)∧b<w.heap.size
abbrev aaj(w:World)(b:Nat)(v0 v1 v2 v3 v4 v5 v6 v7:Value):Prop:=(w.cell? ⟨b,0,none⟩=some v0∧w.cell? ⟨b,1,none⟩=some v1∧w.cell? ⟨b,2,none⟩=some v2∧w.cell? ⟨b,3,none⟩=some v3∧w.cell? ⟨b,4,none⟩=some v4∧w.cell? ⟨b,5,none⟩=some v5∧w.cell? ⟨b,6,none⟩=some v6∧w.cell? ⟨b,7,none⟩=some v7)∧(w.frozen? ⟨b,0,none⟩=false∧w.frozen? ⟨b,1,none⟩=false∧w.frozen? ⟨b,2,none⟩=false∧w.frozen? ⟨b,3,none⟩=false∧w.frozen? ⟨b,4,none⟩=false∧w.frozen? ⟨b,5,none⟩=false∧w.frozen? ⟨b,6,none⟩=false∧w.frozen? ⟨b,7,none⟩=false)∧b<w.heap.size
abbrev aak(w:World)(b:Nat)(v0 v1 v2 v3 v4 v5 v6 v7 v8:Value):Prop:=(w.cell? ⟨b,0,none⟩=some v0∧w.cell? ⟨b,1,none⟩=some v1∧w.cell? ⟨b,2,none⟩=some v2∧w.cell? ⟨b,3,none⟩=some v3∧w.cell? ⟨b,4,none⟩=some v4∧w.cell? ⟨b,5,none⟩=some v5∧w.cell? ⟨b,6,none⟩=some v6∧w.cell? ⟨b,7,none⟩=some v7∧w.cell? ⟨b,8,none⟩=some v8)∧(w.frozen? ⟨b,0,none⟩=false∧w.frozen? ⟨b,1,none⟩=false∧w.frozen? ⟨b,2,none⟩=false∧w.frozen? ⟨b,3,none⟩=false∧w.frozen? ⟨b,4,none⟩=false∧w.frozen? ⟨b,5,none⟩=false∧w.frozen? ⟨b,6,none⟩=false∧w.frozen? ⟨b,7,none⟩=false∧w.frozen? ⟨b,8,none⟩=false)∧b<w.heap.size
abbrev ZR(w:World)(b:Nat)(v0 v1 v2 v3 v4 v5 v6 v7 v8 v9:Value):Prop:=(w.cell? ⟨b,0,none⟩=some v0∧w.cell? ⟨b,1,none⟩=some v1∧w.cell? ⟨b,2,none⟩=some v2∧w.cell? ⟨b,3,none⟩=some v3∧w.cell? ⟨b,4,none⟩=some v4∧w.cell? ⟨b,5,none⟩=some v5∧w.cell? ⟨b,6,none⟩=some v6∧w.cell? ⟨b,7,none⟩=some v7∧w.cell? ⟨b,8,none⟩=some v8∧w.cell? ⟨b,9,none⟩=some v9)∧(w.frozen? ⟨b,0,none⟩=false∧w.frozen? ⟨b,1,none⟩=false∧w.frozen? ⟨b,2,none⟩=false∧w.frozen? ⟨b,3,none⟩=false∧w.frozen? ⟨b,4,none⟩=false∧w.frozen? ⟨b,5,none⟩=false∧w.frozen? ⟨b,6,none⟩=false∧w.frozen? ⟨b,7,none⟩=false∧w.frozen? ⟨b,8,none⟩=false∧w.frozen? ⟨b,9,none⟩=false)∧b<w.heap.size
abbrev ZS(w:World)(b:Nat)(v0 v1 v2 v3 v4 v5 v6 v7 v8 v9 v10:Value):Prop:=(w.cell? ⟨b,0,none⟩=some v0∧w.cell? ⟨b,1,none⟩=some v1∧w.cell? ⟨b,2,none⟩=some v2∧w.cell? ⟨b,3,none⟩=some v3∧w.cell? ⟨b,4,none⟩=some v4∧w.cell? ⟨b,5,none⟩=some v5∧w.cell? ⟨b,6,none⟩=some v6∧w.cell? ⟨b,7,none⟩=some v7∧w.cell? ⟨b,8,none⟩=some v8∧w.cell? ⟨b,9,none⟩=some v9∧w.cell? ⟨b,10,none⟩=some v10)∧(w.frozen? ⟨b,0,none⟩=false∧w.frozen? ⟨b,1,none⟩=false∧w.frozen? ⟨b,2,none⟩=false∧w.frozen? ⟨b,3,none⟩=false∧w.frozen? ⟨b,4,none⟩=false∧w.frozen? ⟨b,5,none⟩=false∧w.frozen? ⟨b,6,none⟩=false∧w.frozen? ⟨b,7,none⟩=false∧w.frozen? ⟨b,8,none⟩=false∧w.frozen? ⟨b,9,none⟩=false∧w.frozen? ⟨b,10,none⟩=false)∧b<w.heap.size
abbrev ZT(w:World)(b:Nat)(v0 v1 v2 v3 v4 v5 v6 v7 v8 v9 v10 v11:Value):Prop:=(w.cell? ⟨b,0,none⟩=some v0∧w.cell? ⟨b,1,none⟩=some v1∧w.cell? ⟨b,2,none⟩=some v2∧w.cell? ⟨b,3,none⟩=some v3∧w.cell? ⟨b,4,none⟩=some v4∧w.cell? ⟨b,5,none⟩=some v5∧w.cell? ⟨b,6,none⟩=some v6∧w.cell? ⟨b,7,none⟩=some v7∧w.cell? ⟨b,8,none⟩=some v8∧w.cell? ⟨b,9,none⟩=some v9∧w.cell? ⟨b,10,none⟩=some v10∧w.cell? ⟨b,11,none⟩=some v11)∧(w.frozen? ⟨b,0,none⟩=false∧w.frozen? ⟨b,1,none⟩=false∧w.frozen? ⟨b,2,none⟩=false∧w.frozen? ⟨b,3,none⟩=false∧w.frozen? ⟨b,4,none⟩=false∧w.frozen? ⟨b,5,none⟩=false∧w.frozen? ⟨b,6,none⟩=false∧w.frozen? ⟨b,7,none⟩=false∧w.frozen? ⟨b,8,none⟩=false∧w.frozen? ⟨b,9,none⟩=false∧w.frozen? ⟨b,10,none⟩=false∧w.frozen? ⟨b,11,none⟩=false)∧b<w.heap.size
abbrev ZU(w:World)(b:Nat)(v0 v1 v2 v3 v4 v5 v6 v7 v8 v9 v10 v11 v12:Value):Prop:=(w.cell? ⟨b,0,none⟩=some v0∧w.cell? ⟨b,1,none⟩=some v1∧w.cell? ⟨b,2,none⟩=some v2∧w.cell? ⟨b,3,none⟩=some v3∧w.cell? ⟨b,4,none⟩=some v4∧w.cell? ⟨b,5,none⟩=some v5∧w.cell? ⟨b,6,none⟩=some v6∧w.cell? ⟨b,7,none⟩=some v7∧w.cell? ⟨b,8,none⟩=some v8∧w.cell? ⟨b,9,none⟩=some v9∧w.cell? ⟨b,10,none⟩=some v10∧w.cell? ⟨b,11,none⟩=some v11∧w.cell? ⟨b,12,none⟩=some v12)∧(w.frozen? ⟨b,0,none⟩=false∧w.frozen? ⟨b,1,none⟩=false∧w.frozen? ⟨b,2,none⟩=false∧w.frozen? ⟨b,3,none⟩=false∧w.frozen? ⟨b,4,none⟩=false∧w.frozen? ⟨b,5,none⟩=false∧w.frozen? ⟨b,6,none⟩=false∧w.frozen? ⟨b,7,none⟩=false∧w.frozen? ⟨b,8,none⟩=false∧w.frozen? ⟨b,9,none⟩=false∧w.frozen? ⟨b,10,none⟩=false∧w.frozen? ⟨b,11,none⟩=false∧w.frozen? ⟨b,12,none⟩=false)∧b<w.heap.size
abbrev ZV(w:World)(b:Nat)(v0 v1 v2 v3 v4 v5 v6 v7 v8 v9 v10 v11 v12 eE:Value):Prop:=(w.cell? ⟨b,0,none⟩=some v0∧w.cell? ⟨b,1,none⟩=some v1∧w.cell? ⟨b,2,none⟩=some v2∧w.cell? ⟨b,3,none⟩=some v3∧w.cell? ⟨b,4,none⟩=some v4∧w.cell? ⟨b,5,none⟩=some v5∧w.cell? ⟨b,6,none⟩=some v6∧w.cell? ⟨b,7,none⟩=some v7∧w.cell? ⟨b,8,none⟩=some v8∧w.cell? ⟨b,9,none⟩=some v9∧w.cell? ⟨b,10,none⟩=some v10∧w.cell? ⟨b,11,none⟩=some v11∧w.cell? ⟨b,12,none⟩=some v12∧w.cell? ⟨b,13,none⟩=some eE)∧(w.frozen? ⟨b,0,none⟩=false∧w.frozen? ⟨b,1,none⟩=false∧w.frozen? ⟨b,2,none⟩=false∧w.frozen? ⟨b,3,none⟩=false∧w.frozen? ⟨b,4,none⟩=false∧w.frozen? ⟨b,5,none⟩=false∧w.frozen? ⟨b,6,none⟩=false∧w.frozen? ⟨b,7,none⟩=false∧w.frozen? ⟨b,8,none⟩=false∧w.frozen? ⟨b,9,none⟩=false∧w.frozen? ⟨b,10,none⟩=false∧w.frozen? ⟨b,11,none⟩=false∧w.frozen? ⟨b,12,none⟩=false∧w.frozen? ⟨b,13,none⟩=false)∧b<w.heap.size
end
section
open Go.RowKit Go.Deep
structure cZ (α : Type) where
 size:Nat
 is:World→List Value→α→Prop
 len:∀{w cs a},is w cs a→cs.length=size
 mono:∀{w w' cs a},is w cs a→Gr w w'→is w' cs a
 cR:α→Nat
def fO:cZ Int where
 size:=1
 is:=λ_ cs n=>cs=[.int .i64 n]∧-9223372036854775808≤n∧n≤9223372036854775807
 len:=λh=>by rw[h.1];rfl
 mono:=λh _=>h
 cR:=λ_=>1
def Cw:cZ Bool where
 size:=1
 is:=λ_ cs b=>cs=[.bool b]
 len:=λh=>by rw[h];rfl
 mono:=λh _=>h
 cR:=λ_=>1
def mF:cZ ByteArray where
 size:=1
 is:=λ_ cs s=>cs=[.string s]∧s.size≤maxLen
 len:=λh=>by rw[h.1];rfl
 mono:=λh _=>h
 cR:=λs=>s.size+1
def cZ.pair{α β:Type}(c:cZ α)(d:cZ β):cZ (α×β) where
 size:=c.size+d.size
 is:=λw cs x=>c.is w (cs.take c.size) x.1∧d.is w (cs.drop c.size) x.2
 len:=λ{w cs a}h=>by have h1:=c.len h.1;have h2:=d.len h.2;simp at h1 h2;omega
 mono:=λh g=>⟨c.mono h.1 g,d.mono h.2 g⟩
 cR:=λx=>c.cR x.1+d.cR x.2
def ef{α:Type}(c:cZ α):cZ (List α) where
 size:=1
 is:=λw cs l=>(cs=[.slice none 0 0]∧l=[])∨∃(b off:Nat)(sp:Option Nat)(cap:Nat),cs=[.slice (some ⟨b,off,sp⟩) l.length cap]∧l.length≤cap∧cap≤maxLen∧
  ∀i(h:i<l.length),sp=none∧∃cs',(∀j,j<c.size→w.cell? ⟨b,off+(i*c.size+j),none⟩=cs'[j]?)∧c.is w cs' l[i]
 len:=λh=>by rcases h with⟨rfl,_⟩|⟨b,off,sp,cap,rfl,_⟩<;>rfl
 mono:=λ{w w' cs l}h g=>by
  rcases h with h|⟨b,off,sp,cap,h1,h2,h3,h4⟩
  ·exact .inl h
  ·refine .inr ⟨b,off,sp,cap,h1,h2,h3,λi hi=>?_⟩;obtain⟨e,cs',h5,h6⟩:=h4 i hi;refine⟨e,cs',λj hj=>?_,c.mono h6 g⟩;have h7:=h5 j hj;have hl:=c.len h6;rw[bQ (by omega)]at h7 ⊢;exact g.cell h7
 cR:=λl=>(l.map c.cR).sum+1
def fc{α:Type}(F:Nat→Prop)(P:Program)(c:cZ α)(t:TypeId):Prop:=∀⦃H:Type⦄ ⦃enc:TypeId×Value→H⦄ ⦃w:World⦄ ⦃base:Nat⦄ ⦃spare:Nat→Bool⦄ ⦃held:Bool⦄ ⦃fuel:Nat⦄ ⦃cs:List Value⦄ ⦃x:DataW H×List MemPlace⦄,F fuel→DataW.trod enc P w base spare held fuel t cs=some x→∃a,c.is w cs a∧c.cR a≤Rows.uptoBulk x.1
abbrev Reads{α:Type}(P:Program)(c:cZ α)(t:TypeId):Prop:=fc (λ_=>True) P c t
theorem yx{H:Type}(l:List (DataW H)):Rows.uptoBulkAll l=(l.map Rows.uptoBulk).sum:=by
 induction l with
 |nil=>rfl
 |cons x r ih=>simp only[Rows.uptoBulkAll,eT,List.sum_cons,ih]
theorem Ja{α:Type}(f:α→Nat)(D:Nat→Nat):∀(l:List α)(o:Nat),(∀i(h:i<l.length),f l[i]≤D (o+i))→(l.map f).sum≤((List.range' o l.length).map D).sum
 |[],_,_=>by simp
 |x::r,o,h=>by simp only[List.length_cons,List.range'_succ,eT,List.sum_cons];have h0:=h 0 (by simp);have:=Ja f D r (o+1) (λi hi=>by have:=h (i+1) (by simp;omega);simp only[List.getElem_cons_succ]at this;rw[show o+1+i=o+(i+1) by omega];exact this);simp at h0;omega
theorem wf_i64{n:Int}(h:(Lit.int .i64 n).wf=true):-9223372036854775808≤n∧n≤9223372036854775807:=by simpa [Lit.wf,IntKind.min,IntKind.max,IntKind.signed,IntKind.bits]using h
theorem KB{H:Type}(d:DataW H):1≤Rows.uptoBulk d:=by
 cases d with
 |lit l=>cases l<;>simp [Rows.uptoBulk]
 |_=>simp [Rows.uptoBulk]
theorem mN{F:Nat→Prop}{P:Program}{t:TypeId}(ht:P.underlying t=some (.int .i64)):fc F P fO t:=by intro H enc w base spare held fuel cs x _ h;obtain⟨n,rfl,_,hw⟩:=DataW.trod_int ht h;exact⟨n,⟨rfl,wf_i64 hw⟩,KB _⟩
theorem Sa{F:Nat→Prop}{P:Program}{t:TypeId}(ht:P.underlying t=some .bool):fc F P Cw t:=by intro H enc w base spare held fuel cs x _ h;obtain⟨n,rfl,_⟩:=DataW.trod_bool ht h;exact⟨n,rfl,KB _⟩
theorem wC{F:Nat→Prop}{P:Program}{t:TypeId}(ht:P.underlying t=some .string):fc F P mF t:=by intro H enc w base spare held fuel cs x _ h;obtain⟨n,rfl,hx,hw⟩:=DataW.trod_string ht h;refine⟨n,⟨rfl,hw⟩,?_⟩;subst hx;simp only[Rows.uptoBulk,mF];first|(simp;done)|omega
theorem wm{F:Nat→Prop}{P:Program}{α:Type}{c:cZ α}{t e:TypeId}(ht:P.underlying t=some (.slice e))(hz:P.cellsOf e=c.size)(hp:0<c.size)(hr:fc (λm=>F (m+1)) P c e):fc F P (ef c) t:=by
 intro H enc w base spare held fuel cs x hF h;rcases DataW.trod_slice ht h with⟨rfl,rfl⟩|⟨a,len,cap,elems,rest,n,iw,rfl,Ow,hb,hl,hm,hlen,hel,h8,h9⟩
 ·exact⟨[],.inl ⟨rfl,rfl⟩,by simp [ef,Rows.uptoBulk]⟩
 ·obtain⟨D,hD⟩:∃D:Nat→DataW H,D=λi=>(elems.getD i (.nil,[])).1:=⟨_,rfl⟩
  have key:∀i,i<len→∃(y:α)(cs':List Value),(∀j,j<c.size→w.cell? (a.add (i*c.size+j))=cs'[j]?)∧c.is w cs' y∧c.cR y≤Rows.uptoBulk (D i):=by
   intro i hi;have hk:=hel i hi;rw[bQ (by omega)]at hk;obtain⟨cs',h1,h2⟩:=aY.1 hk;obtain⟨y,hy,Ar⟩:=hr (by subst iw;exact hF) h2
   have Ar:c.cR y≤Rows.uptoBulk (D i):=by rw[hD];simpa [List.getD,bQ (show i<elems.length by omega)]using Ar
   obtain⟨_,h3,h4⟩:=World.cells?_some h1;refine⟨y,cs',λj hj=>?_,hy,Ar⟩;have:=h4 j (by rw[hz];exact hj);rw[hz]at this;rw[←this,add_add]
  obtain⟨ys,hys⟩:∃ys:List α,ys.length=len∧∀i(h:i<ys.length),c.cR ys[i]≤Rows.uptoBulk (D i)∧∃cs',(∀j,j<c.size→w.cell? (a.add (i*c.size+j))=cs'[j]?)∧c.is w cs' ys[i]:=by
   clear hel hlen h hl Ow h8 h9;induction len with
   |zero=>exact⟨[],rfl,λi h=>by simp at h⟩
   |succ k ih=>
    obtain⟨ys,h1,h2⟩:=ih (λi hi=>key i (by omega));obtain⟨y,cs',h3,h4,X3⟩:=key k (by omega);refine⟨ys++[y],by simp [h1],λi hi=>?_⟩;by_cases hk:i<ys.length
    ·rw[List.getElem_append_left hk];exact h2 i hk
    ·have:i=k:=by simp at hi;omega
     subst this;rw[List.getElem_append_right (by omega)];simp only[h1,Nat.sub_self,List.getElem_cons_zero];exact⟨X3,cs',h3,h4⟩
  obtain⟨h1,h2⟩:=hys;obtain⟨b,off,sp⟩:=a;refine⟨ys,.inr ⟨b,off,sp,cap,by rw[h1],by omega,hm,λi hi=>?_⟩,?_⟩
  ·have hs:sp=none:=by
    cases sp with
    |none=>rfl
    |some q=>exfalso;obtain⟨_,cs',h3,h4⟩:=h2 0 (by omega);have h5:=h3 0 hp;have hl:=c.len h4;rw[bQ (by omega)]at h5;simp only[Nat.zero_mul,Nat.zero_add,World.cell?,Addr.add]at h5;split at h5<;>simp at h5
   obtain⟨_,cs',h3,h4⟩:=h2 i hi;subst hs;refine⟨rfl,cs',λj hj=>?_,h4⟩;have h6:=h3 j hj;rw[←h6];congr 1;simp only[Addr.add];split
   ·rename_i h7;simp only[h7,Nat.add_zero]
   ·rfl
  ·subst Ow;simp only[ef,Rows.uptoBulk,yx,List.map_map];have:=Ja c.cR (λi=>Rows.uptoBulk (D i)) ys 0 (λi hi=>by simpa using(h2 i hi).1);rw[h1,←List.range_eq_range']at this
   have e:List.map (Rows.uptoBulk∘λx=>x.1) elems=List.map (λi=>Rows.uptoBulk (D i)) (List.range len):=by rw[←hlen,hD];apply List.ext_getElem (by simp);intro i h3 h4;simp at h3;simp [List.getD,bQ h3]
   rw[e];omega
theorem Bk{α:Type}(l:List α)(o n:Nat)(h:l.length=o+n):(l.drop o).take n=l.drop o:=gD (by simp;omega)
theorem QY{α:Type}(l:List α)(h:l.length=2):∃x0 x1,l=[x0,x1]:=by
 match l,h with
 |[x0,x1],_=>exact⟨x0,x1,rfl⟩
theorem Eb{F:Nat→Prop}{P:Program}{vL vM:Type}{t:TypeId}{f0 f1:Field}{c0:cZ vL}{c1:cZ vM}(ht:P.underlying t=some (.struct #[f0,f1]))(hz:P.cellsOf t=c0.size+c1.size)(o0:f0.offset=0)(o1:f1.offset=c0.size)(z0:P.cellsOf f0.type=c0.size)(z1:P.cellsOf f1.type=c1.size)(r0:fc (λm=>F (m+1)) P c0 f0.type) (r1:fc (λm=>F (m+1)) P c1 f1.type):fc F P (c0.pair c1) t:=by
 intro H enc w base spare held fuel cs x hF h;obtain⟨xs,m,iw,cH,hlen,hxl,hf⟩:=DataW.trod_struct ht h;rw[hz]at hlen;have hxl:xs.length=2:=hxl;have h0:=hf 0 f0 rfl;rw[o0,z0,bQ (show 0<xs.length by omega)]at h0;obtain⟨a0,k0,b0⟩:=r0 (by subst iw;exact hF) h0;have h1:=hf 1 f1 rfl;rw[o1,z1,bQ (show 1<xs.length by omega)]at h1;obtain⟨a1,k1,b1⟩:=r1 (by subst iw;exact hF) h1;rw[Bk cs (c0.size) c1.size (by omega)]at k1;refine⟨(a0,a1),?_,?_⟩
 ·exact⟨by simpa using k0,(by simpa [mu,jA]using k1)⟩
 ·subst cH;simp only[Rows.uptoBulk,yx,cZ.pair]
  have hs:(List.map Rows.uptoBulk (xs.map (·.1))).sum=Rows.uptoBulk xs[0].1+(Rows.uptoBulk xs[1].1):=by obtain⟨x0,x1,rfl⟩:=QY xs hxl;simp
  rw[hs];exact Nat.le_succ_of_le (nW b0 b1)
theorem QZ{α:Type}(l:List α)(h:l.length=3):∃x0 x1 x2,l=[x0,x1,x2]:=by
 match l,h with
 |[x0,x1,x2],_=>exact⟨x0,x1,x2,rfl⟩
theorem Ec{F:Nat→Prop}{P:Program}{vL vM AP:Type}{t:TypeId}{f0 f1 f2:Field}{c0:cZ vL}{c1:cZ vM}{c2:cZ AP}(ht:P.underlying t=some (.struct #[f0,f1,f2]))(hz:P.cellsOf t=c0.size+c1.size+c2.size)(o0:f0.offset=0)(o1:f1.offset=c0.size)(o2:f2.offset=c0.size+c1.size)(z0:P.cellsOf f0.type=c0.size)(z1:P.cellsOf f1.type=c1.size)(z2:P.cellsOf f2.type=c2.size)(r0:fc (λm=>F (m+1)) P c0 f0.type) (r1:fc (λm=>F (m+1)) P c1 f1.type) (r2:fc (λm=>F (m+1)) P c2 f2.type):fc F P (c0.pair (c1.pair c2)) t:=by
 intro H enc w base spare held fuel cs x hF h;obtain⟨xs,m,iw,cH,hlen,hxl,hf⟩:=DataW.trod_struct ht h;rw[hz]at hlen;have hxl:xs.length=3:=hxl;have h0:=hf 0 f0 rfl;rw[o0,z0,bQ (show 0<xs.length by omega)]at h0;obtain⟨a0,k0,b0⟩:=r0 (by subst iw;exact hF) h0;have h1:=hf 1 f1 rfl;rw[o1,z1,bQ (show 1<xs.length by omega)]at h1;obtain⟨a1,k1,b1⟩:=r1 (by subst iw;exact hF) h1;have h2:=hf 2 f2 rfl;rw[o2,z2,bQ (show 2<xs.length by omega)]at h2;obtain⟨a2,k2,b2⟩:=r2 (by subst iw;exact hF) h2;rw[Bk cs (c0.size+c1.size) c2.size (by omega)]at k2;refine⟨(a0,(a1,a2)),?_,?_⟩
 ·exact⟨by simpa using k0,⟨by simpa [mu,jA]using k1,(by simpa [mu,jA]using k2)⟩⟩
 ·subst cH;simp only[Rows.uptoBulk,yx,cZ.pair]
  have hs:(List.map Rows.uptoBulk (xs.map (·.1))).sum=Rows.uptoBulk xs[0].1+(Rows.uptoBulk xs[1].1+(Rows.uptoBulk xs[2].1)):=by obtain⟨x0,x1,x2,rfl⟩:=QZ xs hxl;simp
  rw[hs];exact Nat.le_succ_of_le (nW b0 (nW b1 b2))
theorem Q0{α:Type}(l:List α)(h:l.length=4):∃x0 x1 x2 x3,l=[x0,x1,x2,x3]:=by
 match l,h with
 |[x0,x1,x2,x3],_=>exact⟨x0,x1,x2,x3,rfl⟩
theorem QG{F:Nat→Prop}{P:Program}{vL vM AP Iw:Type}{t:TypeId}{f0 f1 f2 f3:Field}{c0:cZ vL}{c1:cZ vM}{c2:cZ AP}{c3:cZ Iw}(ht:P.underlying t=some (.struct #[f0,f1,f2,f3]))(hz:P.cellsOf t=c0.size+c1.size+c2.size+c3.size)(o0:f0.offset=0)(o1:f1.offset=c0.size)(o2:f2.offset=c0.size+c1.size)(o3:f3.offset=c0.size+c1.size+c2.size)(z0:P.cellsOf f0.type=c0.size)(z1:P.cellsOf f1.type=c1.size)(z2:P.cellsOf f2.type=c2.size)(z3:P.cellsOf f3.type=c3.size)(r0:fc (λm=>F (m+1)) P c0 f0.type) (r1:fc (λm=>F (m+1)) P c1 f1.type) (r2:fc (λm=>F (m+1)) P c2 f2.type) (r3:fc (λm=>F (m+1)) P c3 f3.type):fc F P (c0.pair (c1.pair (c2.pair c3))) t:=by
 intro H enc w base spare held fuel cs x hF h;obtain⟨xs,m,iw,cH,hlen,hxl,hf⟩:=DataW.trod_struct ht h;rw[hz]at hlen;have hxl:xs.length=4:=hxl;have h0:=hf 0 f0 rfl;rw[o0,z0,bQ (show 0<xs.length by omega)]at h0;obtain⟨a0,k0,b0⟩:=r0 (by subst iw;exact hF) h0;have h1:=hf 1 f1 rfl;rw[o1,z1,bQ (show 1<xs.length by omega)]at h1;obtain⟨a1,k1,b1⟩:=r1 (by subst iw;exact hF) h1;have h2:=hf 2 f2 rfl;rw[o2,z2,bQ (show 2<xs.length by omega)]at h2;obtain⟨a2,k2,b2⟩:=r2 (by subst iw;exact hF) h2;have h3:=hf 3 f3 rfl;rw[o3,z3,bQ (show 3<xs.length by omega)]at h3;obtain⟨a3,k3,b3⟩:=r3 (by subst iw;exact hF) h3;rw[Bk cs (c0.size+c1.size+c2.size) c3.size (by omega)]at k3;refine⟨(a0,(a1,(a2,a3))),?_,?_⟩
 ·exact⟨by simpa using k0,⟨by simpa [mu,jA]using k1,⟨by simpa [mu,jA]using k2,(by simpa [mu,jA]using k3)⟩⟩⟩
 ·subst cH;simp only[Rows.uptoBulk,yx,cZ.pair]
  have hs:(List.map Rows.uptoBulk (xs.map (·.1))).sum=Rows.uptoBulk xs[0].1+(Rows.uptoBulk xs[1].1+(Rows.uptoBulk xs[2].1+(Rows.uptoBulk xs[3].1))):=by obtain⟨x0,x1,x2,x3,rfl⟩:=Q0 xs hxl;simp
  rw[hs];exact Nat.le_succ_of_le (nW b0 (nW b1 (nW b2 b3)))
theorem Q1{α:Type}(l:List α)(h:l.length=7):∃x0 x1 x2 x3 x4 x5 x6,l=[x0,x1,x2,x3,x4,x5,x6]:=by
 match l,h with
 |[x0,x1,x2,x3,x4,x5,x6],_=>exact⟨x0,x1,x2,x3,x4,x5,x6,rfl⟩
theorem QH{F:Nat→Prop}{P:Program}{vL vM AP Iw ZG ZH ZI:Type}{t:TypeId}{f0 f1 f2 f3 f4 f5 f6:Field}{c0:cZ vL}{c1:cZ vM}{c2:cZ AP}{c3:cZ Iw}{c4:cZ ZG}{c5:cZ ZH}{c6:cZ ZI}(ht:P.underlying t=some (.struct #[f0,f1,f2,f3,f4,f5,f6]))(hz:P.cellsOf t=c0.size+c1.size+c2.size+c3.size+c4.size+c5.size+c6.size)(o0:f0.offset=0)(o1:f1.offset=c0.size)(o2:f2.offset=c0.size+c1.size)(o3:f3.offset=c0.size+c1.size+c2.size)(o4:f4.offset=c0.size+c1.size+c2.size+c3.size)(o5:f5.offset=c0.size+c1.size+c2.size+c3.size+c4.size)(o6:f6.offset=c0.size+c1.size+c2.size+c3.size+c4.size+c5.size)(z0:P.cellsOf f0.type=c0.size)(z1:P.cellsOf f1.type=c1.size)(z2:P.cellsOf f2.type=c2.size)(z3:P.cellsOf f3.type=c3.size)(z4:P.cellsOf f4.type=c4.size)(z5:P.cellsOf f5.type=c5.size)(z6:P.cellsOf f6.type=c6.size)(r0:fc (λm=>F (m+1)) P c0 f0.type) (r1:fc (λm=>F (m+1)) P c1 f1.type) (r2:fc (λm=>F (m+1)) P c2 f2.type) (r3:fc (λm=>F (m+1)) P c3 f3.type) (r4:fc (λm=>F (m+1)) P c4 f4.type) (r5:fc (λm=>F (m+1)) P c5 f5.type) (r6:fc (λm=>F (m+1)) P c6 f6.type):fc F P (c0.pair (c1.pair (c2.pair (c3.pair (c4.pair (c5.pair c6)))))) t:=by
 intro H enc w base spare held fuel cs x hF h;obtain⟨xs,m,iw,cH,hlen,hxl,hf⟩:=DataW.trod_struct ht h;rw[hz]at hlen;have hxl:xs.length=7:=hxl;have h0:=hf 0 f0 rfl;rw[o0,z0,bQ (show 0<xs.length by omega)]at h0;obtain⟨a0,k0,b0⟩:=r0 (by subst iw;exact hF) h0;have h1:=hf 1 f1 rfl;rw[o1,z1,bQ (show 1<xs.length by omega)]at h1;obtain⟨a1,k1,b1⟩:=r1 (by subst iw;exact hF) h1;have h2:=hf 2 f2 rfl;rw[o2,z2,bQ (show 2<xs.length by omega)]at h2;obtain⟨a2,k2,b2⟩:=r2 (by subst iw;exact hF) h2;have h3:=hf 3 f3 rfl;rw[o3,z3,bQ (show 3<xs.length by omega)]at h3;obtain⟨a3,k3,b3⟩:=r3 (by subst iw;exact hF) h3;have h4:=hf 4 f4 rfl;rw[o4,z4,bQ (show 4<xs.length by omega)]at h4;obtain⟨a4,k4,b4⟩:=r4 (by subst iw;exact hF) h4;have h5:=hf 5 f5 rfl;rw[o5,z5,bQ (show 5<xs.length by omega)]at h5;obtain⟨a5,k5,b5⟩:=r5 (by subst iw;exact hF) h5;have h6:=hf 6 f6 rfl;rw[o6,z6,bQ (show 6<xs.length by omega)]at h6;obtain⟨a6,k6,b6⟩:=r6 (by subst iw;exact hF) h6;rw[Bk cs (c0.size+c1.size+c2.size+c3.size+c4.size+c5.size) c6.size (by omega)]at k6;refine⟨(a0,(a1,(a2,(a3,(a4,(a5,a6)))))),?_,?_⟩
 ·exact⟨by simpa using k0,⟨by simpa [mu,jA]using k1,⟨by simpa [mu,jA]using k2,⟨by simpa [mu,jA]using k3,⟨by simpa [mu,jA]using k4,⟨by simpa [mu,jA]using k5,(by simpa [mu,jA]using k6)⟩⟩⟩⟩⟩⟩
 ·subst cH;simp only[Rows.uptoBulk,yx,cZ.pair]
  have hs:(List.map Rows.uptoBulk (xs.map (·.1))).sum=Rows.uptoBulk xs[0].1+(Rows.uptoBulk xs[1].1+(Rows.uptoBulk xs[2].1+(Rows.uptoBulk xs[3].1+(Rows.uptoBulk xs[4].1+(Rows.uptoBulk xs[5].1+(Rows.uptoBulk xs[6].1)))))):=by obtain⟨x0,x1,x2,x3,x4,x5,x6,rfl⟩:=Q1 xs hxl;simp
  rw[hs];exact Nat.le_succ_of_le (nW b0 (nW b1 (nW b2 (nW b3 (nW b4 (nW b5 b6))))))
end
section
open Go.RowKit Go.Deep
theorem fc.imp{F:Nat→Prop}{P:Program}{α β:Type}{c:cZ α}{d:cZ β}{t:TypeId}(h:fc F P c t)(k:∀w cs a,c.is w cs a→∃b,d.is w cs b∧d.cR b≤c.cR a):fc F P d t:=by intro H enc w base spare held fuel cs x hF h1;obtain⟨a,ha,hb⟩:=h hF h1;obtain⟨b,h2,h3⟩:=k _ _ _ ha;exact⟨b,h2,Nat.le_trans h3 hb⟩
theorem jl{α:Type}{cs a b:List α}{n:Nat}(h1:cs.take n=a)(h2:cs.drop n=b):cs=a++b:=by rw[←h1,←h2,List.take_append_drop]
def qW:cZ kL where
 size:=3
 is:=λw cs x=>cs=[.int .i64 x.low,.int .i64 x.high,.string x.name]∧bE x.low∧bE x.high∧x.name.size≤maxLen
 len:=λh=>by obtain⟨rfl,_⟩:=h;rfl
 mono:=λh _=>h
 cR:=λx=>fO.cR x.low+(fO.cR x.high+(mF.cR x.name))
theorem Rx:Reads Try.prog qW 147:=
 (Ec (F:=λ_=>True) Try.underlying147 (c0:=fO) (c1:=fO) (c2:=mF) (by kernel_rfl) rfl rfl rfl (by kernel_rfl) (by kernel_rfl) (by kernel_rfl) (mN Try.underlying3) (mN Try.underlying3) (wC Try.underlying9)).imp λw cs a h=>by obtain⟨a0,a1,a2⟩:=a;obtain⟨h0,h1,h2⟩:=h;obtain⟨e0,b0⟩:=h0;obtain⟨e1,b1⟩:=h1;obtain⟨e2,b2⟩:=h2;have rC:=jl e1 e2;have lK:=jl e0 rC;exact⟨⟨a0,a1,a2⟩,⟨by rw[lK];rfl,b0,b1,b2⟩,bH _⟩
theorem Q8:Reads Try.prog (ef qW) 66:=wm Try.underlying66 (c:=qW) (by kernel_rfl) (by decide) Rx
def qV:cZ gh where
 size:=7
 is:=λw cs x=>∃v0:Value,cs=[.string x.name,.int .i64 x.group,.int .i64 x.jY,.int .i64 x.jC,.int .i64 x.default,.bool x.snap,v0]∧x.name.size≤maxLen∧bE x.group∧bE x.jY∧bE x.jC∧bE x.default∧(ef qW).is w [v0] x.ranges
 len:=λh=>by obtain⟨v0,rfl,_⟩:=h;rfl
 mono:=λ{w w' cs x}h g=>by obtain⟨v0,e,h0,h1,h2,h3,h4,h5⟩:=h;exact⟨v0,e,h0,h1,h2,h3,h4,((ef qW)).mono h5 g⟩
 cR:=λx=>mF.cR x.name+(fO.cR x.group+(fO.cR x.jY+(fO.cR x.jC+(fO.cR x.default+(Cw.cR x.snap+((ef qW).cR x.ranges))))))
theorem Rw:Reads Try.prog qV 68:=
 (QH (F:=λ_=>True) Try.underlying68 (c0:=mF) (c1:=fO) (c2:=fO) (c3:=fO) (c4:=fO) (c5:=Cw) (c6:=(ef qW)) (by kernel_rfl) rfl rfl rfl rfl rfl rfl rfl (by kernel_rfl) (by kernel_rfl) (by kernel_rfl) (by kernel_rfl) (by kernel_rfl) (by kernel_rfl) (by kernel_rfl) (wC Try.underlying9) (mN Try.underlying3) (mN Try.underlying3) (mN Try.underlying3) (mN Try.underlying3) (Sa Try.underlying4) Q8).imp λw cs a h=>by obtain⟨a0,a1,a2,a3,a4,a5,a6⟩:=a;obtain⟨h0,h1,h2,h3,h4,h5,h6⟩:=h;obtain⟨e0,b0⟩:=h0;obtain⟨e1,b1⟩:=h1;obtain⟨e2,b2⟩:=h2;obtain⟨e3,b3⟩:=h3;obtain⟨e4,b4⟩:=h4;have e5:=h5;simp only[Cw]at e5;obtain⟨s6,e6⟩:=oK.1 (((ef qW)).len h6);rw[e6]at h6;have WL:=jl e5 e6;have WK:=jl e4 WL;have WJ:=jl e3 WK;have GB:=jl e2 WJ;have rC:=jl e1 GB;have lK:=jl e0 rC;exact⟨⟨a0,a1,a2,a3,a4,a5,a6⟩,⟨s6,by rw[lK];rfl,b0,b1,b2,b3,b4,h6⟩,bH _⟩
theorem Q6:Reads Try.prog (ef qV) 93:=wm Try.underlying93 (c:=qV) (by kernel_rfl) (by decide) Rw
def qM:cZ cQ where
 size:=3
 is:=λw cs x=>∃v0:Value,cs=[.string x.name,.int .i64 x.size,v0]∧x.name.size≤maxLen∧bE x.size∧(ef qV).is w [v0] x.params
 len:=λh=>by obtain⟨v0,rfl,_⟩:=h;rfl
 mono:=λ{w w' cs x}h g=>by obtain⟨v0,e,h0,h1,h2⟩:=h;exact⟨v0,e,h0,h1,((ef qV)).mono h2 g⟩
 cR:=λx=>mF.cR x.name+(fO.cR x.size+((ef qV).cR x.params))
theorem QE:Reads Try.prog qM 95:=
 (Ec (F:=λ_=>True) Try.underlying95 (c0:=mF) (c1:=fO) (c2:=(ef qV)) (by kernel_rfl) rfl rfl rfl (by kernel_rfl) (by kernel_rfl) (by kernel_rfl) (wC Try.underlying9) (mN Try.underlying3) Q6).imp λw cs a h=>by obtain⟨a0,a1,a2⟩:=a;obtain⟨h0,h1,h2⟩:=h;obtain⟨e0,b0⟩:=h0;obtain⟨e1,b1⟩:=h1;obtain⟨s2,e2⟩:=oK.1 (((ef qV)).len h2);rw[e2]at h2;have rC:=jl e1 e2;have lK:=jl e0 rC;exact⟨⟨a0,a1,a2⟩,⟨s2,by rw[lK];rfl,b0,b1,h2⟩,bH _⟩
theorem Qq:Reads Try.prog (ef qM) 22:=wm Try.underlying22 (c:=qM) (by kernel_rfl) (by decide) QE
def rq:cZ eF where
 size:=4
 is:=λw cs x=>cs=[.int .i64 x.aH,.string x.fV,.int .i64 x.univ,.int .i64 x.address]∧bE x.aH∧x.fV.size≤maxLen∧bE x.univ∧bE x.address
 len:=λh=>by obtain⟨rfl,_⟩:=h;rfl
 mono:=λh _=>h
 cR:=λx=>fO.cR x.aH+(mF.cR x.fV+(fO.cR x.univ+(fO.cR x.address)))
theorem Sb:Reads Try.prog rq 92:=
 (QG (F:=λ_=>True) Try.underlying92 (c0:=fO) (c1:=mF) (c2:=fO) (c3:=fO) (by kernel_rfl) rfl rfl rfl rfl (by kernel_rfl) (by kernel_rfl) (by kernel_rfl) (by kernel_rfl) (mN Try.underlying3) (wC Try.underlying9) (mN Try.underlying3) (mN Try.underlying3)).imp λw cs a h=>by obtain⟨a0,a1,a2,a3⟩:=a;obtain⟨h0,h1,h2,h3⟩:=h;obtain⟨e0,b0⟩:=h0;obtain⟨e1,b1⟩:=h1;obtain⟨e2,b2⟩:=h2;obtain⟨e3,b3⟩:=h3;have GB:=jl e2 e3;have rC:=jl e1 GB;have lK:=jl e0 rC;exact⟨⟨a0,a1,a2,a3⟩,⟨by rw[lK];rfl,b0,b1,b2,b3⟩,bH _⟩
theorem Ry:Reads Try.prog (ef rq) 23:=wm Try.underlying23 (c:=rq) (by kernel_rfl) (by decide) Sb
def Nz:cZ cK where
 size:=2
 is:=λw cs x=>∃v0 v1:Value,cs=[v0,v1]∧(ef qM).is w [v0] x.cE∧(ef rq).is w [v1] x.gC
 len:=λh=>by obtain⟨v0,v1,rfl,_⟩:=h;rfl
 mono:=λ{w w' cs x}h g=>by obtain⟨v0,v1,e,h0,h1⟩:=h;exact⟨v0,v1,e,((ef qM)).mono h0 g,((ef rq)).mono h1 g⟩
 cR:=λx=>(ef qM).cR x.cE+((ef rq).cR x.gC)
theorem SY:Reads Try.prog Nz 25:=
 (Eb (F:=λ_=>True) Try.underlying25 (c0:=(ef qM)) (c1:=(ef rq)) (by kernel_rfl) rfl rfl (by kernel_rfl) (by kernel_rfl) Qq Ry).imp λw cs a h=>by obtain⟨a0,a1⟩:=a;obtain⟨h0,h1⟩:=h;obtain⟨s0,e0⟩:=oK.1 (((ef qM)).len h0);rw[e0]at h0;obtain⟨s1,e1⟩:=oK.1 (((ef rq)).len h1);rw[e1]at h1;have lK:=jl e0 e1;exact⟨⟨a0,a1⟩,⟨s0,s1,by rw[lK];rfl,h0,h1⟩,bH _⟩
def GV:cZ bB where
 size:=2
 is:=λw cs x=>cs=[.int .i64 x.unit,.string x.param]∧bE x.unit∧x.param.size≤maxLen
 len:=λh=>by obtain⟨rfl,_⟩:=h;rfl
 mono:=λh _=>h
 cR:=λx=>fO.cR x.unit+(mF.cR x.param)
theorem SX:Reads Try.prog GV 35:=
 (Eb (F:=λ_=>True) Try.underlying35 (c0:=fO) (c1:=mF) (by kernel_rfl) rfl rfl (by kernel_rfl) (by kernel_rfl) (mN Try.underlying3) (wC Try.underlying9)).imp λw cs a h=>by obtain⟨a0,a1⟩:=a;obtain⟨h0,h1⟩:=h;obtain⟨e0,b0⟩:=h0;obtain⟨e1,b1⟩:=h1;have lK:=jl e0 e1;exact⟨⟨a0,a1⟩,⟨by rw[lK];rfl,b0,b1⟩,bH _⟩
def qO:cZ aA where
 size:=3
 is:=λw cs x=>cs=[.int .i64 x.key.unit,.string x.key.param,.int .i64 x.level]∧bE x.key.unit∧x.key.param.size≤maxLen∧bE x.level
 len:=λh=>by obtain⟨rfl,_⟩:=h;rfl
 mono:=λh _=>h
 cR:=λx=>GV.cR x.key+(fO.cR x.level)
theorem QF:Reads Try.prog qO 37:=
 (Eb (F:=λ_=>True) Try.underlying37 (c0:=GV) (c1:=fO) (by kernel_rfl) rfl rfl (by kernel_rfl) (by kernel_rfl) SX (mN Try.underlying3)).imp λw cs a h=>by obtain⟨a0,a1⟩:=a;obtain⟨h0,h1⟩:=h;obtain⟨e0,b0⟩:=h0;obtain⟨Wz,WA⟩:=b0;obtain⟨e1,b1⟩:=h1;have lK:=jl e0 e1;exact⟨⟨a0,a1⟩,⟨by rw[lK];rfl,Wz,WA,b1⟩,bH _⟩
theorem IT:Reads Try.prog (ef qO) 29:=wm Try.underlying29 (c:=qO) (by kernel_rfl) (by decide) QF
def Cf:cZ aT where
 size:=3
 is:=λw cs x=>∃v0:Value,cs=[.int .i64 x.aH,.string x.title,v0]∧bE x.aH∧x.title.size≤maxLen∧(ef qO).is w [v0] x.bY
 len:=λh=>by obtain⟨v0,rfl,_⟩:=h;rfl
 mono:=λ{w w' cs x}h g=>by obtain⟨v0,e,h0,h1,h2⟩:=h;exact⟨v0,e,h0,h1,((ef qO)).mono h2 g⟩
 cR:=λx=>fO.cR x.aH+(mF.cR x.title+((ef qO).cR x.bY))
theorem Q7:Reads Try.prog Cf 46:=
 (Ec (F:=λ_=>True) Try.underlying46 (c0:=fO) (c1:=mF) (c2:=(ef qO)) (by kernel_rfl) rfl rfl rfl (by kernel_rfl) (by kernel_rfl) (by kernel_rfl) (mN Try.underlying3) (wC Try.underlying9) IT).imp λw cs a h=>by obtain⟨a0,a1,a2⟩:=a;obtain⟨h0,h1,h2⟩:=h;obtain⟨e0,b0⟩:=h0;obtain⟨e1,b1⟩:=h1;obtain⟨s2,e2⟩:=oK.1 (((ef qO)).len h2);rw[e2]at h2;have rC:=jl e1 e2;have lK:=jl e0 rC;exact⟨⟨a0,a1,a2⟩,⟨s2,by rw[lK];rfl,b0,b1,h2⟩,bH _⟩
theorem QD:Reads Try.prog (ef Cf) 40:=wm Try.underlying40 (c:=Cf) (by kernel_rfl) (by decide) Q7
end
section
open Go.RowKit Go.Deep
section
variable {c : RC}
theorem sR:az c [] []:=by simp [az]
theorem eR{a:AV}{v:Value}{l:an}{vs:List Value}(h:ak c a v)(k:az c l vs):az c (a::l) (v::vs):=by simp only[az];exact⟨v,vs,rfl,h,k⟩
theorem mg(k:IntKind)(n:Int):ak c (.int k n) (.int k n):=by simp [ak]
theorem KX(b:Bool):ak c (.bool b) (.bool b):=by simp [ak]
theorem uD(s:ByteArray):ak c (.str s) (.string s):=by simp [ak]
def RP{α:Type}(c:RC)(d:cZ α)(e:α→an)(ok:α→Prop):Prop:=∀cs x,d.is c.w cs x→az c (e x) cs∧ok x∧(∀v∈cs,b8 v=true)
theorem KW:∀{l:an}{vs:List Value},az c l vs→l.length=vs.length
 |[],vs,h=>by simp only[az]at h;subst h;rfl
 |a::l,vs,h=>by simp only[az]at h;obtain⟨v,vs',rfl,_,h⟩:=h;simp [KW h]
theorem KU{b:Nat}:∀{l:an}{vs:List Value}{off:Nat},az c l vs→(∀v∈vs,b8 v=true)→(∀j,j<vs.length→c.w.cell? ⟨b,off+j,none⟩=vs[j]?)→aS c b off l
 |[],vs,off,h,_,_=>by simp [aS]
 |a::l,vs,off,h,ho,hc=>by simp only[az]at h;obtain⟨v,vs',rfl,h1,h2⟩:=h;simp only[aS];refine⟨⟨v,by simpa using hc 0 (by simp),ho v (by simp),h1⟩,KU h2 (λv hv=>ho v (by simp [hv])) λj hj=>?_⟩;have:=hc (j+1) (by simpa using hj);rw[show off+1+j=off+(j+1) by omega];simpa using this
theorem KV{α:Type}{d:cZ α}{e:α→an}{ok:α→Prop}(H:RP c d e ok){b sz:Nat}(hsz:d.size=sz):∀{l:List α}{off:Nat},(∀(i:Nat)(x:α),l[i]? =some x→∃cs',(∀j,j<d.size→c.w.cell? ⟨b,off+(i*d.size+j),none⟩=cs'[j]?)∧d.is c.w cs' x)→aW c sz b off (l.map e)∧∀x∈l,ok x
 |[],off,h=>by simp [aW]
 |x::l,off,h=>by
  obtain⟨cs,h1,h2⟩:=h 0 x rfl;obtain⟨k1,k2,k3⟩:=H cs x h2;have hl:cs.length=d.size:=d.len h2
  obtain⟨r1,r2⟩:=KV H hsz (l:=l) (off:=off+sz) (λi y hy=>by
   obtain⟨cs',q1,q2⟩:=h (i+1) y (by simpa using hy);refine⟨cs',λj hj=>?_,q2⟩;have:=q1 j hj;rw[←hsz]
   rwa[show off+d.size+(i*d.size+j)=off+((i+1)*d.size+j) by rw[Nat.succ_mul];omega])
  refine⟨?_,λy hy=>?_⟩
  ·simp only[eT,aW];refine⟨by rw[KW k1,hl,hsz],KU k1 k3 λj hj=>?_,r1⟩;have:=h1 j (by rw[←hl];exact hj);simpa using this
  ·rcases dc.1 hy with rfl|hy
   ·exact k2
   ·exact r2 y hy
theorem T8{w:World}{b off:Nat}{v:Value}(h:w.cell? ⟨b,off,none⟩=some v):b<w.heap.size:=by
 rcases Nat.lt_or_ge b w.heap.size with k|k
 ·exact k
 ·simp [World.cell?,Array.getElem?_eq_none k]at h
theorem uA{α:Type}{d:cZ α}{e:α→an}{ok:α→Prop}(hX:∀b,¬c.X b)(H:RP c d e ok){sz:Nat}(hsz:d.size=sz)(h0:0<sz){v:Value}{l:List α}(h:(ef d).is c.w [v] l):ak c (sl sz e l) v∧dI ok l∧b8 v=true:=by
 rcases h with⟨h1,rfl⟩|⟨b,off,sp,cap,h1,h2,h3,h4⟩
 ·simp only[List.cons.injEq,and_true]at h1;subst h1;exact⟨by simp [sl,ak,h0],⟨by simp,by simp⟩,rfl⟩
 ·simp only[List.cons.injEq,and_true]at h1;subst h1
  have tY:sp=none∨l=[]:=by
   cases l with
   |nil=>exact .inr rfl
   |cons x l=>exact .inl (h4 0 (by simp)).1
  have hh:∀(i:Nat)(x:α),l[i]? =some x→∃cs',(∀j,j<d.size→c.w.cell? ⟨b,off+(i*d.size+j),none⟩=cs'[j]?)∧d.is c.w cs' x:=by intro i x hx;obtain⟨hi,hx⟩:=bK.1 hx;subst hx;exact(h4 i hi).2
  obtain⟨r1,r2⟩:=KV H hsz hh;refine⟨?_,⟨by unfold maxLen at h3;unfold bV;omega,r2⟩,rfl⟩;simp only[sl,ak];refine⟨some ⟨b,off,sp⟩,cap,by simp,by simpa using h2,h0,?_⟩;rcases tY with rfl|rfl
  ·cases l with
   |nil=>exact .inl rfl
   |cons x l=>
    refine .inr ⟨b,off,rfl,?_,hX b,r1⟩;obtain⟨cs,q1,q2⟩:=hh 0 x rfl;have hl:cs.length=d.size:=d.len q2;have:=q1 0 (by omega);obtain⟨y,hy⟩:∃y,cs[0]? =some y:=⟨cs[0],bQ (by omega)⟩
    rw[hy]at this;exact T8 this
  ·exact .inl rfl
theorem uC:∀v∈([]:List Value),b8 v=true:=by simp
theorem gf{v:Value}{vs:List Value}(h:b8 v=true)(k:∀x∈vs,b8 x=true):∀x∈v::vs,b8 x=true:=by
 intro x hx;rcases dc.1 hx with rfl|hx
 ·exact h
 ·exact k x hx
theorem TI:RP c qW jN FI:=by rintro cs x ⟨rfl,h0,h1,h2⟩;exact⟨(eR (mg _ _) (eR (mg _ _) (eR (uD _) sR))),⟨h0,h1,(show eD _ by unfold eD bV;have:=h2;unfold maxLen at this;omega)⟩,(gf rfl (gf rfl (gf rfl uC)))⟩
theorem TH(hX:∀b,¬c.X b):RP c qV gK LB:=by rintro cs x ⟨v0,rfl,h0,h1,h2,h3,h4,h6⟩;obtain⟨r6,o6,n6⟩:=uA hX TI (sz:=3) rfl (by decide) h6;exact⟨(eR (uD _) (eR (mg _ _) (eR (mg _ _) (eR (mg _ _) (eR (mg _ _) (eR (KX _) (eR r6 sR))))))),⟨(show eD _ by unfold eD bV;have:=h0;unfold maxLen at this;omega),h1,h2,h3,h4,o6⟩,(gf rfl (gf rfl (gf rfl (gf rfl (gf rfl (gf rfl (gf n6 uC)))))))⟩
theorem Sd(hX:∀b,¬c.X b):RP c qM dY BJ:=by rintro cs x ⟨v0,rfl,h0,h1,h2⟩;obtain⟨r2,o2,n2⟩:=uA hX (TH hX) (sz:=7) rfl (by decide) h2;exact⟨(eR (uD _) (eR (mg _ _) (eR r2 sR))),⟨(show eD _ by unfold eD bV;have:=h0;unfold maxLen at this;omega),h1,o2⟩,(gf rfl (gf rfl (gf n2 uC)))⟩
theorem U2:RP c rq fM Mi:=by rintro cs x ⟨rfl,h0,h1,h2,h3⟩;exact⟨(eR (mg _ _) (eR (uD _) (eR (mg _ _) (eR (mg _ _) sR)))),⟨h0,(show eD _ by unfold eD bV;have:=h1;unfold maxLen at this;omega),h2,h3⟩,(gf rfl (gf rfl (gf rfl (gf rfl uC))))⟩
theorem VS(hX:∀b,¬c.X b):RP c Nz dM oI:=by rintro cs x ⟨v0,v1,rfl,h0,h1⟩;obtain⟨r0,o0,n0⟩:=uA hX (Sd hX) (sz:=3) rfl (by decide) h0;obtain⟨r1,o1,n1⟩:=uA hX U2 (sz:=4) rfl (by decide) h1;exact⟨(eR r0 (eR r1 sR)),⟨o0,o1⟩,(gf n0 (gf n1 uC))⟩
theorem JI:RP c qO ay uw:=by rintro cs x ⟨rfl,h0,h1,h2⟩;exact⟨(eR (mg _ _) (eR (uD _) (eR (mg _ _) sR))),⟨⟨h0,(show eD _ by unfold eD bV;have:=h1;unfold maxLen at this;omega)⟩,h2⟩,(gf rfl (gf rfl (gf rfl uC)))⟩
theorem SZ(hX:∀b,¬c.X b):RP c Cf aN qL:=by rintro cs x ⟨v0,rfl,h0,h1,h2⟩;obtain⟨r2,o2,n2⟩:=uA hX JI (sz:=3) rfl (by decide) h2;exact⟨(eR (mg _ _) (eR (uD _) (eR r2 sR))),⟨h0,(show eD _ by unfold eD bV;have:=h1;unfold maxLen at this;omega),o2⟩,(gf rfl (gf rfl (gf n2 uC)))⟩
theorem VT{α:Type}{d:cZ α}{e:α→an}{ok:α→Prop}(H:RP c d e ok){cs:Array Value}{x:α}(h:d.is c.w cs.toList x):ak c (.agg (e x)) (.agg cs)∧ok x:=by obtain⟨h1,h2,h3⟩:=H _ _ h;simp only[ak];exact⟨⟨cs,rfl,h1,h3⟩,h2⟩
end
end
section
open Go.RowKit
theorem VO{s:ByteArray}(h:s.size≤maxLen):eD s:=by unfold eD bV;unfold maxLen at h;omega
noncomputable def base (W:World):RC:=ctx ⟨W,[],λ_=>False,aF⟩ W [] bO
theorem Cj(W:World):∀b,¬(base W).X b:=by
 rintro b (k|⟨p,hp,_⟩|⟨i,k⟩)
 ·exact k
 ·cases hp
 ·cases k
theorem UC{n:FuncId}{m:an→Heap→au}{iK:an}(hs:Sound Try.prog aF n m)(hc:∀us w,(callFunc n us).run Try.prog w=.ok (.enter n us) w)(W:World)(vs:Array Value)(hr:az (base W) iK vs.toList)(hm:m iK []=some (.bool true,[])):
  Calls Try.prog n vs W λe W'=>e=.returned (.bool true)∧Below W.heap.size W W':=by
 have xI:dR (ctx ⟨W,[],λ_=>False,aF⟩ W [] bO) []:=by
  refine⟨rfl,λi j p q hp=>?_,λi p x hp=>?_⟩
  ·simp [ctx]at hp
  ·simp [ctx]at hp
 rcases hs _ _ _ _ hm with⟨g,h1,h2⟩|hv
 case inr=>
  obtain⟨v,w',E',k1,_⟩:=hv ⟨W,[],λ_=>False,aF⟩ vs rfl (λb k=>k.elim) xI hr;rw[hc]at k1;injection k1 with k1
  cases k1
 have hg:g=n:=by
  have e1:=h1 #[] W;rw[hc #[] W]at e1;injection e1 with e1
  injection e1 with e1
  exact e1.symm
 subst hg
 have hh:dR (ctx ⟨W,[],λ_=>False,aF⟩ W [] bO) []:=by
  refine⟨rfl,λi j p q hp=>?_,λi p x hp=>?_⟩
  ·simp [ctx]at hp
  ·simp [ctx]at hp
 refine(h2 ⟨W,[],λ_=>False,aF⟩ vs rfl (λb k=>k.elim) hh hr).mono ?_;rintro e w' ⟨v,E',rfl,ho,_,hv⟩;simp only[ak]at hv;subst hv;exact⟨rfl,ho.os,ho.tape,ho.output,ho.size,λk hk=>ho.stay k hk (λp hp=>by cases hp)⟩
end
end Go.Proofs.Ytjjjjbgohkklnaa
