/- Parts of the proof of PickPresetsMatchSpec, in order. -/
import Derived.Orders
import Derived.Below
import Derived.WalkKit
import Derived.Laws.StructEq
import Derived.Laws.Append
import Derived.Laws.AppendOwn
import Derived.Test.YtjjjjbgohkklnaaRows
import Derived.KernelRfl
import Derived.Lib.Bytealg
import Derived.Sort.Defs
import Derived.Lib.BitFns
import Derived.Test.YtjjjjbgohkklnaaShelf
import Derived.Lib.Overlaps
import Derived.IntWalk
import Derived.Lib.Strings
import Derived.Sort.Statements
import Derived.WalkSpells
import Derived.ProofKit
import Derived.OpenShut
import Derived.Lib.Hide
import Derived.Lib.SmallJoins
import Derived.Deep.QuietTactic
import Derived.BigQuiet
import Derived.Deep.RegionHeld3
import Derived.Deep.Slices
import Derived.Test.YtjjjjbgohkklnaaKPickPresetsMatchSpec3
namespace Go.Proofs.Ytjjjjbgohkklnaa
set_option linter.unusedVariables false
set_option linter.unusedSimpArgs false
set_option linter.unusedSectionVars false
def Qp(l:List EV):Prop:=l.Pairwise λa b=>iT a.key b.key=true
structure Good (l : List uD) : Prop where
 len:l.length≤300
 num:∀c∈l,1≤c.aF∧c.aF≤9999999
 vu:l.Pairwise λa b=>a.aF<b.aF
 mv:∀c∈l,c.E4.length≤2000∧Qp c.E4
 pts:∀c∈l,c.IK.YA.length≤20
theorem LW{α:Type}[Inhabited α]{r:α→α→Prop}(tr:∀a b c,r a b→r b c→r a c):∀(l:List α),(∀i x,l[i+1]? =some x→r (l[i]?.getD default) x)→l.Pairwise r
 |[],_=>List.Pairwise.nil
 |[a],_=>by simp
 |a::b::l,h=>by
  have ih:=LW tr (b::l) (λi x hx=>h (i+1) x hx);have hab:r a b:=h 0 b rfl;refine List.pairwise_cons.2 ⟨λx hx=>?_,ih⟩;rcases eu.1 hx with rfl|hx
  ·exact hab
  ·exact tr _ _ _ hab ((List.pairwise_cons.1 ih).1 x hx)
section
theorem XF{α:Type}[Inhabited α](l:List α)(i:Nat):pv l (i+1)=l[i]?.getD default:=by simp [pv,List.getD_eq_getElem?_getD]
structure aat (l : List uD) : Prop where
 len:l.length≤300
 num:∀c∈l,1≤c.aF∧c.aF≤9999999
 vu:l.Pairwise λa b=>a.aF<b.aF
section
variable {α R γ S B : Type}
end
end
section
open HP
def Lt(σ:Heap)(sh:Sh)(v t:AV):Prop:=(∃v',A.bM σ 0 8 v=some v'∧A.own v'=false∧A.nn sh v'=A.nn sh t)∧A.own t=false∧(A.own v=false→A.nn sh v=A.nn sh t)
def Fo(σ:Heap):List Sh→aq→aq→Prop
 |_,[],[]=>True
 |[],a::cz,t::ts=>Lt σ .k a t∧Fo σ [] cz ts
 |s::ss,a::cz,t::ts=>Lt σ s a t∧Fo σ ss cz ts
 |_,_,_=>False
theorem j0(v:AV):A.nn .k v=v:=by simp [A.nn]
theorem Kb{σ:Heap}:∀{ss:List Sh}{cz ts:aq},Fo σ ss cz ts→(∃wg,A.dr σ 0 8 cz=some wg∧wg.any A.own=false∧A.cj ss wg=A.cj ss ts)∧ts.any A.own=false∧(cz.any A.own=false→A.cj ss cz=A.cj ss ts)
 |ss,[],[],_=>⟨⟨[],by simp [A.dr],rfl,rfl⟩,rfl,λ_=>rfl⟩
 |[],a::cz,t::ts,h=>by obtain⟨⟨⟨v',h1,h2,h3⟩,h4,h5⟩,h6⟩:=h;obtain⟨⟨wg,k1,k2,k3⟩,k4,k5⟩:=Kb h6;rw[j0,j0]at h3;simp only[A.cj]at k3 k5;refine⟨⟨v'::wg,by simp [A.dr,h1,k1],by simp [h2,k2],by simp [A.cj,h3,k3]⟩,by simp [h4,k4],λh=>?_⟩;simp only[List.any_cons,jY]at h;have:=h5 h.1;rw[j0,j0]at this;simp [A.cj,this,k5 h.2]
 |s::ss,a::cz,t::ts,h=>by obtain⟨⟨⟨v',h1,h2,h3⟩,h4,h5⟩,h6⟩:=h;obtain⟨⟨wg,k1,k2,k3⟩,k4,k5⟩:=Kb h6;refine⟨⟨v'::wg,by simp [A.dr,h1,k1],by simp [h2,k2],by simp [A.cj,h3,k3]⟩,by simp [h4,k4],λh=>?_⟩;simp only[List.any_cons,jY]at h;simp [A.cj,h5 h.1,k5 h.2]
 |_,[],_::_,h=>by cases h
 |[],_::_,[],h=>by cases h
 |_::_,_::_,[],h=>by cases h
theorem Jp{dB:List Sh}{dM:Sh}{r:aq→Heap→aB}{cz ts:aq}{σ:Heap}{v:AV}(h:Fo σ dB cz ts)(e:∀σ,A.wrap true dB dM r ts σ=some (v,σ))(hs:A.yc v=true):A.wrap true dB dM r cz σ=some (v,σ):=by
 obtain⟨⟨wg,k1,k2,k3⟩,k4,k5⟩:=Kb h;cases ho:cz.any A.own
 ·rw[OA (k5 ho) ho k4];exact e σ
 ·exact NL ho k1 k2 (by rw[OA k3 k2 k4];exact e []) hs
theorem Pz{σ:Heap}{sh:Sh}{v:AV}(h:Fz v)(ho:A.own v=false):Lt σ sh v v:=⟨⟨v,h σ 0 8,ho,rfl⟩,ho,λ_=>rfl⟩
theorem Yn{σ:Heap}(n:Int):Lt σ .k (.aj n) (.aj n):=Pz (z7 _ _) rfl
section
variable {α : Type} {c : α → aq} {sz : Nat} {B : bu → Prop} {aO σ : Heap} {R : HP} {v : AV} {l : List α}
theorem qP(H:Hs B aO σ (Sl (fl c) sz v l*R)):(l=[]∧(v=.au∨v=.ez)∧Hs B aO σ R)∨∃id g,v=.os id g sz 0 l.length∧Hs B aO σ (blk id (.arr g sz (l.map c))*R):=by
 rcases By H with h|⟨id,g,seg,rfl,hl,H⟩
 ·exact .inl h
 ·have K:=zZ.1 (kI (show _=els (fl c) seg l*(blk id (.arr g sz seg)*R) by ac_rfl) H);obtain⟨rfl,K⟩:=K;exact .inr ⟨id,g,rfl,K⟩
theorem O4{id g:Nat}{n:Nat}(H:Hs B aO σ (blk id (.arr g sz (l.map c))*R))(hn:n=l.length:=by rfl):Hs B aO σ (Sl (fl c) sz (.os id g sz 0 n) l*R):=
 xI (id:=id) (g:=g) (seg:=l.map c) (kI (show els (fl c) (l.map c) l*(blk id (.arr g sz (l.map c))*R)=_ by ac_rfl) (zZ.2 ⟨rfl,H⟩)) hn
theorem Yb(hc:∀x,lN (c x)){id g:Nat}(h:σ[id]? =some (.arr g sz (l.map c))){n:Nat}(hn:¬id<n)(d:Nat):A.bM σ n (d+1) (.os id g sz 0 l.length)=some (sl sz c l):=by simp only[A.bM,aQ hn,h];rw[aP (by simp),List.drop_zero,jh (by simp),Br,PW hc];rfl
theorem IG(H:Hs B aO σ (Sl (fl c) sz v l*R))(hc:∀x,lN (c x)){n:Nat}(hn:n≤aO.length)(d:Nat):∃v',A.bM σ n (d+1) v=some v'∧A.Jr v'=false∧A.nn (.s sz) v'=sl sz c l:=by
 rcases qP H with⟨rfl,rfl|rfl,_⟩|⟨id,g,rfl,K⟩
 ·exact⟨.au,by simp [A.bM],rfl,rfl⟩
 ·exact⟨.ez,by simp [A.bM],rfl,rfl⟩
 ·obtain⟨h1,h2⟩:=qj K;exact⟨_,Yb hc h2 (by omega) d,rfl,rfl⟩
theorem ON{P:HP}(H:Hs B aO σ P):Hs eD aO σ P:=⟨by obtain⟨bs,h,_⟩:=H.pre;exact⟨bs,h,λ_ _=>trivial⟩,H.own⟩
end
section
variable {α : Type} {E : aq → α → HP} {sz : Nat} {aO σ : Heap} {R : HP} {v : AV} {l : List α}
end
def YN(x:uD)(vp vm:AV):aq:=[.aj x.aF,.str x.title,.aj x.IL,.aj x.up,.aj x.down,.aj x.other,.aj x.IK.kind,vp,.bool x.block,.aj x.OL,vm]
section
variable {B : bu → Prop} {aO σ : Heap} {R : HP} {M : AV → List EV → HP} {e : aq} {x : uD}
variable {v : AV} {l : List uD}
end
end
section
open HP
theorem Ie{α:Type}{f:aq→Heap→Option LS}{Q:LS→Prop}(l:List α)(I:Nat→aq→Heap→Prop){v0:aq}{σ:Heap}
  (hstep:∀i x v σ,l[i]? =some x→I i v σ→∃v' σ',f v σ=some (.normal,v',σ')∧I (i+1) v' σ')
  (hend:∀v σ,I l.length v σ→∃q,f v σ=some q∧q.1≠.normal∧Q q) (h0:I 0 v0 σ):∃q,A.loop f v0 σ=some q∧Q q:=by
 have key:∀(k i:Nat)v σ,l.length-i≤k→i≤l.length→I i v σ→∃q,(∃n,A.iter f n v σ=some q)∧Q q:=by
  intro k;induction k with
  |zero=>
   intro i v σ hk hle hI;have:i=l.length:=by omega
   subst this;obtain⟨q,h1,h2,h3⟩:=hend v σ hI;exact⟨q,qh h1 h2,h3⟩
  |succ k ih=>
   intro i v σ hk hle hI;by_cases hi:i<l.length
   ·obtain⟨v',σ',h1,h2⟩:=hstep i _ v σ (cu hi) hI;obtain⟨q,hq,hQ⟩:=ih (i+1) v' σ' (by omega) (by omega) h2;exact⟨q,zG h1 hq,hQ⟩
   ·have:i=l.length:=by omega
    subst this;obtain⟨q,h1,h2,h3⟩:=hend v σ hI;exact⟨q,qh h1 h2,h3⟩
 obtain⟨q,⟨n,hn⟩,hQ⟩:=key _ 0 v0 σ (bU _) (lH _) h0;exact⟨q,w9 hn,hQ⟩
theorem Ix{β:Type}{f:aq→Heap→Option LS}{K:LS→Option β}{v0:aq}{σ:Heap}{P:β→Prop}{Q:LS→Prop}(h:∃q,A.loop f v0 σ=some q∧Q q)(k:∀q,Q q→∃b,K q=some b∧P b):∃b,(A.loop f v0 σ).bind K=some b∧P b:=by obtain⟨q,h1,h2⟩:=h;obtain⟨b,h3,h4⟩:=k q h2;exact⟨b,by rw[h1];exact h3,h4⟩
section
variable {α : Type} {c : α → aq} {sz : Nat} {B : bu → Prop} {aO σ : Heap} {R : HP} {v : AV} {l : List α}
theorem WU{most:Nat}{m r:aq→Heap→aB}{r0:AV→Heap→aB}(hm:m=A.EP (A.wrap true [(.s sz)] .k (A.eP r0)))(hr:∀a σ,r0 a σ=(A.Fp a .au).bind λx1=>A.cond x1 (some (.au,σ)) ((A.append sz most .ez a σ).bind λr2=>some (r2.1,r2.2)))
  (hl:l.length≤most) (hB:∀g g' seg,(seg=[]∨B (.arr g sz seg))→B (.arr g' sz (seg++l.map c))) (H:Hs B aO σ R):∃v σ',m [sl sz c l] σ=some (v,σ')∧A.cell v=some v∧Hs B aO σ' (Sl (fl c) sz v l*R):=by
 subst hm;cases l with
 |nil=>exact⟨.ez,σ,rfl,rfl,vr H (.inr rfl)⟩
 |cons x l=>
  obtain⟨v',σ',e1,H2⟩:=IF (B:=B) (E:=fl c) (sz:=sz) (v:=.ez) (l:=[]) (ys:=(x::l).map c) (xs:=x::l) (most:=most) (vr (zZ.2 ⟨rfl,H⟩) (.inr rfl)) (by simpa using hl) hB
  have hv:A.cell v'=some v':=by
   rcases qP H2 with⟨h,_,_⟩|⟨id,g,rfl,_⟩
   ·cases h
   ·rfl
  refine⟨v',σ',?_,hv,H2⟩;show A.wrap true [(.s sz)] .k (A.eP r0) [sl sz c (x::l)] σ=_;refine wrap_eq rfl ?_ rfl;show r0 (sl sz c (x::l)) σ=_;rw[hr,show A.Fp (sl sz c (x::l)) .au=some (.bool false)from rfl,aM,bT,show sl sz c (x::l)=.sl sz ((x::l).map c)from rfl,e1];rfl
end
section
variable {aO σ : Heap} {R : HP}
end
end
section
open HP
theorem kG{f:aq→Heap→Option LS}{Q:LS→Prop}(I:Nat→aq→Heap→Prop)(hstep:∀n v σ,I n v σ→(∃m v' σ',m<n∧f v σ=some (.normal,v',σ')∧I m v' σ')∨∃q,f v σ=some q∧q.1≠.normal∧Q q){n:Nat}{v0:aq}{σ:Heap}(h0:I n v0 σ):∃q,A.loop f v0 σ=some q∧Q q:=by
 have key:∀(k n:Nat)v σ,n≤k→I n v σ→∃q,(∃m,A.iter f m v σ=some q)∧Q q:=by
  intro k;induction k with
  |zero=>
   intro n v σ hn hI;rcases hstep n v σ hI with⟨m,_,_,hm,_⟩|⟨q,h1,h2,h3⟩
   ·omega
   ·exact⟨q,qh h1 h2,h3⟩
  |succ k ih=>
   intro n v σ hn hI;rcases hstep n v σ hI with⟨m,v',σ',hm,h1,h2⟩|⟨q,h1,h2,h3⟩
   ·obtain⟨q,hq,hQ⟩:=ih m v' σ' (by omega) h2;exact⟨q,zG h1 hq,hQ⟩
   ·exact⟨q,qh h1 h2,h3⟩
 obtain⟨q,⟨m,hm⟩,hQ⟩:=key n n v0 σ (bU _) h0;exact⟨q,w9 hm,hQ⟩
theorem gT(X d:Option AV):A.guard (.bool true) true X d=X:=by have h:A.guard (.bool true) true X d=X:=rfl;exact h.trans (Eq.refl X)
theorem gF(X d:Option AV):A.guard (.bool false) false X d=X:=by have h:A.guard (.bool false) false X d=X:=rfl;exact h.trans (Eq.refl X)
theorem qD(X d:Option AV):A.guard (.bool false) true X d=d:=by have h:A.guard (.bool false) true X d=d:=rfl;exact h.trans (Eq.refl d)
theorem Fq(X d:Option AV):A.guard (.bool true) false X d=d:=by have h:A.guard (.bool true) false X d=d:=rfl;exact h.trans (Eq.refl d)
theorem bS{α β:Type}(a:α)(f:α→Option β):(some a).bind f=f a:=by have h:(some a).bind f=f a:=rfl;exact h.trans (Eq.refl (f a))
theorem hJ(n:Nat){α:Type}{X Y:α}:(bif (AX.exit n==AX.exit n)then X else Y)=X:=by rw[show(AX.exit n==AX.exit n)=true from beq_self_eq_true _];rfl
theorem tN(x y:AV):A.pick (.bool false) x y=some y:=rfl
theorem ng(x y:AV):A.pick (.bool true) x y=some x:=rfl
theorem wz:A.not (.bool true)=some (.bool false):=rfl
theorem xV:A.not (.bool false)=some (.bool true):=rfl
end
section
set_option maxRecDepth 100000
abbrev bC(id g n:Nat):AV:=.os id g 3 0 n
abbrev bF(g:Nat)(l:List aN):bu:=.arr g 3 (l.map aC)
theorem rz{a b:Nat}(h:a+b<4611686018427387904):A.add (.int .i64 (a:Int)) (.int .i64 (b:Int))=some (.int .i64 ((a+b:Nat):Int)):=by rw[Ak,cW (by unfold bp;omega)];rfl
theorem kK{a:Nat}(h:a+1<4611686018427387904):A.add (.int .i64 (a:Int)) (.int .i64 1)=some (.int .i64 ((a+1:Nat):Int)):=rz (b:=1) h
theorem oF{a b:Nat}(h:b≤a)(h2:a<4611686018427387904):A.sub (.int .i64 (a:Int)) (.int .i64 (b:Int))=some (.int .i64 ((a-b:Nat):Int)):=by rw[Al,cW (by unfold bp;omega),Int.ofNat_sub h]
theorem E6{a:Nat}(h:1≤a)(h2:a<4611686018427387904):A.sub (.int .i64 (a:Int)) (.int .i64 1)=some (.int .i64 ((a-1:Nat):Int)):=oF (b:=1) h h2
theorem fZ(a b:Nat):A.lss (.int .i64 (a:Int)) (.int .i64 (b:Int))=some (.bool (decide (a<b))):=by rw[qY];congr 2;rw[decide_eq_decide];omega
theorem Fk(a b:Nat):A.gtr (.int .i64 (a:Int)) (.int .i64 (b:Int))=some (.bool (decide (b<a))):=by rw[we];congr 2;rw[decide_eq_decide];omega
theorem Qh(a b:Nat):A.leq (.int .i64 (a:Int)) (.int .i64 (b:Int))=some (.bool (decide (a≤b))):=by rw[I4];congr 2;rw[decide_eq_decide];omega
theorem nNe(a b:Nat):A.neq .i (.int .i64 (a:Int)) (.int .i64 (b:Int))=some (.bool (decide (a≠b))):=by rw[rF];congr 2;rw[decide_eq_decide];omega
section
variable {id g n : Nat} {W : Heap} {l : List aN}
theorem lg{i:Nat}(h:i<n):A.aK 3 (bC id g n) (.int .i64 (i:Int))=some (.oe id g i 0):=by
 have:((i:Int)<(n:Int)):=by omega
 simp [A.aK,A.idx,this]
theorem n5{i:Nat}{x:aN}(h:W[id]? =some (bF g l))(hx:l[i]? =some x):((A.deref (.oe id g i 0) W).bind λc=>A.aA 0 3 c)=some (.agg (aC x)):=by simp only[A.deref,h,if_true,Aj,hx,eO,List.drop_zero];rfl
theorem p7(x:aN):A.cells 3 (.agg (aC x))=some (aC x):=rfl
theorem vE{i:Nat}(y:aN)(h:W[id]? =some (bF g l))(hi:i<l.length):A.storeAt (.oe id g i 0) (aC y) W=some (W.set id (bF g (l.set i y))):=by
 have hx:(l.map aC)[i]? =some (aC l[i]):=by rw[Aj,cu hi];rfl
 simp only[A.storeAt,h,if_true,hx,aM];rw[show A.aH 0 (aC y) (aC l[i])=some (aC y)from rfl,eO];show _=some (W.set id (.arr g 3 ((l.set i y).map aC)));rw[List.map_set]
theorem lM(h:W[id]? =some (bF g l))(l':List aN):(W.set id (bF g l'))[id]? =some (bF g l'):=by have:=(cq.1 h).1;rw[l8 this]
theorem oq(h:W[id]? =some (bF g l)):W.set id (bF g l)=W:=by obtain⟨hl,e⟩:=cq.1 h;rw[←e];exact List.set_getElem_self hl
end
theorem E8{α:Type}(U V Z:List α)(x y:α):(U++x::(V++y::Z))[U.length]? =some x∧(U++x::(V++y::Z))[U.length+1+V.length]? =some y∧((U++x::(V++y::Z)).set U.length y).set (U.length+1+V.length) x=U++y::(V++x::Z)∧((U++x::(V++y::Z)).set (U.length+1+V.length) x).set U.length y=U++y::(V++x::Z):=by
 have e1:∀(a:α)(T:List α),(U++a::T).set U.length y=U++y::T:=λa T=>by rw[qt _ _ (bU _),Nat.sub_self];rfl
 have e2:∀a,(U++a::(V++y::Z)).set (U.length+1+V.length) x=U++a::(V++x::Z):=λa=>by rw[qt _ _ (by omega),show U.length+1+V.length-U.length=V.length+1 by omega,List.set_cons_succ,qt _ _ (bU _),Nat.sub_self];rfl
 refine⟨?_,?_,?_,?_⟩
 ·rw[fD (bU _),Nat.sub_self];rfl
 ·rw[fD (by omega),show U.length+1+V.length-U.length=V.length+1 by omega,List.getElem?_cons_succ,fD (bU _),Nat.sub_self];rfl
 ·rw[e1,e2]
 ·rw[e2,e1]
theorem UA{id g:Nat}{W:Heap}{P X M Y Q:List aN}(hn:X.length=Y.length)(hl:(P++X++M++Y++Q).length<1000000000000)(h:W[id]? =some (bF g (P++X++M++Y++Q)))(f:AV):
  tU [bC id g (P++X++M++Y++Q).length,.int .i64 (P.length:Int),.int .i64 ((P.length+X.length+M.length:Nat):Int),.int .i64 (X.length:Int),f] W=some (.aD [],W.set id (bF g (P++Y++M++X++Q))):=by
 suffices hr:zc (bC id g (P++X++M++Y++Q).length) (.int .i64 (P.length:Int)) (.int .i64 ((P.length+X.length+M.length:Nat):Int)) (.int .i64 (X.length:Int)) f W=some (.aD [],W.set id (bF g (P++Y++M++X++Q))) by show(A.nH zc _ W).map _=_;have:A.nH zc (A.cj [] [bC id g (P++X++M++Y++Q).length,.int .i64 (P.length:Int),.int .i64 ((P.length+X.length+M.length:Nat):Int),.int .i64 (X.length:Int),f]) W=_:=hr;rw[this];rfl
 unfold zc;obtain⟨N,hN⟩:∃N,N=(P++X++M++Y++Q).length:=⟨_,rfl⟩
 have oI:N=P.length+X.length+M.length+Y.length+Q.length:=by rw[hN];simp;omega
 rw[←hN]at hl ⊢;obtain⟨L,hL⟩:∃L:Nat→List aN,L=λi=>P++(Y.take i++X.drop i)++M++(X.take i++Y.drop i)++Q:=⟨_,rfl⟩
 have hL0:L 0=P++X++M++Y++Q:=by rw[hL];simp
 have hLn:L X.length=P++Y++M++X++Q:=by rw[hL];simp [jh (Nat.le_of_eq hn.symm),List.drop_of_length_le (Nat.le_of_eq hn.symm)]
 have tJ:∀i,(L i).length=N:=λi=>by rw[hL,oI];simp;omega
 have yN:∃q,A.loop ((λv1 s2=>
   (A.lss (ah v1 0) (AV.int .i64 (X.length:Int))).bind λx4=>
   A.cond x4 (
    (A.add (AV.int .i64 (P.length:Int)) (ah v1 0)).bind λx5=>
    (A.add (AV.int .i64 ((P.length+X.length+M.length:Nat):Int)) (ah v1 0)).bind λx6=>
    (A.add (AV.int .i64 ((P.length+X.length+M.length:Nat):Int)) (ah v1 0)).bind λx7=>
    (A.aK 3 (bC id g N) x7).bind λx8=>
    ((A.deref x8 s2).bind λc9=>A.aA 0 3 c9).bind λaS=>
    (A.add (AV.int .i64 (P.length:Int)) (ah v1 0)).bind λbI=>
    (A.aK 3 (bC id g N) bI).bind λbD=>
    ((A.deref bD s2).bind λkU=>A.aA 0 3 kU).bind λbG=>
    (A.aK 3 (bC id g N) x5).bind λaW=>
    (A.cells 3 aS).bind λjE=>
    (A.storeAt aW jE s2).bind λiz=>
    (A.aK 3 (bC id g N) x6).bind λbz=>
    (A.cells 3 bG).bind λnJ=>
    (A.storeAt bz nJ iz).bind λdN=>
    (A.add (ah v1 0) cJ).bind λaT=>
    some (AX.normal,[aT],dN)) (
    some (AX.exit 0,[(ah v1 0)],s2)))) [.int .i64 0] W=some q∧q=(.exit 0,[.int .i64 (X.length:Int)],W.set id (bF g (L X.length))):=by
  refine kG (λz u w=>∃i:Nat,i≤X.length∧u=[.int .i64 (i:Int)]∧z=X.length-i∧w=W.set id (bF g (L i))) ?_ (n:=X.length) ⟨0,lH _,rfl,rfl,by rw[hL0,oq h]⟩;rintro z u w ⟨i,hi,rfl,hz,rfl⟩;simp only[ct,dg];rw[fZ,bS];by_cases hlt:i<X.length
  ·have ex:X.drop i=X[i]::X.drop (i+1):=List.drop_eq_getElem_cons hlt
   have ey:Y.drop i=Y[i]'(by omega)::Y.drop (i+1):=List.drop_eq_getElem_cons (by omega)
   have tx:X.take (i+1)=X.take i++[X[i]]:=List.take_succ_eq_append_getElem hlt
   have ty:Y.take (i+1)=Y.take i++[Y[i]'(by omega)]:=List.take_succ_eq_append_getElem (by omega)
   generalize X[i]=x at ex tx
   generalize Y[i]'(by omega)=y at ey ty
   have hU:(P++Y.take i).length=P.length+i:=by simp;omega
   have hV:(X.drop (i+1)++M++X.take i).length+(P.length+i)+1=P.length+X.length+M.length+i:=by simp;omega
   obtain⟨s1,s2,s3,s4⟩:=E8 (P++Y.take i) (X.drop (i+1)++M++X.take i) (Y.drop (i+1)++Q) x y;have eL:L i=(P++Y.take i)++x::((X.drop (i+1)++M++X.take i)++y::(Y.drop (i+1)++Q)):=by rw[hL];simp only[ex,ey];simp
   have eL1:L (i+1)=(P++Y.take i)++y::((X.drop (i+1)++M++X.take i)++x::(Y.drop (i+1)++Q)):=by rw[hL];simp only[tx,ty];simp
   rw[←eL]at s1 s2 s3;rw[←eL1]at s3;rw[hU]at s1 s2 s3;rw[show P.length+i+1+(X.drop (i+1)++M++X.take i).length=P.length+X.length+M.length+i by omega]at s2 s3;have hg:=lM h (L i);rw[cy hlt,cx,rz (by omega),bS,rz (by omega),bS,bS,lg (by omega),bS,n5 hg s2,bS,bS,lg (by omega),bS,n5 hg s1,bS,bS,p7,bS,vE y hg (by rw[tJ];omega),bS,bS,p7,bS,vE x (lM hg _) (by rw[List.length_set,tJ];omega),bS,kK (by omega),bS];refine .inl ⟨X.length-(i+1),_,_,by omega,rfl,i+1,hlt,rfl,rfl,?_⟩;rw[s3,List.set_set,List.set_set]
  ·have:i=X.length:=by omega
   subst this;rw[cB hlt,bT];exact .inr ⟨_,rfl,by simp,rfl⟩
 obtain⟨q,e,rfl⟩:=yN;rw[e,bS];simp only[hJ];rw[hLn]
theorem Wt{id g:Nat}{W:Heap}{P X Y Q:List aN}(hl:(P++X++Y++Q).length<1000000000000)(hx:0<X.length)(hy:0<Y.length)(h:W[id]? =some (bF g (P++X++Y++Q)))(f:AV):
  AM [bC id g (P++X++Y++Q).length,.int .i64 (P.length:Int),.int .i64 ((P.length+X.length:Nat):Int),.int .i64 ((P.length+X.length+Y.length:Nat):Int),f] W=some (.aD [],W.set id (bF g (P++Y++X++Q))):=by
 obtain⟨N,hN⟩:∃N,N=(P++X++Y++Q).length:=⟨_,rfl⟩
 have oI:N=P.length+X.length+Y.length+Q.length:=by rw[hN];simp;omega
 rw[←hN]at hl ⊢;obtain⟨T,hT⟩:∃T,T=P++Y++X++Q:=⟨_,rfl⟩
 obtain⟨m,hm⟩:∃m,m=P.length+X.length:=⟨_,rfl⟩
 suffices hr:zg (bC id g N) (.int .i64 (P.length:Int)) (.int .i64 (m:Int)) (.int .i64 ((P.length+X.length+Y.length:Nat):Int)) f W=some (.aD [],W.set id (bF g T)) by
  show(A.nH zg _ W).map _=_;have:A.nH zg (A.cj [] [bC id g N,.int .i64 (P.length:Int),.int .i64 ((P.length+X.length:Nat):Int),.int .i64 ((P.length+X.length+Y.length:Nat):Int),f]) W=some (.aD [],W.set id (bF g T)):=by rw[hm]at hr;exact hr
  rw[this,←hT];rfl
 unfold zg;rw[oF (by omega) (by omega),bS,oF (by omega) (by omega),bS,show m-P.length=X.length by omega,show P.length+X.length+Y.length-m=Y.length by omega]
 have swp:∀(P' A' M' B' Q':List aN)(W':Heap),A'.length=B'.length→(P'++A'++M'++B'++Q').length=N→W'[id]? =some (bF g (P'++A'++M'++B'++Q'))→tU [bC id g N,.int .i64 (P'.length:Int),.int .i64 ((P'.length+A'.length+M'.length:Nat):Int),.int .i64 (A'.length:Int),f] W'=some (.aD [],W'.set id (bF g (P'++B'++M'++A'++Q'))):=λP' A' M' B' Q' W' h1 h2 h3=>by have:=UA h1 (by rw[h2];exact hl) h3 f;rwa[h2]at this
 have yN:∃q,A.loop ((λv3 s4=>
   (A.neq .i (ah v3 0) (ah v3 1)).bind λx6=>
   A.cond x6 (
    (A.gtr (ah v3 0) (ah v3 1)).bind λx7=>
    (A.cond x7 (
     (A.sub (AV.int .i64 (m:Int)) (ah v3 0)).bind λx9=>
     (tU [(bC id g N),x9,(AV.int .i64 (m:Int)),(ah v3 1),f] s4).bind λKl=>
     (A.sub (ah v3 0) (ah v3 1)).bind λbI=>
     some ([bI,(ah v3 1)],Kl.2)) (
     (A.sub (AV.int .i64 (m:Int)) (ah v3 0)).bind λbD=>
     (A.add (AV.int .i64 (m:Int)) (ah v3 1)).bind λbw=>
     (A.sub bw (ah v3 0)).bind λbG=>
     (tU [(bC id g N),bD,bG,(ah v3 0),f] s4).bind λig=>
     (A.sub (ah v3 1) (ah v3 0)).bind λbE=>
     some ([(ah v3 0),bE],ig.2))).bind λr8=>
    some (AX.normal,[(ah r8.1 0),(ah r8.1 1)],r8.2)) (
    some (AX.exit 0,[(ah v3 0),(ah v3 1)],s4)))) [.int .i64 (X.length:Int),.int .i64 (Y.length:Int)] W=some q∧∃P' X' Y' Q':List aN,P'.length+X'.length=m∧X'.length=Y'.length∧P'++Y'++X'++Q'=T∧(P'++X'++Y'++Q').length=N∧q=(.exit 0,[.int .i64 (X'.length:Int),.int .i64 (X'.length:Int)],W.set id (bF g (P'++X'++Y'++Q'))):=by
  refine kG (λz u w=>∃P' X' Y' Q':List aN,P'.length+X'.length=m∧0<X'.length∧0<Y'.length∧P'++Y'++X'++Q'=T∧(P'++X'++Y'++Q').length=N∧z=X'.length+Y'.length∧u=[.int .i64 (X'.length:Int),.int .i64 (Y'.length:Int)]∧w=W.set id (bF g (P'++X'++Y'++Q'))) ?_ (n:=X.length+Y.length) ⟨P,X,Y,Q,hm.symm,hx,hy,hT.symm,hN.symm,rfl,rfl,(oq h).symm⟩;rintro z u w ⟨P',X',Y',Q',q1,q2,q3,q4,q5,rfl,rfl,rfl⟩;have Ru:P'.length+X'.length+Y'.length+Q'.length=N:=by rw[←q5];simp;omega
  simp only[ct,dg];rw[nNe,bS];by_cases hne:X'.length=Y'.length
  ·rw[cB (by simp [hne]),bT];exact .inr ⟨_,rfl,by simp,P',X',Y',Q',q1,hne,q4,q5,by rw[hne]⟩
  rw[cy hne,cx,Fk,bS];have hg:=lM h (P'++X'++Y'++Q');by_cases hgt:Y'.length<X'.length
  ·-- the head of X' with Y'
   obtain⟨X1,X2,hX,wI⟩:∃X1 X2,X'=X1++X2∧X1.length=Y'.length:=⟨X'.take Y'.length,X'.drop Y'.length,(List.take_append_drop _ _).symm,by simp;omega⟩
   subst hX;rw[List.length_append]at q1 q2 Ru hgt hne;have hs:=swp P' X1 X2 Y' Q' _ wI (by rw[←q5];simp) (by rw[hg];simp);rw[List.length_append,cy hgt,cx,oF (by omega) (by omega),bS,show m-(X1.length+X2.length)=P'.length by omega];rw[show m=P'.length+X1.length+X2.length by omega,←wI,hs,bS];simp only;rw[oF (by omega) (by omega),bS,bS];simp only[ct,dg];refine .inl ⟨X2.length+X1.length,_,_,by omega,rfl,P'++Y',X2,X1,Q',by simp;omega,by omega,by omega,?_,by rw[←q5];simp;omega,rfl,by rw[show X1.length+X2.length-X1.length=X2.length by omega],?_⟩
   ·rw[←q4];simp
   ·rw[List.set_set]
  ·-- X' with the tail of Y'
   obtain⟨Y1,Y2,hY,CN⟩:∃Y1 Y2,Y'=Y1++Y2∧Y2.length=X'.length:=⟨Y'.take (Y'.length-X'.length),Y'.drop (Y'.length-X'.length),(List.take_append_drop _ _).symm,by simp;omega⟩
   subst hY;rw[List.length_append]at q3 Ru hgt hne;have hs:=swp P' X' Y1 Y2 Q' _ CN.symm (by rw[←q5];simp) (by rw[hg];simp);rw[List.length_append,cB hgt,bT,oF (by omega) (by omega),bS,rz (by omega),bS,oF (by omega) (by omega),bS,show m-X'.length=P'.length by omega,show m+(Y1.length+Y2.length) -X'.length=P'.length+X'.length+Y1.length by omega,hs,bS];simp only;rw[oF (by omega) (by omega),bS,bS];simp only[ct,dg];refine .inl ⟨Y2.length+Y1.length,_,_,by omega,rfl,P',Y2,Y1,X'++Q',by omega,by omega,by omega,?_,by rw[←q5];simp;omega,rfl,by rw[show Y1.length+Y2.length-X'.length=Y1.length by omega,CN],?_⟩
   ·rw[←q4];simp
   ·rw[List.set_set];simp
 obtain⟨q,e,P',X',Y',Q',q1,q2,q3,q4,rfl⟩:=yN;rw[e,bS];simp only[hJ,ct,dg];have hg:=lM h (P'++X'++Y'++Q');have q4':P'.length+X'.length+Y'.length+Q'.length=N:=by rw[←q4];simp;omega
 have hs:=swp P' X' [] Y' Q' _ q2 (by rw[←q4];simp) (by rw[hg];simp);rw[List.length_nil,Nat.add_zero,q1]at hs;rw[oF (by omega) (by omega),bS,show m-X'.length=P'.length by omega,hs,bS,List.set_set];rw[←q3];simp
end
section
set_option maxRecDepth 100000
abbrev bH(x y:aN):Bool:=iT x.key y.key
def dL(l:List aN):Prop:=l.Pairwise λx y=>bH y x=false
abbrev fk(k:bP)(l:List aN):List aN:=l.filter λs=>decide (s.key=k)
def cD(Z S:List aN):Prop:=∀k,fk k Z=fk k S
theorem cD.refl(l:List aN):cD l l:=λ_=>rfl
theorem cD.trans{a b c:List aN}(h:cD a b)(k:cD b c):cD a c:=λx=>(h x).trans (k x)
theorem cD.app{a b c d:List aN}(h:cD a b)(k:cD c d):cD (a++c) (b++d):=λx=>by show fk x (a++c)=fk x (b++d);unfold fk;rw[List.filter_append,List.filter_append];exact congr (congrArg _ (h x)) (k x)
theorem cD.mem{a b:List aN}(h:cD a b){x:aN}(hx:x∈a):x∈b:=by have:x∈fk x.key a:=List.mem_filter.2 ⟨hx,by simp⟩;rw[h]at this;exact(List.mem_filter.1 this).1
theorem ET{x y z:aN}(h:bH x y=true)(k:bH y z=true):bH x z=true:=VF h k
theorem BJ{x y z:aN}(h:bH y x=false)(k:bH z y=false):bH z x=false:=by
 cases q:bH z x with
 |false=>rfl
 |true=>
  -- z < x; y not below x, so x = y or x < y
  by_cases e:bH x y=true
  ·rw[ET q e]at k;cases k
  ·have:x.key=y.key:=Ig (by simpa using e) h;unfold bH at k q;rw[←this,q]at k;cases k
theorem QW{x y:aN}(h:bH x y=true):bH y x=false:=by
 cases q:bH y x with
 |false=>rfl
 |true=>have:=ET h q;unfold bH at this;rw[N8]at this;cases this
theorem uk{x y:aN}(h:bH x y=true):x.key≠y.key:=λe=>by unfold bH at h;rw[e,N8]at h;cases h
theorem Qf{x y z:aN}(h:bH x y=true)(k:bH z y=false):bH x z=true:=by
 cases q:bH x z with
 |true=>rfl
 |false=>rw[BJ k q]at h;cases h
theorem Zv{x y z:aN}(h:bH y x=false)(k:bH y z=true):bH x z=true:=by
 cases q:bH x z with
 |true=>rfl
 |false=>rw[BJ q h]at k;cases k
theorem Yl{S1 S2:List aN}{x:aN}(hs:dL (S1++S2))(hB:∀b∈S2,bH x b=true)(hA:∀y,S1.getLast? =some y→bH x y=false):dL (S1++x::S2)∧cD (S1++x::S2) (S1++S2++[x]):=by
 have h:=List.pairwise_append.1 hs
 have hA':∀a∈S1,bH x a=false:=λa ha=>by
  cases hl:S1.getLast? with
  |none=>rw[List.getLast?_eq_none_iff]at hl;subst hl;simp at ha
  |some y=>
   have hy:=hA y hl;obtain⟨nG,rfl⟩:=List.getLast?_eq_some_iff.1 hl;rcases ew.1 ha with ha|ha
   ·exact BJ ((List.pairwise_append.1 h.1).2.2 a ha y (by simp)) hy
   ·rw[List.mem_singleton.1 ha];exact hy
 refine⟨List.pairwise_append.2 ⟨h.1,List.pairwise_cons.2 ⟨λb hb=>QW (hB b hb),h.2.1⟩,λa ha b hb=>?_⟩,λk=>?_⟩
 ·rcases eu.1 hb with rfl|hb
  ·exact hA' a ha
  ·exact h.2.2 a ha b hb
 ·show fk k _=fk k _;unfold fk;rw[jg,List.filter_append,List.filter_append];congr 1;rw[List.filter_append,List.filter_cons,List.filter_cons];by_cases hk:x.key=k
  ·have:S2.filter (λs=>decide (s.key=k))=[]:=by rw[List.filter_eq_nil_iff];intro b hb q;have:=uk (hB b hb);simp only[decide_eq_true_eq]at q;exact this (by rw[hk,q])
   rw[this];simp [hk]
  ·simp [hk]
def qu(dyn:Nat→aq→Heap→aB)(f:AV):Prop:=∀(x y:aN)(W:Heap),A.quiet (A.fC dyn f [.agg (aC x),.agg (aC y)] W) W=some (.int .i64 (zY x.key y.key))
theorem cmpL(x y:aN):A.lss (.int .i64 (zY x.key y.key)) (.int .i64 0)=some (.bool (bH x y)):=by
 rw[qY];congr 2;have:=Vp x.key y.key;unfold bH;cases q:iT x.key y.key with
 |true=>exact cy (this.2 q)
 |false=>exact cB (λe=>by rw[this.1 e]at q;cases q)
section
variable {dyn : Nat → aq → Heap → aB} {f : AV} {id g N : Nat} {W : Heap}
theorem Yk(hc:qu dyn f){P S Q:List aN}{x:aN}(hN:(P++S++x::Q).length=N)(hl:N<1000000000000)(h:W[id]? =some (bF g (P++S++x::Q))):
  ∃S1 S2,S=S1++S2∧(∀b∈S2,bH x b=true)∧(∀y,S1.getLast? =some y→bH x y=false)∧∃u,A.loop ((λv6 s7=>
      (A.gtr (ah v6 0) (AV.int .i64 (P.length:Int))).bind λx9=>
      (A.guard x9 true (some f) an).bind λaS=>
      (A.guard x9 true (some (bC id g N)) an).bind λbI=>
      (A.guard x9 true (some (ah v6 0)) an).bind λbD=>
      (A.guard x9 true (A.aK 3 bI bD) an).bind λbw=>
      (A.guard x9 true ((A.deref bw s7).bind λgf=>A.aA 0 3 gf) an).bind λaW=>
      (A.guard x9 true (some (bC id g N)) an).bind λbE=>
      (A.guard x9 true (some (ah v6 0)) an).bind λbJ=>
      (A.guard x9 true (A.sub bJ cJ) an).bind λbz=>
      (A.guard x9 true (A.aK 3 bE bz) an).bind λbY=>
      (A.guard x9 true ((A.deref bY s7).bind λdN=>A.aA 0 3 dN) an).bind λaT=>
      (A.guard x9 true (A.quiet (A.fC dyn aS [aW,aT] s7) s7) an).bind λbO=>
      (A.guard x9 true (A.lss bO br) an).bind λcg=>
      (A.pick x9 cg aU).bind λcr=>
      A.cond cr (
       (A.sub (ah v6 0) cJ).bind λck=>
       (A.sub (ah v6 0) cJ).bind λcH=>
       (A.aK 3 (bC id g N) cH).bind λcQ=>
       ((A.deref cQ s7).bind λjF=>A.aA 0 3 jF).bind λcZ=>
       (A.aK 3 (bC id g N) (ah v6 0)).bind λcA=>
       ((A.deref cA s7).bind λlP=>A.aA 0 3 lP).bind λcK=>
       (A.aK 3 (bC id g N) (ah v6 0)).bind λeJ=>
       (A.cells 3 cZ).bind λmq=>
       (A.storeAt eJ mq s7).bind λiM=>
       (A.aK 3 (bC id g N) ck).bind λfV=>
       (A.cells 3 cK).bind λnL=>
       (A.storeAt fV nL iM).bind λrG=>
       (A.sub (ah v6 0) cJ).bind λeR=>
       some (AX.normal,[eR],rG)) (
       some (AX.exit 2,[(ah v6 0)],s7)))) [.int .i64 ((P.length+S.length:Nat):Int)] W=some (.exit 2,u,W.set id (bF g (P++S1++x::(S2++Q)))):=by
 suffices hq:∃q,A.loop ((λv6 s7=>
      (A.gtr (ah v6 0) (AV.int .i64 (P.length:Int))).bind λx9=>
      (A.guard x9 true (some f) an).bind λaS=>
      (A.guard x9 true (some (bC id g N)) an).bind λbI=>
      (A.guard x9 true (some (ah v6 0)) an).bind λbD=>
      (A.guard x9 true (A.aK 3 bI bD) an).bind λbw=>
      (A.guard x9 true ((A.deref bw s7).bind λgf=>A.aA 0 3 gf) an).bind λaW=>
      (A.guard x9 true (some (bC id g N)) an).bind λbE=>
      (A.guard x9 true (some (ah v6 0)) an).bind λbJ=>
      (A.guard x9 true (A.sub bJ cJ) an).bind λbz=>
      (A.guard x9 true (A.aK 3 bE bz) an).bind λbY=>
      (A.guard x9 true ((A.deref bY s7).bind λdN=>A.aA 0 3 dN) an).bind λaT=>
      (A.guard x9 true (A.quiet (A.fC dyn aS [aW,aT] s7) s7) an).bind λbO=>
      (A.guard x9 true (A.lss bO br) an).bind λcg=>
      (A.pick x9 cg aU).bind λcr=>
      A.cond cr (
       (A.sub (ah v6 0) cJ).bind λck=>
       (A.sub (ah v6 0) cJ).bind λcH=>
       (A.aK 3 (bC id g N) cH).bind λcQ=>
       ((A.deref cQ s7).bind λjF=>A.aA 0 3 jF).bind λcZ=>
       (A.aK 3 (bC id g N) (ah v6 0)).bind λcA=>
       ((A.deref cA s7).bind λlP=>A.aA 0 3 lP).bind λcK=>
       (A.aK 3 (bC id g N) (ah v6 0)).bind λeJ=>
       (A.cells 3 cZ).bind λmq=>
       (A.storeAt eJ mq s7).bind λiM=>
       (A.aK 3 (bC id g N) ck).bind λfV=>
       (A.cells 3 cK).bind λnL=>
       (A.storeAt fV nL iM).bind λrG=>
       (A.sub (ah v6 0) cJ).bind λeR=>
       some (AX.normal,[eR],rG)) (
       some (AX.exit 2,[(ah v6 0)],s7)))) [.int .i64 ((P.length+S.length:Nat):Int)] W=some q∧∃S1 S2 u,S=S1++S2∧(∀b∈S2,bH x b=true)∧(∀y,S1.getLast? =some y→bH x y=false)∧q=(.exit 2,u,W.set id (bF g (P++S1++x::(S2++Q)))) by
  obtain⟨q,e,S1,S2,u,h1,h2,h3,rfl⟩:=hq;exact⟨S1,S2,h1,h2,h3,u,e⟩
 refine kG (λz u w=>∃S1 S2:List aN,S=S1++S2∧(∀b∈S2,bH x b=true)∧z=S1.length∧u=[.int .i64 ((P.length+S1.length:Nat):Int)]∧w=W.set id (bF g (P++S1++x::(S2++Q)))) ?_ (n:=S.length) ⟨S,[],by simp,by simp,rfl,rfl,by rw[List.nil_append,oq h]⟩;rintro z u w ⟨S1,S2,hS,hB,rfl,rfl,rfl⟩;have hlen:P.length+S1.length+1+S2.length+Q.length=N:=by rw[←hN,hS];simp;omega
 simp only[ct];rw[Fk,bS];cases hla:S1.getLast? with
 |none=>rw[List.getLast?_eq_none_iff]at hla;subst hla;rw[cB (by simp)];simp only[qD,bS,tN,bT];exact .inr ⟨_,rfl,by simp,[],S2,_,hS,hB,by simp,rfl⟩
 |some y=>
  obtain⟨nG,rfl⟩:=List.getLast?_eq_some_iff.1 hla;have hU:(P++nG).length=P.length+nG.length:=List.length_append;obtain⟨s1,s2,s3,s4⟩:=E8 (P++nG) [] (S2++Q) y x;have eL:P++(nG++[y])++x::(S2++Q)=(P++nG)++y::([]++x::(S2++Q)):=by simp
  rw[←eL]at s1 s2 s4;rw[hU]at s1 s2 s4;rw[List.length_nil,Nat.add_zero]at s2 s4;have hg:=lM h (P++(nG++[y])++x::(S2++Q));have CT:P.length+(nG++[y]).length=P.length+nG.length+1:=by simp;omega
  have hlen':P.length+nG.length+1+1+S2.length+Q.length=N:=by rw[←hlen];simp;omega
  rw[CT,cy (by omega)];simp only[gT,bS,ng];rw[lg (by omega),bS];simp only[gT,bS];rw[n5 hg s2,bS];simp only[gT,bS];rw[E6 (by omega) (by omega),bS,show P.length+nG.length+1-1=P.length+nG.length by omega];simp only[gT,bS];rw[lg (by omega),bS];simp only[gT,bS];rw[n5 hg s1,bS];simp only[gT,bS];rw[hc,bS,cmpL,bS];cases hlt:bH x y with
  |false=>rw[bT];exact .inr ⟨_,rfl,by simp,nG++[y],S2,_,hS,hB,λz hz=>by simp at hz;rw[←hz];exact hlt,rfl⟩
  |true=>
   rw[cx,p7,bS,vE y hg (by simp<;>omega),bS,p7,bS,vE x (lM hg _) (by simp<;>omega),bS];refine .inl ⟨nG.length,_,_,by simp,rfl,nG,y::S2,by rw[hS];simp,λb hb=>?_,rfl,rfl,?_⟩
   ·rcases eu.1 hb with rfl|hb
    ·exact hlt
    ·exact hB b hb
   ·rw[List.set_set,List.set_set,s4];simp
theorem RE{r:AV→AV→AV→AV→Heap→aB}{a0 a1 a2 a3:AV}{σ:Heap}{q:AV×Heap}(ha:A.cj [] [a0,a1,a2,a3]=[a0,a1,a2,a3])(h:r a0 a1 a2 a3 σ=some q):A.wrap false [] .k (A.yl r) [a0,a1,a2,a3] σ=some q:=by show((A.yl r) (A.cj [] [a0,a1,a2,a3]) σ).map _=_;rw[ha];show(r a0 a1 a2 a3 σ).map _=_;rw[h];rfl
theorem LH(hc:qu dyn f){P O Q:List aN}(hN:(P++O++Q).length=N)(hl:N<1000000000000)(h:W[id]? =some (bF g (P++O++Q))):
  ∃Z,dL Z∧cD Z O∧Z.length=O.length∧tT dyn [bC id g N,.int .i64 (P.length:Int),.int .i64 ((P.length+O.length:Nat):Int),f] W=some (.aD [],W.set id (bF g (P++Z++Q))):=by
 have oI:P.length+O.length+Q.length=N:=by rw[←hN];simp;omega
 suffices hq:∃q,A.loop ((λv2 s3=>
   (A.lss (ah v2 0) (AV.int .i64 ((P.length+O.length:Nat):Int))).bind λx5=>
   A.cond x5 (
    (A.loop (λv6 s7=>
      (A.gtr (ah v6 0) (AV.int .i64 (P.length:Int))).bind λx9=>
      (A.guard x9 true (some f) an).bind λaS=>
      (A.guard x9 true (some (bC id g N)) an).bind λbI=>
      (A.guard x9 true (some (ah v6 0)) an).bind λbD=>
      (A.guard x9 true (A.aK 3 bI bD) an).bind λbw=>
      (A.guard x9 true ((A.deref bw s7).bind λgf=>A.aA 0 3 gf) an).bind λaW=>
      (A.guard x9 true (some (bC id g N)) an).bind λbE=>
      (A.guard x9 true (some (ah v6 0)) an).bind λbJ=>
      (A.guard x9 true (A.sub bJ cJ) an).bind λbz=>
      (A.guard x9 true (A.aK 3 bE bz) an).bind λbY=>
      (A.guard x9 true ((A.deref bY s7).bind λdN=>A.aA 0 3 dN) an).bind λaT=>
      (A.guard x9 true (A.quiet (A.fC dyn aS [aW,aT] s7) s7) an).bind λbO=>
      (A.guard x9 true (A.lss bO br) an).bind λcg=>
      (A.pick x9 cg aU).bind λcr=>
      A.cond cr (
       (A.sub (ah v6 0) cJ).bind λck=>
       (A.sub (ah v6 0) cJ).bind λcH=>
       (A.aK 3 (bC id g N) cH).bind λcQ=>
       ((A.deref cQ s7).bind λjF=>A.aA 0 3 jF).bind λcZ=>
       (A.aK 3 (bC id g N) (ah v6 0)).bind λcA=>
       ((A.deref cA s7).bind λlP=>A.aA 0 3 lP).bind λcK=>
       (A.aK 3 (bC id g N) (ah v6 0)).bind λeJ=>
       (A.cells 3 cZ).bind λmq=>
       (A.storeAt eJ mq s7).bind λiM=>
       (A.aK 3 (bC id g N) ck).bind λfV=>
       (A.cells 3 cK).bind λnL=>
       (A.storeAt fV nL iM).bind λrG=>
       (A.sub (ah v6 0) cJ).bind λeR=>
       some (AX.normal,[eR],rG)) (
       some (AX.exit 2,[(ah v6 0)],s7))) [(ah v2 0)] s3).bind λmD=>
    bif mD.1==AX.exit 2 then(
     (A.add (ah v2 0) cJ).bind λfK=>
     some (AX.normal,[fK],mD.2.2))else
    none) (
    some (AX.exit 0,[(ah v2 0)],s3)))) [.int .i64 ((P.length+1:Nat):Int)] W=some q∧∃Z u,dL Z∧cD Z O∧Z.length=O.length∧q=(.exit 0,u,W.set id (bF g (P++Z++Q))) by
  obtain⟨q,e,Z,u,h1,h2,h3,rfl⟩:=hq;refine⟨Z,h1,h2,h3,RE rfl ?_⟩;unfold Dq;rw[kK (by omega),bS,e,bS];simp only[hJ]
 by_cases hO:O=[]
 ·subst hO;refine kG (λz u w=>u=[.int .i64 ((P.length+1:Nat):Int)]∧w=W) ?_ (n:=0) ⟨rfl,rfl⟩;rintro z u w ⟨rfl,rfl⟩;simp only[ct];rw[fZ,bS,cB (by simp),bT];exact .inr ⟨_,rfl,by simp,[],_,List.Pairwise.nil,cD.refl _,rfl,by rw[oq h]⟩
 ·refine kG (λz u w=>∃S1 S2 S3:List aN,O=S1++S2∧dL S3∧cD S3 S1∧S3.length=S1.length∧z=S2.length∧u=[.int .i64 ((P.length+S3.length:Nat):Int)]∧w=W.set id (bF g (P++S3++S2++Q))) ?_ (n:=O.length-1) ?_
  ·rintro z u w ⟨S1,S2,S3,rfl,h1,h2,h3,rfl,rfl,rfl⟩;simp only[ct,List.length_append];rw[List.length_append]at oI;rw[fZ,bS];cases S2 with
   |nil=>rw[cB (by rw[h3];simp),bT];exact .inr ⟨_,rfl,by simp,S3,_,h1,by simpa using h2,by simpa using h3,by rw[List.append_nil]⟩
   |cons y T=>
    rw[List.length_cons]at oI;rw[cy (by rw[h3,List.length_cons];omega),cx];have hg:=lM h (P++S3++y::T++Q);obtain⟨C,D,e1,e2,e3,u',e4⟩:=Yk (g:=g) (id:=id) (W:=W.set id (bF g (P++S3++y::T++Q))) hc (P:=P) (S:=S3) (x:=y) (Q:=T++Q) (by simp;omega) hl (by rw[hg];simp);rw[e4,bS];simp only[hJ];rw[kK (by omega),bS];subst e1;obtain⟨i1,i2⟩:=Yl h1 e2 e3;refine .inl ⟨T.length,_,_,by simp,rfl,S1++[y],T,C++y::D,by simp,i1,i2.trans (h2.app (cD.refl [y])),?_,rfl,?_,?_⟩
    ·simp only[List.length_append,List.length_cons,List.length_nil]at h3 ⊢;omega
    ·simp only[List.length_append,List.length_cons];congr 3
    ·rw[List.set_set];simp
  ·obtain⟨x,T,rfl⟩:=List.exists_cons_of_ne_nil hO;exact⟨[x],T,[x],rfl,List.pairwise_singleton _ _,cD.refl _,rfl,by simp,rfl,by rw[show P++[x]++T++Q=P++x::T++Q by simp,oq h]⟩
end
end
section
set_option maxRecDepth 100000
abbrev nI(n:Nat):AV:=.int .i64 (n:Int)
theorem E5{β:Type}{i j:Nat}(h:i+j<4611686018427387904)(K:AV→Option β):((A.add (.int .i64 (i:Int)) (.int .i64 (j:Int))).bind λx6=>(A.conv .u64 x6).bind λx7=>(A.shr x7 (AV.int .u64 1)).bind λx8=>(A.conv .i64 x8).bind K)=K (.int .i64 (((i+j) / 2:Nat):Int)):=by
 have e1:A.conv .u64 (.int .i64 ((i+j:Nat):Int))=some (.int .u64 ((i+j:Nat):Int)):=by simp only[A.conv];congr 2;unfold IntKind.wrap;simp [IntKind.bits,IntKind.signed];omega
 have e2:A.shr (.int .u64 ((i+j:Nat):Int)) (.int .u64 1)=some (.int .u64 (((i+j) / 2:Nat):Int)):=by simp only[A.shr];rw[aQ (by decide)];congr 2;rw[show(2:Int) ^ (min (Int.toNat 1) IntKind.u64.bits)=2 from rfl,Int.fdiv_eq_ediv_of_nonneg _ (by decide)];omega
 have e3:A.conv .i64 (.int .u64 (((i+j) / 2:Nat):Int))=some (.int .i64 (((i+j) / 2:Nat):Int)):=by simp only[A.conv];rw[cW (by unfold bp;omega)]
 rw[rz h,bS,e1,bS,e2,bS,e3,bS]
theorem HG{body:aq→Heap→Option LS}{W:Heap}{e:Nat}(pr:Nat→Bool){lo hi:Nat}(hlo:lo≤hi)
  (hx:∀i,body [nI i,nI i] W=some (.exit e,[nI i,nI i],W))
  (hs:∀i j,lo≤i→i<j→j≤hi→body [nI i,nI j] W=some (.normal,(bif pr ((i+j) / 2)then[nI ((i+j) / 2+1),nI j]else[nI i,nI ((i+j) / 2)]),W)):
  ∃i,lo≤i∧i≤hi∧(lo<i→pr (i-1)=true)∧(i<hi→pr i=false)∧A.loop body [nI lo,nI hi] W=some (.exit e,[nI i,nI i],W):=by
 suffices hq:∃q,A.loop body [nI lo,nI hi] W=some q∧∃i,lo≤i∧i≤hi∧(lo<i→pr (i-1)=true)∧(i<hi→pr i=false)∧q=(.exit e,[nI i,nI i],W) by obtain⟨q,h0,i,h1,h2,h3,h4,rfl⟩:=hq;exact⟨i,h1,h2,h3,h4,h0⟩
 refine kG (λz u w=>∃i j:Nat,lo≤i∧i≤j∧j≤hi∧(lo<i→pr (i-1)=true)∧(j<hi→pr j=false)∧z=j-i∧u=[nI i,nI j]∧w=W) ?_ (n:=hi-lo) ⟨lo,hi,bU _,hlo,bU _,λh=>by omega,λh=>by omega,rfl,rfl,rfl⟩;rintro z u w ⟨i,j,h1,h2,h3,h4,h5,rfl,rfl,rfl⟩;by_cases hij:i<j
 ·have:=hs i j h1 hij h3;cases hp:pr ((i+j) / 2)with
  |true=>rw[hp]at this;exact .inl ⟨j-((i+j) / 2+1),_,_,by omega,this,(i+j) / 2+1,j,by omega,by omega,h3,λ_=>by rw[Nat.add_sub_cancel];exact hp,h5,rfl,rfl,rfl⟩
  |false=>rw[hp]at this;exact .inl ⟨(i+j) / 2-i,_,_,by omega,this,i,(i+j) / 2,h1,by omega,by omega,h4,λ_=>hp,rfl,rfl,rfl⟩
 ·have:i=j:=by omega
  subst this;exact .inr ⟨_,hx i,by simp,i,h1,h3,h4,h5,rfl⟩
section
variable {dyn : Nat → aq → Heap → aB} {f : AV} {id g N : Nat} {W : Heap}
theorem Ff{α:Type}{P X Z:List α}{t:Nat}(h:t<X.length):(P++X++Z)[P.length+t]? =some X[t]:=by rw[jg,fD (by omega),show P.length+t-P.length=t by omega,fH h,cu h]
theorem XO(hc:qu dyn f){P Y Q:List aN}{x:aN}(hN:(P++x::Y++Q).length=N)(hl:N<1000000000000)(h:W[id]? =some (bF g (P++x::Y++Q))):
  ∃Y1 Y2,Y=Y1++Y2∧(∀y,Y1.getLast? =some y→bH y x=true)∧(∀y,Y2.head? =some y→bH y x=false)∧∃i,i=P.length+1+Y1.length∧
  A.loop ((λv3 s4=>
    (A.lss (ah v3 0) (ah v3 1)).bind λx6=>
    A.cond x6 (
     (A.add (ah v3 0) (ah v3 1)).bind λx7=>
     (A.conv .u64 x7).bind λx8=>
     (A.shr x8 (AV.int .u64 1)).bind λx9=>
     (A.conv .i64 x9).bind λaS=>
     (A.aK 3 (bC id g N) aS).bind λbI=>
     ((A.deref bI s4).bind λdD=>A.aA 0 3 dD).bind λbw=>
     (A.aK 3 (bC id g N) (AV.int .i64 (P.length:Int))).bind λbG=>
     ((A.deref bG s4).bind λeU=>A.aA 0 3 eU).bind λbE=>
     (A.quiet (A.fC dyn f [bw,bE] s4) s4).bind λbJ=>
     (A.lss bJ br).bind λbz=>
     (A.cond bz (
      (A.add aS cJ).bind λbZ=>
      some ([bZ,(ah v3 1)],s4)) (
      some ([(ah v3 0),aS],s4))).bind λeZ=>
     some (AX.normal,[(ah eZ.1 0),(ah eZ.1 1)],eZ.2)) (
     some (AX.exit 0,[(ah v3 0),(ah v3 1)],s4)))) [nI (P.length+1),nI (P.length+1+Y.length)] W=some (.exit 0,[nI i,nI i],W)∧
  ∃u,A.loop ((λjc oN=>
     (A.sub (nI i) cJ).bind λck=>
     (A.lss (ah jc 0) ck).bind λcH=>
     A.cond cH (
      (A.add (ah jc 0) cJ).bind λcQ=>
      (A.add (ah jc 0) cJ).bind λef=>
      (A.aK 3 (bC id g N) ef).bind λcZ=>
      ((A.deref cZ oN).bind λnK=>A.aA 0 3 nK).bind λeo=>
      (A.aK 3 (bC id g N) (ah jc 0)).bind λcK=>
      ((A.deref cK oN).bind λyt=>A.aA 0 3 yt).bind λgn=>
      (A.aK 3 (bC id g N) (ah jc 0)).bind λiD=>
      (A.cells 3 eo).bind λuV=>
      (A.storeAt iD uV oN).bind λnL=>
      (A.aK 3 (bC id g N) cQ).bind λdU=>
      (A.cells 3 gn).bind λCs=>
      (A.storeAt dU Cs nL).bind λrI=>
      (A.add (ah jc 0) cJ).bind λfK=>
      some (AX.normal,[fK],rI)) (
      some (AX.exit 2,[(ah jc 0)],oN)))) [nI P.length] W=some (.exit 2,u,W.set id (bF g (P++(Y1++x::Y2)++Q))):=by
 have oI:P.length+1+Y.length+Q.length=N:=by rw[←hN];simp;omega
 have eL:P++x::Y++Q=(P++[x])++Y++Q:=by simp
 have cS:(P++x::Y++Q)[P.length]? =some x:=by simp
 obtain⟨i,b1,b2,b3,b4,b5⟩:=HG (W:=W) (e:=0) (body:=((λv3 s4=>
    (A.lss (ah v3 0) (ah v3 1)).bind λx6=>
    A.cond x6 (
     (A.add (ah v3 0) (ah v3 1)).bind λx7=>
     (A.conv .u64 x7).bind λx8=>
     (A.shr x8 (AV.int .u64 1)).bind λx9=>
     (A.conv .i64 x9).bind λaS=>
     (A.aK 3 (bC id g N) aS).bind λbI=>
     ((A.deref bI s4).bind λdD=>A.aA 0 3 dD).bind λbw=>
     (A.aK 3 (bC id g N) (AV.int .i64 (P.length:Int))).bind λbG=>
     ((A.deref bG s4).bind λeU=>A.aA 0 3 eU).bind λbE=>
     (A.quiet (A.fC dyn f [bw,bE] s4) s4).bind λbJ=>
     (A.lss bJ br).bind λbz=>
     (A.cond bz (
      (A.add aS cJ).bind λbZ=>
      some ([bZ,(ah v3 1)],s4)) (
      some ([(ah v3 0),aS],s4))).bind λeZ=>
     some (AX.normal,[(ah eZ.1 0),(ah eZ.1 1)],eZ.2)) (
     some (AX.exit 0,[(ah v3 0),(ah v3 1)],s4))))) (λt=>(Y[t-(P.length+1)]?).any λy=>bH y x) (lo:=P.length+1) (hi:=P.length+1+Y.length) (by omega)
  (λi=>by
   simp only[ct,dg]
   rw[fZ,bS,cB (by omega),bT])
  (λi j h1 h2 h3=>by
   simp only[ct,dg];rw[fZ,bS,cy h2,cx,E5 (by omega)];obtain⟨t,ht,hk⟩:∃t,t<Y.length∧(i+j) / 2=P.length+1+t:=⟨(i+j) / 2-(P.length+1),by omega,by omega⟩
   have hy:(P++x::Y++Q)[(i+j) / 2]? =some Y[t]:=by rw[eL,hk,show P.length+1=(P++[x]).length by simp];exact Ff ht
   rw[lg (by omega),bS,n5 h hy,bS,lg (by omega),bS,n5 h cS,bS,hc,bS,cmpL,bS];rw[show(i+j) / 2-(P.length+1)=t by omega,cu ht,Option.any_some];cases bH Y[t] x with
   |true=>rw[cx,kK (by omega),bS,bS];rfl
   |false=>rw[bT,bS];rfl)
 obtain⟨t,rfl⟩:∃t,i=P.length+1+t:=⟨i-(P.length+1),by omega⟩
 have ht:t≤Y.length:=by omega
 refine⟨Y.take t,Y.drop t,(List.take_append_drop _ _).symm,λy hy=>?_,λy hy=>?_,P.length+1+t,by rw[kP,Nat.min_eq_left ht],b5,?_⟩
 ·have ht0:0<t:=by
   rcases Nat.eq_zero_or_pos t with rfl|e
   ·simp at hy
   ·exact e
  have:=b3 (by omega);rw[show P.length+1+t-1-(P.length+1)=t-1 by omega]at this;rw[List.getLast?_eq_getElem?,kP,Nat.min_eq_left ht,List.getElem?_take_of_lt (by omega)]at hy;rw[hy]at this;exact this
 ·rw[List.head?_drop]at hy;have:=b4 (by have:=(cq.1 hy).1;omega);rw[show P.length+1+t-(P.length+1)=t by omega,hy]at this;exact this
 ·suffices hq:∃q,A.loop ((λjc oN=>
     (A.sub (nI (P.length+1+t)) cJ).bind λck=>
     (A.lss (ah jc 0) ck).bind λcH=>
     A.cond cH (
      (A.add (ah jc 0) cJ).bind λcQ=>
      (A.add (ah jc 0) cJ).bind λef=>
      (A.aK 3 (bC id g N) ef).bind λcZ=>
      ((A.deref cZ oN).bind λnK=>A.aA 0 3 nK).bind λeo=>
      (A.aK 3 (bC id g N) (ah jc 0)).bind λcK=>
      ((A.deref cK oN).bind λyt=>A.aA 0 3 yt).bind λgn=>
      (A.aK 3 (bC id g N) (ah jc 0)).bind λiD=>
      (A.cells 3 eo).bind λuV=>
      (A.storeAt iD uV oN).bind λnL=>
      (A.aK 3 (bC id g N) cQ).bind λdU=>
      (A.cells 3 gn).bind λCs=>
      (A.storeAt dU Cs nL).bind λrI=>
      (A.add (ah jc 0) cJ).bind λfK=>
      some (AX.normal,[fK],rI)) (
      some (AX.exit 2,[(ah jc 0)],oN)))) [nI P.length] W=some q∧∃u,q=(.exit 2,u,W.set id (bF g (P++(Y.take t++x::Y.drop t)++Q))) by
   obtain⟨q,e,u,rfl⟩:=hq;exact⟨u,e⟩
  refine kG (λz u w=>∃s,s≤t∧z=t-s∧u=[nI (P.length+s)]∧w=W.set id (bF g (P++(Y.take s++x::Y.drop s)++Q))) ?_ (n:=t) ⟨0,lH _,rfl,rfl,by simp only[List.take_zero,List.drop_zero,List.nil_append];rw[oq h]⟩;rintro z u w ⟨s,hs,rfl,rfl,rfl⟩;simp only[ct];rw[E6 (by omega) (by omega),bS,show P.length+1+t-1=P.length+t by omega,fZ,bS];by_cases hst:s<t
  ·have Ri:s<Y.length:=by omega
   have ey:Y.drop s=Y[s]::Y.drop (s+1):=List.drop_eq_getElem_cons Ri;have ty:Y.take (s+1)=Y.take s++[Y[s]]:=List.take_succ_eq_append_getElem Ri;generalize Y[s]=y at ey ty;have hU:(P++Y.take s).length=P.length+s:=by simp;omega
   obtain⟨s1,s2,s3,s4⟩:=E8 (P++Y.take s) [] (Y.drop (s+1)++Q) x y;have eL:P++(Y.take s++x::Y.drop s)++Q=(P++Y.take s)++x::([]++y::(Y.drop (s+1)++Q)):=by rw[ey];simp
   rw[←eL]at s1 s2 s3;rw[hU]at s1 s2 s3;rw[List.length_nil,Nat.add_zero]at s2 s3;have hg:=lM h (P++(Y.take s++x::Y.drop s)++Q);have CT:(P++(Y.take s++x::Y.drop s)++Q).length=N:=by rw[←oI];simp;omega
   rw[cy (by omega),cx,kK (by omega),bS,bS,lg (by omega),bS,n5 hg s2,bS,lg (by omega),bS,n5 hg s1,bS,bS,p7,bS,vE y hg (by omega),bS,bS,p7,bS,vE x (lM hg _) (by rw[List.length_set];omega),bS,bS];refine .inl ⟨t-(s+1),_,_,by omega,rfl,s+1,hst,rfl,rfl,?_⟩;rw[List.set_set,List.set_set,s3,ty];simp
  ·have:s=t:=by omega
   subst this;rw[cB (by omega),bT];exact .inr ⟨_,rfl,by simp,_,rfl⟩
theorem Wx(hc:qu dyn f){P X Q:List aN}{y:aN}(hN:(P++X++y::Q).length=N)(hl:N<1000000000000)(h:W[id]? =some (bF g (P++X++y::Q))):
  ∃X1 X2,X=X1++X2∧(∀x,X1.getLast? =some x→bH y x=false)∧(∀x,X2.head? =some x→bH y x=true)∧∃i,i=P.length+X1.length∧
  A.loop ((λdn fy=>
     (A.lss (ah dn 0) (ah dn 1)).bind λk9=>
     A.cond k9 (
      (A.add (ah dn 0) (ah dn 1)).bind λgp=>
      (A.conv .u64 gp).bind λdJ=>
      (A.shr dJ (AV.int .u64 1)).bind λdV=>
      (A.conv .i64 dV).bind λfE=>
      (A.aK 3 (bC id g N) (AV.int .i64 ((P.length+X.length:Nat):Int))).bind λmG=>
      ((A.deref mG fy).bind λCz=>A.aA 0 3 Cz).bind λiF=>
      (A.aK 3 (bC id g N) fE).bind λiG=>
      ((A.deref iG fy).bind λkV=>A.aA 0 3 kV).bind λmH=>
      (A.quiet (A.fC dyn f [iF,mH] fy) fy).bind λiV=>
      (A.lss iV br).bind λld=>
      (A.not ld).bind λiW=>
      (A.cond iW (
       (A.add fE cJ).bind λdG=>
       some ([dG,(ah dn 1)],fy)) (
       some ([(ah dn 0),fE],fy))).bind λfJ=>
      some (AX.normal,[(ah fJ.1 0),(ah fJ.1 1)],fJ.2)) (
      some (AX.exit 4,[(ah dn 0),(ah dn 1)],fy)))) [nI P.length,nI (P.length+X.length)] W=some (.exit 4,[nI i,nI i],W)∧
  ∃u,A.loop ((λjd oO=>
      (A.gtr (ah jd 0) (nI i)).bind λnW=>
      A.cond nW (
       (A.sub (ah jd 0) cJ).bind λnZ=>
       (A.sub (ah jd 0) cJ).bind λrY=>
       (A.aK 3 (bC id g N) rY).bind λDi=>
       ((A.deref Di oO).bind λCC=>A.aA 0 3 CC).bind λrZ=>
       (A.aK 3 (bC id g N) (ah jd 0)).bind λsj=>
       ((A.deref sj oO).bind λCD=>A.aA 0 3 CD).bind λjr=>
       (A.aK 3 (bC id g N) (ah jd 0)).bind λgQ=>
       (A.cells 3 rZ).bind λpP=>
       (A.storeAt gQ pP oO).bind λCE=>
       (A.aK 3 (bC id g N) nZ).bind λDj=>
       (A.cells 3 jr).bind λmw=>
       (A.storeAt Dj mw CE).bind λyE=>
       (A.sub (ah jd 0) cJ).bind λmJ=>
       some (AX.normal,[mJ],yE)) (
       some (AX.exit 6,[(ah jd 0)],oO)))) [nI (P.length+X.length)] W=some (.exit 6,u,W.set id (bF g (P++(X1++y::X2)++Q))):=by
 have oI:P.length+X.length+1+Q.length=N:=by rw[←hN];simp;omega
 have hyy:(P++X++y::Q)[P.length+X.length]? =some y:=by rw[fD (by simp)];simp
 obtain⟨i,b1,b2,b3,b4,b5⟩:=HG (W:=W) (e:=4) (body:=((λdn fy=>
     (A.lss (ah dn 0) (ah dn 1)).bind λk9=>
     A.cond k9 (
      (A.add (ah dn 0) (ah dn 1)).bind λgp=>
      (A.conv .u64 gp).bind λdJ=>
      (A.shr dJ (AV.int .u64 1)).bind λdV=>
      (A.conv .i64 dV).bind λfE=>
      (A.aK 3 (bC id g N) (AV.int .i64 ((P.length+X.length:Nat):Int))).bind λmG=>
      ((A.deref mG fy).bind λCz=>A.aA 0 3 Cz).bind λiF=>
      (A.aK 3 (bC id g N) fE).bind λiG=>
      ((A.deref iG fy).bind λkV=>A.aA 0 3 kV).bind λmH=>
      (A.quiet (A.fC dyn f [iF,mH] fy) fy).bind λiV=>
      (A.lss iV br).bind λld=>
      (A.not ld).bind λiW=>
      (A.cond iW (
       (A.add fE cJ).bind λdG=>
       some ([dG,(ah dn 1)],fy)) (
       some ([(ah dn 0),fE],fy))).bind λfJ=>
      some (AX.normal,[(ah fJ.1 0),(ah fJ.1 1)],fJ.2)) (
      some (AX.exit 4,[(ah dn 0),(ah dn 1)],fy))))) (λt=>(X[t-P.length]?).any λx=>!bH y x) (lo:=P.length) (hi:=P.length+X.length) (by omega)
  (λi=>by
   simp only[ct,dg]
   rw[fZ,bS,cB (by omega),bT])
  (λi j h1 h2 h3=>by
   simp only[ct,dg];rw[fZ,bS,cy h2,cx,E5 (by omega)];obtain⟨t,ht,hk⟩:∃t,t<X.length∧(i+j) / 2=P.length+t:=⟨(i+j) / 2-P.length,by omega,by omega⟩
   have hy:(P++X++y::Q)[(i+j) / 2]? =some X[t]:=by rw[hk];exact Ff ht
   rw[lg (by omega),bS,n5 h hyy,bS,lg (by omega),bS,n5 h hy,bS,hc,bS,cmpL,bS];rw[show(i+j) / 2-P.length=t by omega,cu ht,Option.any_some];cases bH y X[t]with
   |true=>rw[show A.not (.bool true)=some (.bool false)from rfl,bS,bT,bS];rfl
   |false=>rw[show A.not (.bool false)=some (.bool true)from rfl,bS,cx,kK (by omega),bS,bS];rfl)
 obtain⟨t,rfl⟩:∃t,i=P.length+t:=⟨i-P.length,by omega⟩
 have ht:t≤X.length:=by omega
 refine⟨X.take t,X.drop t,(List.take_append_drop _ _).symm,λx hx=>?_,λx hx=>?_,P.length+t,by rw[kP,Nat.min_eq_left ht],b5,?_⟩
 ·have ht0:0<t:=by
   rcases Nat.eq_zero_or_pos t with rfl|e
   ·simp at hx
   ·exact e
  have:=b3 (by omega);rw[show P.length+t-1-P.length=t-1 by omega]at this;rw[List.getLast?_eq_getElem?,kP,Nat.min_eq_left ht,List.getElem?_take_of_lt (by omega)]at hx;rw[hx]at this;simpa using this
 ·rw[List.head?_drop]at hx;have:=b4 (by have:=(cq.1 hx).1;omega);rw[show P.length+t-P.length=t by omega,hx]at this;simpa using this
 ·suffices hq:∃q,A.loop ((λjd oO=>
      (A.gtr (ah jd 0) (nI (P.length+t))).bind λnW=>
      A.cond nW (
       (A.sub (ah jd 0) cJ).bind λnZ=>
       (A.sub (ah jd 0) cJ).bind λrY=>
       (A.aK 3 (bC id g N) rY).bind λDi=>
       ((A.deref Di oO).bind λCC=>A.aA 0 3 CC).bind λrZ=>
       (A.aK 3 (bC id g N) (ah jd 0)).bind λsj=>
       ((A.deref sj oO).bind λCD=>A.aA 0 3 CD).bind λjr=>
       (A.aK 3 (bC id g N) (ah jd 0)).bind λgQ=>
       (A.cells 3 rZ).bind λpP=>
       (A.storeAt gQ pP oO).bind λCE=>
       (A.aK 3 (bC id g N) nZ).bind λDj=>
       (A.cells 3 jr).bind λmw=>
       (A.storeAt Dj mw CE).bind λyE=>
       (A.sub (ah jd 0) cJ).bind λmJ=>
       some (AX.normal,[mJ],yE)) (
       some (AX.exit 6,[(ah jd 0)],oO)))) [nI (P.length+X.length)] W=some q∧∃u,q=(.exit 6,u,W.set id (bF g (P++(X.take t++y::X.drop t)++Q))) by
   obtain⟨q,e,u,rfl⟩:=hq;exact⟨u,e⟩
  refine kG (λz u w=>∃s,t≤s∧s≤X.length∧z=s-t∧u=[nI (P.length+s)]∧w=W.set id (bF g (P++(X.take s++y::X.drop s)++Q))) ?_ (n:=X.length-t) ⟨X.length,ht,bU _,rfl,rfl,by rw[List.take_length,List.drop_length,show P++(X++[y])++Q=P++X++y::Q by simp,oq h]⟩;rintro z u w ⟨s,hs,iA,rfl,rfl,rfl⟩;simp only[ct];rw[Fk,bS];by_cases hst:t<s
  ·obtain⟨r,rfl⟩:∃r,s=r+1:=⟨s-1,by omega⟩
   have Rh:r<X.length:=by omega
   have ey:X.drop r=X[r]::X.drop (r+1):=List.drop_eq_getElem_cons Rh;have ty:X.take (r+1)=X.take r++[X[r]]:=List.take_succ_eq_append_getElem Rh;generalize X[r]=x at ey ty;have hU:(P++X.take r).length=P.length+r:=by simp;omega
   obtain⟨s1,s2,s3,s4⟩:=E8 (P++X.take r) [] (X.drop (r+1)++Q) x y;have eL:P++(X.take (r+1)++y::X.drop (r+1))++Q=(P++X.take r)++x::([]++y::(X.drop (r+1)++Q)):=by rw[ty];simp
   rw[←eL]at s1 s2 s4;rw[hU]at s1 s2 s4;rw[List.length_nil,show P.length+r+1+0=P.length+(r+1) by omega]at s2 s4;have hg:=lM h (P++(X.take (r+1)++y::X.drop (r+1))++Q);have CT:(P++(X.take (r+1)++y::X.drop (r+1))++Q).length=N:=by rw[←oI];simp;omega
   rw[cy (by omega),cx,E6 (by omega) (by omega),bS,bS,show P.length+(r+1) -1=P.length+r by omega,lg (i:=P.length+r) (by omega),bS,n5 hg s1,bS,lg (by omega),bS,n5 hg s2,bS,bS,p7,bS,vE x hg (by omega),bS,bS,p7,bS,vE y (lM hg _) (by rw[List.length_set];omega),bS,bS];refine .inl ⟨r-t,_,_,by omega,rfl,r,by omega,by omega,rfl,rfl,?_⟩;rw[List.set_set,List.set_set,s4,ey];simp
  ·have:s=t:=by omega
   subst this;rw[cB (by omega),bT];exact .inr ⟨_,rfl,by simp,_,rfl⟩
theorem YF(hc:qu dyn f){P X Y Q:List aN}(hN:(P++X++Y++Q).length=N)(hl:N<1000000000000)(h:W[id]? =some (bF g (P++X++Y++Q))){k s0 r:Nat}(h1:P.length≤s0)(h2:s0≤r)(h3:r≤P.length+X.length)(h4:r≤k)(h5:k≤s0+Y.length)(hk0:k<1000000000000):
  ∃s,s0≤s∧s≤r∧(s0<s→∀x y,X[s-1-P.length]? =some x→Y[k-s]? =some y→bH y x=false)∧(s<r→∀x y,X[s-P.length]? =some x→Y[k-1-s]? =some y→bH y x=true)∧
  A.loop ((λiu i7=>
     (A.lss (ah iu 0) (ah iu 1)).bind λsv=>
     A.cond sv (
      (A.add (ah iu 0) (ah iu 1)).bind λyZ=>
      (A.conv .u64 yZ).bind λvD=>
      (A.shr vD (AV.int .u64 1)).bind λCl=>
      (A.conv .i64 Cl).bind λgP=>
      (A.sub (nI (k+(P.length+X.length) -1)) gP).bind λrC=>
      (A.aK 3 (bC id g N) rC).bind λtE=>
      ((A.deref tE i7).bind λxL=>A.aA 0 3 xL).bind λtF=>
      (A.aK 3 (bC id g N) gP).bind λuO=>
      ((A.deref uO i7).bind λB0=>A.aA 0 3 B0).bind λpE=>
      (A.quiet (A.fC dyn f [tF,pE] i7) i7).bind λuQ=>
      (A.lss uQ br).bind λmj=>
      (A.not mj).bind λqA=>
      (A.cond qA (
       (A.add gP cJ).bind λuR=>
       some ([uR,(ah iu 1)],i7)) (
       some ([(ah iu 0),gP],i7))).bind λrA=>
      some (AX.normal,[(ah rA.1 0),(ah rA.1 1)],rA.2)) (
      some (AX.exit 8,[(ah iu 0),(ah iu 1)],i7)))) [nI s0,nI r] W=some (.exit 8,[nI s,nI s],W):=by
 have oI:P.length+X.length+Y.length+Q.length=N:=by rw[←hN];simp;omega
 obtain⟨i,b1,b2,b3,b4,b5⟩:=HG (W:=W) (e:=8) (body:=((λiu i7=>
     (A.lss (ah iu 0) (ah iu 1)).bind λsv=>
     A.cond sv (
      (A.add (ah iu 0) (ah iu 1)).bind λyZ=>
      (A.conv .u64 yZ).bind λvD=>
      (A.shr vD (AV.int .u64 1)).bind λCl=>
      (A.conv .i64 Cl).bind λgP=>
      (A.sub (nI (k+(P.length+X.length) -1)) gP).bind λrC=>
      (A.aK 3 (bC id g N) rC).bind λtE=>
      ((A.deref tE i7).bind λxL=>A.aA 0 3 xL).bind λtF=>
      (A.aK 3 (bC id g N) gP).bind λuO=>
      ((A.deref uO i7).bind λB0=>A.aA 0 3 B0).bind λpE=>
      (A.quiet (A.fC dyn f [tF,pE] i7) i7).bind λuQ=>
      (A.lss uQ br).bind λmj=>
      (A.not mj).bind λqA=>
      (A.cond qA (
       (A.add gP cJ).bind λuR=>
       some ([uR,(ah iu 1)],i7)) (
       some ([(ah iu 0),gP],i7))).bind λrA=>
      some (AX.normal,[(ah rA.1 0),(ah rA.1 1)],rA.2)) (
      some (AX.exit 8,[(ah iu 0),(ah iu 1)],i7))))) (λc=>(X[c-P.length]?).any λx=>(Y[k-1-c]?).any λy=>!bH y x) (lo:=s0) (hi:=r) h2
  (λi=>by
   simp only[ct,dg]
   rw[fZ,bS,cB (by omega),bT])
  (λi j q1 q2 q3=>by
   simp only[ct,dg];rw[fZ,bS,cy q2,cx,E5 (by omega)];obtain⟨c,wJ⟩:∃c,c=(i+j) / 2:=⟨_,rfl⟩
   rw[←wJ];have c1:i≤c:=by omega
   have c2:c<j:=by omega
   have hx1:c-P.length<X.length:=by omega
   have hy1:k-1-c<Y.length:=by omega
   have hx:(P++X++Y++Q)[c]? =some X[c-P.length]:=by have:=Ff (P:=P) (Z:=Y++Q) hx1;rw[show P.length+(c-P.length)=c by omega]at this;rw[←this];simp
   have hy:(P++X++Y++Q)[k+(P.length+X.length) -1-c]? =some Y[k-1-c]:=by have:=Ff (P:=P++X) (Z:=Q) hy1;rw[List.length_append,show P.length+X.length+(k-1-c)=k+(P.length+X.length) -1-c by omega]at this;exact this
   rw[oF (by omega) (by omega),bS,lg (by omega),bS,n5 h hy,bS,lg (by omega),bS,n5 h hx,bS,hc,bS,cmpL,bS];rw[cu hx1,cu hy1,Option.any_some,Option.any_some];cases bH Y[k-1-c] X[c-P.length]with
   |true=>rw[show A.not (.bool true)=some (.bool false)from rfl,bS,bT,bS];rfl
   |false=>rw[show A.not (.bool false)=some (.bool true)from rfl,bS,cx,kK (by omega),bS,bS];rfl)
 refine⟨i,b1,b2,λq x y hx hy=>?_,λq x y hx hy=>?_,b5⟩
 ·have:=b3 q;simp only[hx,show k-1-(i-1)=k-i by omega,hy,Option.any_some]at this;simpa using this
 ·have:=b4 q;simp only[hx,hy,Option.any_some]at this;simpa using this
end
theorem N6{l:List aN}{x:aN}(hs:dL l)(h:∀y,l.getLast? =some y→bH y x=true):∀y∈l,bH y x=true:=λy hy=>by
 obtain⟨z,hz⟩:∃z,l.getLast? =some z:=by
  cases e:l.getLast? with
  |none=>rw[List.getLast?_eq_none_iff]at e;subst e;simp at hy
  |some z=>exact⟨z,rfl⟩
 have hq:=h z hz;obtain⟨l',rfl⟩:=List.getLast?_eq_some_iff.1 hz;rcases ew.1 hy with e|e
 ·exact Zv ((List.pairwise_append.1 hs).2.2 y e z (by simp)) hq
 ·rw[List.mem_singleton.1 e];exact hq
theorem N5{l:List aN}{x:aN}(hs:dL l)(h:∀y,l.getLast? =some y→bH x y=false):∀y∈l,bH x y=false:=λy hy=>by
 obtain⟨z,hz⟩:∃z,l.getLast? =some z:=by
  cases e:l.getLast? with
  |none=>rw[List.getLast?_eq_none_iff]at e;subst e;simp at hy
  |some z=>exact⟨z,rfl⟩
 have hq:=h z hz;obtain⟨l',rfl⟩:=List.getLast?_eq_some_iff.1 hz;rcases ew.1 hy with e|e
 ·exact BJ ((List.pairwise_append.1 hs).2.2 y e z (by simp)) hq
 ·rw[List.mem_singleton.1 e];exact hq
theorem N0{l:List aN}{x:aN}(hs:dL l)(h:∀y,l.head? =some y→bH y x=false):∀y∈l,bH y x=false:=λy hy=>by
 cases l with
 |nil=>simp at hy
 |cons z l=>
  rcases eu.1 hy with rfl|e
  ·exact h _ rfl
  ·exact BJ (h z rfl) ((List.pairwise_cons.1 hs).1 y e)
theorem N1{l:List aN}{x:aN}(hs:dL l)(h:∀y,l.head? =some y→bH x y=true):∀y∈l,bH x y=true:=λy hy=>by
 cases l with
 |nil=>simp at hy
 |cons z l=>
  rcases eu.1 hy with rfl|e
  ·exact h _ rfl
  ·exact Qf (h z rfl) ((List.pairwise_cons.1 hs).1 y e)
theorem W5{Y X:List aN}(h:∀y∈Y,∀x∈X,bH y x=true):cD (Y++X) (X++Y):=λk=>by
 show(Y++X).filter _=(X++Y).filter _;rw[List.filter_append,List.filter_append];by_cases hY:∃y∈Y,y.key=k
 ·obtain⟨y,hy,rfl⟩:=hY
  have:X.filter (λs=>decide (s.key=y.key))=[]:=by rw[List.filter_eq_nil_iff];intro x hx q;exact uk (h y hy x hx) (of_decide_eq_true q).symm
  rw[this];simp
 ·have:Y.filter (λs=>decide (s.key=k))=[]:=by rw[List.filter_eq_nil_iff];intro y hy q;exact hY ⟨y,hy,of_decide_eq_true q⟩
  rw[this];simp
theorem HL{X1 X2 Y1 Y2 Z1 Z2:List aN}(hX:dL (X1++X2))(hY:dL (Y1++Y2))(ha:∀x∈X1,∀y∈Y2,bH y x=false)(hb:∀y∈Y1,∀x∈X2,bH y x=true)
  (s1:dL Z1) (s2:dL Z2) (t1:cD Z1 (X1++Y1)) (t2:cD Z2 (X2++Y2)):dL (Z1++Z2)∧cD (Z1++Z2) (X1++X2++(Y1++Y2)):=by
 have hX':=List.pairwise_append.1 hX;have hY':=List.pairwise_append.1 hY;refine⟨List.pairwise_append.2 ⟨s1,s2,λu hu v hv=>?_⟩,?_⟩
 ·rcases ew.1 (t1.mem hu)with q|q<;>rcases ew.1 (t2.mem hv)with p|p
  ·exact hX'.2.2 u q v p
  ·exact ha u q v p
  ·exact QW (hb u q v p)
  ·exact hY'.2.2 u q v p
 ·refine(t1.app t2).trans ?_;have:=W5 hb;have e:=(cD.refl X1).app (this.app (cD.refl Y2));simp only[jg]at e ⊢;exact e
end
section
set_option maxRecDepth 100000
theorem xw5{r:AV→AV→AV→AV→AV→Heap→aB}{a0 a1 a2 a3 a4:AV}{σ:Heap}{q:AV×Heap}(ha:A.cj [] [a0,a1,a2,a3,a4]=[a0,a1,a2,a3,a4])(h:r a0 a1 a2 a3 a4 σ=some q):A.wrap false [] .k (A.nH r) [a0,a1,a2,a3,a4] σ=some q:=by show((A.nH r) (A.cj [] [a0,a1,a2,a3,a4]) σ).map _=_;rw[ha];show(r a0 a1 a2 a3 a4 σ).map _=_;rw[h];rfl
theorem Qg(a:Nat):A.eql .i (.int .i64 (a:Int)) (.int .i64 1)=some (.bool (decide (a=1))):=by rw[rE];congr 2;rw[decide_eq_decide];omega
theorem Il{l:List aN}(k:Nat)(h:k≤l.length):∃a b,l=a++b∧a.length=k:=⟨l.take k,l.drop k,(List.take_append_drop _ _).symm,by simp;omega⟩
theorem HZ{α β:Type}(p q:Prop)[Decidable p][Decidable q](u v:AV)(X Y:Option α)(K:α→Option β)(hq:A.lss u v=some (.bool (decide q))):
  ((A.guard (.bool (decide p)) true (some u) an).bind λJw=>(A.guard (.bool (decide p)) true (some v) an).bind λuR=>(A.guard (.bool (decide p)) true (A.lss Jw uR) an).bind λCm=>(A.pick (.bool (decide p)) Cm aU).bind λmm=>(A.cond mm X Y).bind K)=(bif decide (p∧q)then X else Y).bind K:=by
 by_cases hp:p
 ·rw[cy hp,gT,bS,gT,bS,hq,gT,bS,ng,bS];by_cases h:q
  ·rw[cy h,cx,cy ⟨hp,h⟩];rfl
  ·rw[cB h,bT,cB (λe=>h e.2)];rfl
 ·rw[cB hp,qD,bS,qD,bS,qD,bS,tN,bS,bT,cB (λe=>hp e.1)];rfl
section
variable {dyn : Nat → aq → Heap → aB} {f : AV} {id g N : Nat}
noncomputable abbrev smR (dyn : Nat → aq → Heap → aB) (n : Nat) : aq → Heap → aB := fuel (ze dyn) n 106
theorem YE(hc:qu dyn f)(hl:N<1000000000000):∀(F:Nat)(P X Y Q:List aN)(W:Heap)(n:Nat),(P++X++Y++Q).length=N→W[id]? =some (bF g (P++X++Y++Q))→dL X→dL Y→X≠[]→Y≠[]→X.length+Y.length≤2 ^ F→
  ∃Z,dL Z∧cD Z (X++Y)∧Z.length=X.length+Y.length∧smR dyn (n+F+1) [bC id g N,nI P.length,nI (P.length+X.length),nI (P.length+X.length+Y.length),f] W=some (.aD [],W.set id (bF g (P++Z++Q))):=by
 intro F;induction F with
 |zero=>intro P X Y Q W n hN h hX hY nX nY hs;have:=List.length_pos_iff.2 nX;have:=List.length_pos_iff.2 nY;omega
 |succ F ih=>
  intro P X Y Q W n hN h hX hY nX nY hs;have lX:=List.length_pos_iff.2 nX;have lY:=List.length_pos_iff.2 nY;have oI:P.length+X.length+Y.length+Q.length=N:=by rw[←hN];simp;omega
  suffices hr:∃Z,dL Z∧cD Z (X++Y)∧Z.length=X.length+Y.length∧Ds (fuel (ze dyn) (n+(F+1))) dyn (bC id g N) (nI P.length) (nI (P.length+X.length)) (nI (P.length+X.length+Y.length)) f W=some (.aD [],W.set id (bF g (P++Z++Q))) by obtain⟨Z,h1,h2,h3,h4⟩:=hr;exact⟨Z,h1,h2,h3,xw5 rfl h4⟩
  unfold Ds;rw[oF (by omega) (by omega),bS,show P.length+X.length-P.length=X.length by omega,Qg,bS];by_cases x1:X.length=1
  ·obtain⟨x,rfl⟩:∃x,X=[x]:=qV.1 x1;rw[cy x1,cx];rw[show P++[x]++Y++Q=P++x::Y++Q by simp]at h hN;obtain⟨Y1,Y2,rfl,e1,e2,i,hi,e3,u,e4⟩:=XO hc hN hl h;obtain⟨CM,CN,hY3⟩:=List.pairwise_append.1 hY;have g1:=N6 CM e1;have g2:=N0 CN e2;obtain⟨m1,m2⟩:=HL (X1:=[]) (X2:=[x]) (Y1:=Y1) (Y2:=Y2) (Z1:=Y1) (Z2:=x::Y2) (by simpa using hX) hY (by simp) (λy hy z hz=>by rw[List.mem_singleton.1 hz];exact g1 y hy) CM (List.pairwise_cons.2 ⟨g2,CN⟩) (cD.refl _) (cD.refl _);refine⟨Y1++x::Y2,m1,m2,by simp;omega,?_⟩;refine(congrArg (Option.bind · _) e3).trans ?_;rw[bS];simp only[hJ];refine(congrArg (Option.bind · _) e4).trans ?_;rw[bS];simp only[hJ]
  rw[cB x1,bT,oF (by omega) (by omega),bS,show P.length+X.length+Y.length-(P.length+X.length)=Y.length by omega,Qg,bS];by_cases y1:Y.length=1
  ·obtain⟨y,rfl⟩:∃y,Y=[y]:=qV.1 y1;rw[cy y1,cx];rw[show P++X++[y]++Q=P++X++y::Q by simp]at h hN;obtain⟨X1,X2,rfl,e1,e2,i,hi,e3,u,e4⟩:=Wx hc hN hl h;obtain⟨wI,Q3,hX3⟩:=List.pairwise_append.1 hX;have g1:=N5 wI e1;have g2:=N1 Q3 e2;obtain⟨m1,m2⟩:=HL (X1:=X1) (X2:=X2) (Y1:=[y]) (Y2:=[]) (Z1:=X1++[y]) (Z2:=X2) hX (by simpa using hY) (by simp) (λz hz x hx=>by rw[List.mem_singleton.1 hz];exact g2 x hx) (List.pairwise_append.2 ⟨wI,List.pairwise_singleton _ _,λx hx z hz=>by rw[List.mem_singleton.1 hz];exact g1 x hx⟩) Q3 (cD.refl _) (by rw[List.append_nil];exact cD.refl _);refine⟨X1++y::X2,by simpa using m1,by simpa using m2,by simp;omega,?_⟩;refine(congrArg (Option.bind · _) e3).trans ?_;rw[bS];simp only[hJ];refine(congrArg (Option.bind · _) e4).trans ?_;rw[bS];simp only[hJ]
  rw[cB y1,bT,E5 (by omega)];obtain⟨k,hk⟩:∃k,k=(P.length+(P.length+X.length+Y.length)) / 2:=⟨_,rfl⟩
  rw[←hk,rz (by omega),bS,Fk,bS]
  obtain⟨s0,r,q1,q2,q3,q4,q5,q6,q7,q8⟩:∃s0 r,P.length≤s0∧s0≤r∧r≤P.length+X.length∧r≤k∧k≤s0+Y.length∧(s0=P.length∨k=s0+Y.length)∧(r=P.length+X.length∨r=k)∧A.cond (.bool (decide (k<P.length+X.length))) ((A.sub (.int .i64 ((k+(P.length+X.length):Nat):Int)) (nI (P.length+X.length+Y.length))).bind λqN=>some ([qN,nI k],W)) (some ([nI P.length,nI (P.length+X.length)],W))=some ([nI s0,nI r],W):=by
   by_cases hkm:k<P.length+X.length
   ·refine⟨k+(P.length+X.length) -(P.length+X.length+Y.length),k,by omega,by omega,by omega,by omega,by omega,.inr (by omega),.inr rfl,?_⟩;rw[cy hkm,cx,oF (by omega) (by omega),bS]
   ·refine⟨P.length,P.length+X.length,by omega,by omega,by omega,by omega,by omega,.inl rfl,.inl rfl,?_⟩;rw[cB hkm,bT]
  obtain⟨s,b1,b2,b3,b4,b5⟩:=YF hc hN hl h q1 q2 q3 q4 q5 (by omega);obtain⟨X1,X2,rfl,wI⟩:=Il (l:=X) (s-P.length) (by omega);obtain⟨Y1,Y2,rfl,CM⟩:=Il (l:=Y) (k-s) (by omega);simp only[List.length_append]at lX lY hs oI x1 y1 hk q3 q5 q6 q7 q8 b5 ⊢;obtain⟨Kt,Ku,sX3⟩:=List.pairwise_append.1 hX;obtain⟨Kv,Kw,sY3⟩:=List.pairwise_append.1 hY
  have ha:∀x∈X1,∀y∈Y2,bH y x=false:=by
   intro x hx y hy;have p1:=List.length_pos_of_mem hx;have p2:=List.length_pos_of_mem hy;obtain⟨x0,hx0⟩:∃x0,X1[X1.length-1]? =some x0:=⟨_,cu (by omega)⟩
   obtain⟨y0,hy0⟩:∃y0,Y2[0]? =some y0:=⟨_,cu p2⟩
   have hq:=b3 (by omega) x0 y0 (by rw[fH (by omega),show s-1-P.length=X1.length-1 by omega];exact hx0) (by rw[fD (by omega),show k-s-Y1.length=0 by omega];exact hy0);have g1:=N5 (x:=y0) Kt (λz hz=>by rw[List.getLast?_eq_getElem?,hx0]at hz;cases hz;exact hq);exact N0 (x:=x) Kw (λz hz=>by rw[List.head?_eq_getElem?,hy0]at hz;cases hz;exact g1 x hx) y hy
  have hb:∀y∈Y1,∀x∈X2,bH y x=true:=by
   intro y hy x hx;have p1:=List.length_pos_of_mem hx;have p2:=List.length_pos_of_mem hy;obtain⟨x0,hx0⟩:∃x0,X2[0]? =some x0:=⟨_,cu p1⟩
   obtain⟨y0,hy0⟩:∃y0,Y1[Y1.length-1]? =some y0:=⟨_,cu (by omega)⟩
   have hq:=b4 (by omega) x0 y0 (by rw[fD (by omega),show s-P.length-X1.length=0 by omega];exact hx0) (by rw[fH (by omega),show k-1-s=Y1.length-1 by omega];exact hy0);have g1:=N6 (x:=x0) Kv (λz hz=>by rw[List.getLast?_eq_getElem?,hy0]at hz;cases hz;exact hq);exact N1 (x:=y) Ku (λz hz=>by rw[List.head?_eq_getElem?,hx0]at hz;cases hz;exact g1 y hy) x hx
  have hP:P++(X1++X2)++(Y1++Y2)++Q=P++X1++X2++Y1++(Y2++Q):=by simp
  have oK:P.length+X1.length=s:=by omega
  have hk2:P.length+X1.length+Y1.length=k:=by omega
  obtain⟨W2,Fu⟩:∃W2,W2=W.set id (bF g (P++X1++Y1++(X2++Y2++Q))):=⟨_,rfl⟩
  have CR:W2[id]? =some (bF g (P++X1++Y1++(X2++Y2++Q))):=by rw[Fu];exact lM h _
  have ZK:(bif decide (s<P.length+(X1.length+X2.length)∧P.length+(X1.length+X2.length)<k+(P.length+(X1.length+X2.length)) -s)then((AM [bC id g N,nI s,nI (P.length+(X1.length+X2.length)),nI (k+(P.length+(X1.length+X2.length)) -s),f] W).bind λZV=>some (([]:aq),ZV.2))else some (([]:aq),W))=some (([]:aq),W2):=by
   by_cases hq:s<P.length+(X1.length+X2.length)∧P.length+(X1.length+X2.length)<k+(P.length+(X1.length+X2.length)) -s
   ·rw[cy hq,bA];have:=Wt (id:=id) (g:=g) (W:=W) (P:=P++X1) (X:=X2) (Y:=Y1) (Q:=Y2++Q) (by rw[←hP,hN];exact hl) (by omega) (by omega) (by rw[h,hP]) f;rw[←hP,hN,List.length_append,oK,show s+X2.length=P.length+(X1.length+X2.length) by omega,show P.length+(X1.length+X2.length)+Y1.length=k+(P.length+(X1.length+X2.length)) -s by omega]at this;rw[this,bS,Fu];simp
   ·rw[cB hq,aV,Fu]
    have:P++X1++Y1++(X2++Y2++Q)=P++(X1++X2)++(Y1++Y2)++Q:=by
     by_cases c:X2.length=0
     ·rw[List.length_eq_zero_iff.1 c];simp
     ·rw[List.length_eq_zero_iff.1 (show Y1.length=0 by omega)];simp
    rw[this,oq h]
  obtain⟨Z1,z1,z2,z3,mB⟩:∃Z1,dL Z1∧cD Z1 (X1++Y1)∧Z1.length=X1.length+Y1.length∧(bif decide (P.length<s∧s<k)then((fuel (ze dyn) (n+(F+1)) 106 [bC id g N,nI P.length,nI s,nI k,f] W2).bind λwC=>some (([]:aq),wC.2))else some (([]:aq),W2))=some (([]:aq),W2.set id (bF g (P++Z1++(X2++Y2++Q)))):=by
   by_cases hq:P.length<s∧s<k
   ·obtain⟨Z,w1,w2,w3,w4⟩:=ih P X1 Y1 (X2++Y2++Q) W2 n (by rw[←oI];simp;omega) CR Kt Kv (λe=>by rw[e]at wI;simp at wI;omega) (λe=>by rw[e]at CM;simp at CM;omega) (by rw[Nat.pow_succ]at hs;omega);rw[oK,show s+Y1.length=k by omega]at w4;refine⟨Z,w1,w2,w3,?_⟩;rw[cy hq,bA];refine(congrArg (Option.bind · _) w4).trans ?_;rw[bS]
   ·refine⟨X1++Y1,?_,cD.refl _,List.length_append,?_⟩
    ·by_cases c:X1.length=0
     ·rw[List.length_eq_zero_iff.1 c];exact Kv
     ·rw[List.length_eq_zero_iff.1 (show Y1.length=0 by omega),List.append_nil];exact Kt
    ·rw[cB hq,aV,show P++(X1++Y1)++(X2++Y2++Q)=P++X1++Y1++(X2++Y2++Q) by simp,oq CR]
  obtain⟨W3,JO⟩:∃W3,W3=W2.set id (bF g (P++Z1++(X2++Y2++Q))):=⟨_,rfl⟩
  have Q8:W3[id]? =some (bF g (P++Z1++X2++Y2++Q)):=by rw[JO,lM CR];simp
  rw[←JO]at mB
  obtain⟨Z2,v1,v2,v3,yQ⟩:∃Z2,dL Z2∧cD Z2 (X2++Y2)∧Z2.length=X2.length+Y2.length∧(bif decide (k<k+(P.length+(X1.length+X2.length)) -s∧k+(P.length+(X1.length+X2.length)) -s<P.length+(X1.length+X2.length)+(Y1.length+Y2.length))then((fuel (ze dyn) (n+(F+1)) 106 [bC id g N,nI k,nI (k+(P.length+(X1.length+X2.length)) -s),nI (P.length+(X1.length+X2.length)+(Y1.length+Y2.length)),f] W3).bind λwC=>some (([]:aq),wC.2))else some (([]:aq),W3))=some (([]:aq),W3.set id (bF g (P++Z1++Z2++Q))):=by
   have hkz:(P++Z1).length=k:=by rw[List.length_append,z3];omega
   by_cases hq:k<k+(P.length+(X1.length+X2.length)) -s∧k+(P.length+(X1.length+X2.length)) -s<P.length+(X1.length+X2.length)+(Y1.length+Y2.length)
   ·obtain⟨Z,w1,w2,w3,w4⟩:=ih (P++Z1) X2 Y2 Q W3 n (by rw[←oI];simp only[List.length_append,z3];omega) Q8 Ku Kw (λe=>by rw[e]at hq;simp at hq;omega) (λe=>by rw[e]at hq;simp at hq;omega) (by rw[Nat.pow_succ]at hs;omega);rw[hkz,show k+X2.length=k+(P.length+(X1.length+X2.length)) -s by omega,show k+(P.length+(X1.length+X2.length)) -s+Y2.length=P.length+(X1.length+X2.length)+(Y1.length+Y2.length) by omega]at w4;refine⟨Z,w1,w2,w3,?_⟩;rw[cy hq,bA];refine(congrArg (Option.bind · _) w4).trans ?_;rw[bS]
   ·refine⟨X2++Y2,?_,cD.refl _,List.length_append,?_⟩
    ·by_cases c:X2.length=0
     ·rw[List.length_eq_zero_iff.1 c];exact Kw
     ·rw[List.length_eq_zero_iff.1 (show Y2.length=0 by omega),List.append_nil];exact Ku
    ·rw[cB hq,aV,show P++Z1++(X2++Y2)++Q=P++Z1++X2++Y2++Q by simp,oq Q8]
  obtain⟨m1,m2⟩:=HL hX hY ha hb z1 v1 z2 v2;refine⟨Z1++Z2,m1,m2,by rw[List.length_append,z3,v3];omega,?_⟩;refine(congrArg (Option.bind · _) q8).trans ?_;rw[bS];simp only[ct,dg];rw[E6 (by omega) (by omega),bS];refine(congrArg (Option.bind · _) b5).trans ?_;rw[bS];simp only[hJ,ct,dg];rw[oF (by omega) (by omega),bS,fZ,bS,HZ _ _ _ _ _ _ _ (fZ _ _),ZK,bS,fZ,bS,HZ _ _ _ _ _ _ _ (fZ _ _),mB,bS,fZ,bS,HZ _ _ _ _ _ _ _ (fZ _ _),yQ,bS,JO,Fu,List.set_set,List.set_set,jg P]
end
end
section
set_option maxRecDepth 100000
theorem PA{a:Nat}(h:a<2000000000000):A.mul (.int .i64 2) (.int .i64 (a:Int))=some (.int .i64 ((2*a:Nat):Int)):=by rw[Fb,cW (by unfold bp;omega)];rfl
theorem Yp{a:Nat}(h:a<2000000000000):A.mul (.int .i64 (a:Int)) (.int .i64 2)=some (.int .i64 ((2*a:Nat):Int)):=by rw[Fb,cW (by unfold bp;omega),Int.mul_comm];rfl
structure JD (bs : Nat) (L : List (List aN)) (R : List aN) : Prop where
 b:∀x∈L,x.length=bs∧dL x
 r:R.length<bs∧dL R
theorem Em{bs:Nat}{L:List (List aN)}(h:∀x∈L,x.length=bs∧dL x):L.flatten.length=L.length*bs:=by
 induction L with
 |nil=>simp
 |cons x L ih=>rw[List.flatten_cons,List.length_append,ih (λy hy=>h y (by simp [hy])),(h x (by simp)).1,List.length_cons,Nat.succ_mul];omega
theorem H8{D:List (List aN)}{Z:List aN}:(D++[Z]).flatten=D.flatten++Z:=by simp
theorem ER{D:List (List aN)}{Z:List aN}{m:Nat}(h:Z.length=m):(D++[Z]).flatten.length=D.flatten.length+m:=by rw[H8,List.length_append,h]
theorem iZ{α β:Type}{x y:Option α}(h:x=y)(f:α→Option β):x.bind f=y.bind f:=by rw[h]
section
variable {dyn : Nat → aq → Heap → aB} {f : AV} {id g N : Nat}
theorem Qo(hc:qu dyn f)(hl:N<1000000000000){P X Y Q:List aN}{W:Heap}(hN:(P++X++Y++Q).length=N)(h:W[id]? =some (bF g (P++X++Y++Q)))(hX:dL X)(hY:dL Y)(nX:X≠[])(nY:Y≠[]):
  ∃Z,dL Z∧cD Z (X++Y)∧Z.length=X.length+Y.length∧sw dyn [bC id g N,nI P.length,nI (P.length+X.length),nI (P.length+X.length+Y.length),f] W=some (.aD [],W.set id (bF g (P++Z++Q))):=by
 have hs:X.length+Y.length≤2 ^ 40:=by
  have:P.length+X.length+Y.length+Q.length=N:=by rw[←hN];simp;omega
  have:(1000000000000:Nat)≤2 ^ 40:=by decide
  omega
 obtain⟨Z,h1,h2,h3,h4⟩:=YE hc hl 40 P X Y Q W 1999959 hN h hX hY nX nY hs;refine⟨Z,h1,h2,h3,?_⟩;have e:(1999959+40+1:Nat)=2000000:=rfl;rw[e]at h4;exact h4
theorem Wz(hc:qu dyn f)(hl:N<1000000000000){O:List aN}{W:Heap}(hN:O.length=N)(h:W[id]? =some (bF g O)):
  ∃D T:List (List aN),∃R:List aN,(∀x∈D,x.length=20∧dL x)∧R.length<20∧cD (D.flatten++R) O∧(D.flatten++R).length=N∧∃b,A.loop ((λv1 s2=>
   (A.leq (ah v1 1) (nI N)).bind λx4=>
   A.cond x4 (
    (tT dyn [(bC id g N),(ah v1 0),(ah v1 1),f] s2).bind λr5=>
    (A.add (ah v1 1) (AV.int .i64 20)).bind λx6=>
    some (AX.normal,[(ah v1 1),x6],r5.2)) (
    some (AX.exit 0,[(ah v1 0),(ah v1 1)],s2)))) [.int .i64 0,.int .i64 20] W=some (.exit 0,[nI D.flatten.length,b],W.set id (bF g (D.flatten++R))):=by
 suffices hq:∃q,A.loop ((λv1 s2=>
   (A.leq (ah v1 1) (nI N)).bind λx4=>
   A.cond x4 (
    (tT dyn [(bC id g N),(ah v1 0),(ah v1 1),f] s2).bind λr5=>
    (A.add (ah v1 1) (AV.int .i64 20)).bind λx6=>
    some (AX.normal,[(ah v1 1),x6],r5.2)) (
    some (AX.exit 0,[(ah v1 0),(ah v1 1)],s2)))) [.int .i64 0,.int .i64 20] W=some q∧∃D:List (List aN),∃R:List aN,(∀x∈D,x.length=20∧dL x)∧R.length<20∧cD (D.flatten++R) O∧(D.flatten++R).length=N∧∃b,q=(.exit 0,[nI D.flatten.length,b],W.set id (bF g (D.flatten++R))) by
  obtain⟨q,e,D,R,h1,h2,h3,h4,b,rfl⟩:=hq;exact⟨D,[],R,h1,h2,h3,h4,b,e⟩
 refine kG (λz u w=>∃D:List (List aN),∃R:List aN,(∀x∈D,x.length=20∧dL x)∧cD (D.flatten++R) O∧(D.flatten++R).length=N∧z=R.length∧u=[nI D.flatten.length,nI (D.flatten.length+20)]∧w=W.set id (bF g (D.flatten++R))) ?_ (n:=O.length) ⟨[],O,by simp,cD.refl _,hN,rfl,rfl,by rw[List.flatten_nil,List.nil_append,oq h]⟩;rintro z u w ⟨D,R,h1,h2,h3,rfl,rfl,rfl⟩;have h3':D.flatten.length+R.length=N:=by rw[←h3,List.length_append]
 simp only[ct,dg];rw[Qh,bS];by_cases hq:D.flatten.length+20≤N
 ·obtain⟨R1,R2,rfl,hR1⟩:=Il (l:=R) 20 (by omega);rw[List.length_append]at h3';rw[cy hq,cx];obtain⟨Z,z1,z2,z3,z4⟩:=LH (W:=W.set id (bF g (D.flatten++(R1++R2)))) (g:=g) (id:=id) hc (P:=D.flatten) (O:=R1) (Q:=R2) (by rw[jg];exact h3) hl (by rw[lM h];simp);rw[hR1]at z4 z3;rw[z4,bS];simp only;rw[show A.add (nI (D.flatten.length+20)) (.int .i64 20)=some (.int .i64 ((D.flatten.length+20+20:Nat):Int))from rz (b:=20) (by omega),bS];refine .inl ⟨R2.length,_,_,by simp;omega,rfl,D++[Z],R2,λx hx=>?_,?_,?_,rfl,?_,?_⟩
  ·rcases ew.1 hx with e|e
   ·exact h1 x e
   ·rw[List.mem_singleton.1 e];exact⟨z3,z1⟩
  ·refine cD.trans ?_ h2;have:=(cD.refl D.flatten).app (z2.app (cD.refl R2));simpa using this
  ·rw[List.length_append,ER z3];omega
  ·rw[ER z3]
  ·rw[List.set_set,H8]
 ·rw[cB hq,bT];exact .inr ⟨_,rfl,by simp,D,R,h1,by omega,h2,h3,_,rfl⟩
theorem XQ(hc:qu dyn f)(hl:N<1000000000000){bs:Nat}(hb0:0<bs)(hbN:bs<N){L0:List (List aN)}{R O:List aN}{W:Heap}(hB:JD bs L0 R)(hS:cD (L0.flatten++R) O)(hN:(L0.flatten++R).length=N)(h:W[id]? =some (bF g (L0.flatten++R))):
  ∃D T:List (List aN),(∀x∈D,x.length=2*bs∧dL x)∧(∀x∈T,x.length=bs∧dL x)∧T.length≤1∧cD (D.flatten++T.flatten++R) O∧(D.flatten++T.flatten++R).length=N∧∃b,A.loop ((λfA rW=>
       (A.leq (ah fA 1) (nI N)).bind λbJ=>
       A.cond bJ (
        (A.add (ah fA 0) (nI bs)).bind λbz=>
        (sw dyn [(bC id g N),(ah fA 0),bz,(ah fA 1),f] rW).bind λeZ=>
        (A.mul (AV.int .i64 2) (nI bs)).bind λbZ=>
        (A.add (ah fA 1) bZ).bind λaT=>
        some (AX.normal,[(ah fA 1),aT],eZ.2)) (
        some (AX.exit 4,[(ah fA 0),(ah fA 1)],rW)))) [.int .i64 0,nI (2*bs)] W=some (.exit 4,[nI D.flatten.length,b],W.set id (bF g (D.flatten++T.flatten++R))):=by
 suffices hq:∃q,A.loop ((λfA rW=>
       (A.leq (ah fA 1) (nI N)).bind λbJ=>
       A.cond bJ (
        (A.add (ah fA 0) (nI bs)).bind λbz=>
        (sw dyn [(bC id g N),(ah fA 0),bz,(ah fA 1),f] rW).bind λeZ=>
        (A.mul (AV.int .i64 2) (nI bs)).bind λbZ=>
        (A.add (ah fA 1) bZ).bind λaT=>
        some (AX.normal,[(ah fA 1),aT],eZ.2)) (
        some (AX.exit 4,[(ah fA 0),(ah fA 1)],rW)))) [.int .i64 0,nI (2*bs)] W=some q∧∃D T:List (List aN),(∀x∈D,x.length=2*bs∧dL x)∧(∀x∈T,x.length=bs∧dL x)∧T.length≤1∧cD (D.flatten++T.flatten++R) O∧(D.flatten++T.flatten++R).length=N∧∃b,q=(.exit 4,[nI D.flatten.length,b],W.set id (bF g (D.flatten++T.flatten++R))) by
  obtain⟨q,e,D,T,h1,h2,h3,h4,h5,b,rfl⟩:=hq;exact⟨D,T,h1,h2,h3,h4,h5,b,e⟩
 refine kG (λz u w=>∃D T:List (List aN),(∀x∈D,x.length=2*bs∧dL x)∧(∀x∈T,x.length=bs∧dL x)∧cD (D.flatten++T.flatten++R) O∧(D.flatten++T.flatten++R).length=N∧z=T.length∧u=[nI D.flatten.length,nI (D.flatten.length+2*bs)]∧w=W.set id (bF g (D.flatten++T.flatten++R))) ?_ (n:=L0.length) ⟨[],L0,by simp,hB.b,by simpa using hS,by simpa using hN,rfl,by simp,by rw[List.flatten_nil,List.nil_append,oq h]⟩;rintro z u w ⟨D,T,h1,h2,h3,h4,rfl,rfl,rfl⟩;have h4':D.flatten.length+T.length*bs+R.length=N:=by rw[←h4,List.length_append,List.length_append,Em h2]
 have hr:=hB.r.1;simp only[ct,dg];rw[Qh,bS];rcases T with _|⟨x,_|⟨y,T⟩⟩
 ·rw[cB (by simp only[List.length_nil,Nat.zero_mul]at h4';omega),bT];exact .inr ⟨_,rfl,by simp,D,[],h1,by simp,by simp,h3,h4,_,rfl⟩
 ·rw[cB (by simp only[List.length_cons,List.length_nil,Nat.zero_add,Nat.one_mul]at h4';omega),bT];exact .inr ⟨_,rfl,by simp,D,[x],h1,h2,by simp,h3,h4,_,rfl⟩
 ·have hx:=h2 x (by simp);have hy:=h2 y (by simp);have ht:∀z∈T,z.length=bs∧dL z:=λz hz=>h2 z (by simp [hz])
  rw[List.length_cons,List.length_cons,Nat.succ_mul,Nat.succ_mul]at h4';rw[cy (by omega),cx,rz (by omega),bS];have eL:D.flatten++(x::y::T).flatten++R=D.flatten++x++y++(T.flatten++R):=by simp
  obtain⟨Z,z1,z2,z3,z4⟩:=Qo (W:=W.set id (bF g (D.flatten++(x::y::T).flatten++R))) (g:=g) (id:=id) hc hl (P:=D.flatten) (X:=x) (Y:=y) (Q:=T.flatten++R) (by rw[←eL];exact h4) (by rw[lM h,eL]) hx.2 hy.2 (λe=>by rw[e]at hx;simp at hx;omega) (λe=>by rw[e]at hy;simp at hy;omega);rw[hx.1,hy.1]at z3 z4;rw[show D.flatten.length+bs+bs=D.flatten.length+2*bs by omega]at z4;rw[z4,bS,PA (by omega),bS,rz (by omega),bS];have RF:Z.length=2*bs:=by omega
  refine .inl ⟨T.length,_,_,by simp only[List.length_cons];omega,rfl,D++[Z],T,λu hu=>?_,ht,?_,?_,rfl,?_,?_⟩
  ·rcases ew.1 hu with e|e
   ·exact h1 u e
   ·rw[List.mem_singleton.1 e];exact⟨by omega,z1⟩
  ·refine cD.trans ?_ h3;have:=(cD.refl D.flatten).app (z2.app (cD.refl (T.flatten++R)));simpa using this
  ·rw[List.length_append,List.length_append,ER RF,Em ht];omega
  ·rw[ER RF]
  ·rw[List.set_set,H8];simp
theorem XP(hc:qu dyn f)(hl:N<1000000000000){bs:Nat}(hb0:0<bs)(hbN:bs<N){D T:List (List aN)}{R O:List aN}{W:Heap}(h1:∀x∈D,x.length=2*bs∧dL x)(h2:∀x∈T,x.length=bs∧dL x)(h3:T.length≤1)(hR:R.length<bs∧dL R)(hS:cD (D.flatten++T.flatten++R) O)(hN:(D.flatten++T.flatten++R).length=N)(h:W[id]? =some (bF g (D.flatten++T.flatten++R))):
  ∃R2,JD (2*bs) D R2∧cD (D.flatten++R2) O∧(D.flatten++R2).length=N∧A.cond (.bool (decide (D.flatten.length+bs<N))) ((sw dyn [bC id g N,nI D.flatten.length,nI (D.flatten.length+bs),nI N,f] W).bind λko=>some (([]:aq),ko.2)) (some (([]:aq),W))=some (([]:aq),W.set id (bF g (D.flatten++R2))):=by
 have h4':D.flatten.length+T.length*bs+R.length=N:=by rw[←hN,List.length_append,List.length_append,Em h2]
 rcases T with _|⟨x,_|⟨y,T⟩⟩
 ·simp only[List.length_nil,Nat.zero_mul]at h4';refine⟨R,⟨h1,by omega,hR.2⟩,by simpa using hS,by rw[List.length_append];omega,?_⟩;rw[cB (by omega),bT];rw[show D.flatten++([]:List (List aN)).flatten++R=D.flatten++R by simp]at h;rw[oq h]
 ·simp only[List.length_cons,List.length_nil,Nat.zero_add,Nat.one_mul]at h4';have hx:=h2 x (by simp);have eL:D.flatten++[x].flatten++R=D.flatten++x++R++[]:=by simp
  by_cases hr:R=[]
  ·subst hr;refine⟨x,⟨h1,by omega,hx.2⟩,by simpa using hS,by rw[List.length_append,hx.1];simp only[List.length_nil]at h4';omega,?_⟩;simp only[List.length_nil]at h4';rw[cB (by omega),bT];rw[show D.flatten++[x].flatten++([]:List aN)=D.flatten++x by simp]at h;rw[oq h]
  ·have hrl:=List.length_pos_iff.2 hr;obtain⟨Z,z1,z2,z3,z4⟩:=Qo hc hl (P:=D.flatten) (X:=x) (Y:=R) (Q:=[]) (by rw[←eL];exact hN) (by rw[h,eL]) hx.2 hR.2 (λe=>by rw[e]at hx;simp at hx;omega) hr;rw[hx.1]at z4 z3;rw[show D.flatten.length+bs+R.length=N by omega]at z4;refine⟨Z,⟨h1,by omega,z1⟩,?_,by rw[List.length_append,z3];omega,?_⟩
   ·refine cD.trans ((cD.refl D.flatten).app z2) ?_;simpa using hS
   ·rw[cy (by omega),cx,z4,bS,List.append_nil]
 ·simp at h3
theorem RD{r:AV→AV→AV→Heap→aB}{a0 a1 a2:AV}{σ:Heap}{q:AV×Heap}(h:r a0 a1 a2 σ=some q):A.wrap false [] .k (A.ke r) [a0,a1,a2] σ=some q:=by show(r a0 a1 a2 σ).map _=_;rw[h];rfl
theorem RB{r:AV→AV→Heap→aB}{a0 a1:AV}{σ:Heap}{q:AV×Heap}(h:r a0 a1 σ=some q):A.wrap false [] .k (A.dA r) [a0,a1] σ=some q:=by show(r a0 a1 σ).map _=_;rw[h];rfl
theorem WA(hc:qu dyn f)(hl:N<1000000000000){O:List aN}{W:Heap}(hN:O.length=N)(h:W[id]? =some (bF g O)):
  ∃Z,dL Z∧cD Z O∧Z.length=N∧zf dyn [bC id g N,f] W=some (.aD [],W.set id (bF g Z)):=by
 suffices hr:∃Z,dL Z∧cD Z O∧Z.length=N∧AN dyn [bC id g N,nI N,f] W=some (.aD [],W.set id (bF g Z)) by obtain⟨Z,h1,h2,h3,h4⟩:=hr;refine⟨Z,h1,h2,h3,RB ?_⟩;unfold Dt;rw[show A.aY (bC id g N)=some (nI N)from rfl,bS,h4,bS]
 obtain⟨D,_,R,d1,d2,d3,d4,b,d5⟩:=Wz hc hl hN h;have QD:D.flatten.length+R.length=N:=by rw[←d4,List.length_append]
 obtain⟨R2,r1,r2,r3,r4⟩:=LH (W:=W.set id (bF g (D.flatten++R))) (g:=g) (id:=id) hc (P:=D.flatten) (O:=R) (Q:=[]) (by rw[List.append_nil];exact d4) hl (by rw[lM h,List.append_nil]);rw[QD,List.append_nil,List.set_set]at r4;have r4':tT dyn [bC id g N,nI D.flatten.length,nI N,f] (W.set id (bF g (D.flatten++R)))=some (.aD [],W.set id (bF g (D.flatten++R2))):=r4
 obtain⟨q,hq,Z,u,z1,z2,z3,rfl⟩:∃q,A.loop ((λv9 Da=>
    (A.lss (ah v9 0) (nI N)).bind λbD=>
    A.cond bD (
     (A.mul (AV.int .i64 2) (ah v9 0)).bind λbw=>
     (A.loop (λfA rW=>
       (A.leq (ah fA 1) (nI N)).bind λbJ=>
       A.cond bJ (
        (A.add (ah fA 0) (ah v9 0)).bind λbz=>
        (sw dyn [(bC id g N),(ah fA 0),bz,(ah fA 1),f] rW).bind λeZ=>
        (A.mul (AV.int .i64 2) (ah v9 0)).bind λbZ=>
        (A.add (ah fA 1) bZ).bind λaT=>
        some (AX.normal,[(ah fA 1),aT],eZ.2)) (
        some (AX.exit 4,[(ah fA 0),(ah fA 1)],rW))) [br,bw] Da).bind λiC=>
     bif iC.1==AX.exit 4 then(
      (A.add (ah iC.2.1 0) (ah v9 0)).bind λcg=>
      (A.lss cg (nI N)).bind λcr=>
      (A.cond cr (
       (sw dyn [(bC id g N),(ah iC.2.1 0),cg,(nI N),f] iC.2.2).bind λko=>
       some (([]:aq),ko.2)) (
       some (([]:aq),iC.2.2))).bind λpW=>
      (A.mul (ah v9 0) (AV.int .i64 2)).bind λcQ=>
      some (AX.normal,[cQ],pW.2))else
     none) (
     some (AX.exit 2,[(ah v9 0)],Da)))) [.int .i64 20] (W.set id (bF g (D.flatten++R2)))=some q∧∃Z u,dL Z∧cD Z O∧Z.length=N∧q=(.exit 2,u,W.set id (bF g Z)):=by
  refine kG (λz u w=>∃(bs:Nat)(L:List (List aN))(T:List aN),0<bs∧JD bs L T∧cD (L.flatten++T) O∧(L.flatten++T).length=N∧z=N-bs∧u=[nI bs]∧w=W.set id (bF g (L.flatten++T))) ?_ (n:=N-20) ⟨20,D,R2,by omega,⟨d1,by omega,r1⟩,((cD.refl _).app r2).trans d3,by rw[List.length_append,r3];exact QD,rfl,rfl,rfl⟩;rintro z u w ⟨bs,L,T,hb,hB,hS,hn,rfl,rfl,rfl⟩;have hn':L.length*bs+T.length=N:=by rw[←hn,List.length_append,Em hB.b]
  simp only[ct];rw[fZ,bS];by_cases hlt:bs<N
  ·rw[cy hlt,cx];obtain⟨D',T',p1,p2,p3,p4,p5,b',p6⟩:=XQ (W:=W.set id (bF g (L.flatten++T))) (g:=g) (id:=id) hc hl hb hlt hB hS hn (lM h _);obtain⟨R',q1,q2,q3,q4⟩:=XP (W:=W.set id (bF g (D'.flatten++T'.flatten++T))) (g:=g) (id:=id) hc hl hb hlt p1 p2 p3 hB.r p4 p5 (lM h _);rw[List.set_set]at p6 q4;have hd':D'.flatten.length≤N:=by rw[←q3,List.length_append];omega
   refine .inl ⟨N-2*bs,[nI (2*bs)],W.set id (bF g (D'.flatten++R')),by omega,?_,2*bs,D',R',by omega,q1,q2,q3,rfl,rfl,rfl⟩;refine(iZ (PA (by omega)) _).trans ?_;rw[bS];refine(iZ p6 _).trans ?_;rw[bS];simp only[hJ,ct];rw[rz (by omega),bS,fZ,bS];refine(iZ q4 _).trans ?_;rw[bS,Yp (by omega),bS]
  ·rw[cB hlt,bT];refine .inr ⟨_,rfl,by simp,L.flatten++T,_,?_,hS,hn,rfl⟩;have hbT:=hB.r;rcases L with _|⟨x,_|⟨y,L⟩⟩
   ·exact hbT.2
   ·simp only[List.length_cons,List.length_nil,Nat.zero_add,Nat.one_mul]at hn';rw[List.length_eq_zero_iff.1 (show T.length=0 by omega)];simpa using(hB.b x (by simp)).2
   ·rw[List.length_cons,List.length_cons,Nat.succ_mul,Nat.succ_mul]at hn';omega
 refine⟨Z,z1,z2,z3,RD ?_⟩;unfold Du;refine(iZ d5 _).trans ?_;rw[bS];simp only[hJ,ct];rw[r4',bS];refine(iZ hq _).trans ?_;rw[bS];simp only[hJ]
end
end
section
set_option maxRecDepth 100000
noncomputable def zo (a0:bP) (a1:bP):Option Int:=
 if ¬(a0.unit=a1.unit)then
  if a0.unit<a1.unit then
   some (-1)
  else
  some 1
 else
 some (Lib.compareBytes a0.param.data.toList a1.param.data.toList)
theorem Tq{a0:bP}{a1:bP}{σ:Heap}{r:Int}(h:zo a0 a1=some r):Gj [(AV.agg (bV a0)),(AV.agg (bV a1))] σ=some ((AV.aj r),σ):=by
 refine uf (f:=Gk) (y0:=(AV.agg (bV a0))) (y1:=(AV.agg (bV a1))) (enc:=λr:Int=>(AV.aj r)) (T:=zo a0 a1) rfl rfl ?_ r h;unfold Gk zo;refine aI _ rfl<|aI _ rfl<|aI _ rfl<|aI _ rfl<|aI _ (rF _ _ _) ?_;refine rB (p:=¬(a0.unit=a1.unit)) (λc2=>?_) (λc2=>?_)
 ·refine aI _ rfl<|aI _ rfl<|aI _ rfl ?_;refine rB (p:=a0.unit<a1.unit) (λc1=>?_) (λc1=>?_)
  ·exact jx _ (ep _ _) ⟨rfl,rfl⟩
  exact jx _ (ep _ _) ⟨rfl,rfl⟩
 refine aI _ rfl<|aI _ rfl<|aI _ rfl ?_;exact jx _ (ep _ _) ⟨rfl,rfl⟩
noncomputable def DG (a0:aN) (a1:aN):Option Int:=(zo a0.key a1.key).bind λr1=>some r1
theorem S9{a0:aN}{a1:aN}{σ:Heap}{r:Int}(h:DG a0 a1=some r):tV [(AV.agg (aC a0)),(AV.agg (aC a1))] σ=some ((AV.aj r),σ):=by refine uf (f:=Ge) (y0:=(AV.agg (aC a0))) (y1:=(AV.agg (aC a1))) (enc:=λr:Int=>(AV.aj r)) (T:=DG a0 a1) rfl rfl ?_ r h;unfold Ge DG;refine aI _ rfl<|aI _ rfl<|aI _ rfl<|aI _ rfl ?_;refine uL (λr1:Int=>((AV.aj r1),σ)) (λr1 mB=>Tq mB) (λr1 mB=>?_);exact jx _ (ep _ _) ⟨rfl,rfl⟩
end
section
open HP
section
variable {aO σ : Heap} {R : HP}
theorem It{v v':AV}(H:Hs eD aO σ R)(h:A.bM σ aO.length 8 v=some v')(hv:σ=aO→v'=v):A.fin aO v σ=some (v',aO):=by
 obtain⟨⟨bs,rfl,_⟩,_⟩:=H;by_cases pR:bs=[]
 ·subst pR;rw[List.append_nil]at h ⊢;rw[ep,hv (by simp)]
 ·unfold A.fin;rw[aQ (by simpa using pR),aP (by simp),h];rfl
end
end
section
open HP
def Inv(k:Nat)(l:List uD):Prop:=l.length≤1000∧∀c∈l,Qp c.E4∧c.E4.length≤2000+k
section
variable {aO σ : Heap} {R : HP}
end
end
section
open HP
section
variable {α β : Type} {E : aq → β → HP} {f : α → β} {B : bu → Prop} {aO σ : Heap} {R : HP} {sz : Nat} {v : AV}
end
section
variable {aO σ : Heap} {R : HP} {v : AV}
theorem Yo{α:Type}{c:α→aq}{sz:Nat}{l:List α}{vm:AV}(hc:∀x,lN (c x))(H:Hs eD aO σ (Sl (fl c) sz vm l*R)):Lt σ (.s sz) vm (sl sz c l):=by
 obtain⟨v',h1,h2,h3⟩:=IG H hc (lH _) 7;refine⟨⟨v',h1,?_,by rw[h3];rfl⟩,rfl,λho=>?_⟩
 ·rcases qP H with⟨rfl,rfl|rfl,_⟩|⟨id,g,rfl,K⟩
  ·simp [A.bM]at h1;subst h1;rfl
  ·simp [A.bM]at h1;subst h1;rfl
  ·cases v'<;>first|rfl|(cases h2;done)|(simp only[A.nn]at h3;cases h3)
 ·rcases qP H with⟨rfl,rfl|rfl,_⟩|⟨id,g,rfl,K⟩
  ·rfl
  ·rfl
  ·cases ho
end
end
section
open HP
theorem Ca(a b:AV):A.ext 0 (.aD [a,b])=some a:=rfl
theorem ext1(a b:AV):A.ext 1 (.aD [a,b])=some b:=rfl
theorem PM(a:Int):A.neq .i (.aj a) (.aj 0)=some (.bool (decide (¬(a=0)))):=by rw[rF]
end
section
open HP
def Yr(n:Int):uD:=⟨n,⟨#[]⟩,0,0,0,0,⟨1,[]⟩,false,-1,[]⟩
def newRow(n:Int):aq:=YN (Yr n) .au .au
section
variable {aO σ : Heap} {R : HP}
end
end
section
open HP
section
variable {aO σ : Heap} {R : HP}
theorem ED{α:Type}{c:α→aq}{sz:Nat}{B:bu→Prop}{v:AV}{l:List α}(hc:∀x,lN (c x))(H:Hs B aO σ (Sl (fl c) sz v l*R)):∃v',A.fin aO v σ=some (v',aO)∧A.nn (.s sz) v'=sl sz c l:=by
 obtain⟨v',h1,h2,h3⟩:=IG H hc (bU _) 7;refine⟨v',It (ON H) h1 (λe=>?_),h3⟩;rcases qP H with⟨rfl,rfl|rfl,_⟩|⟨id,g,rfl,K⟩
 ·simp [A.bM]at h1;rw[h1]
 ·simp [A.bM]at h1;rw[h1]
 ·obtain⟨k1,k2⟩:=qj K;have:=(cq.1 k2).1;subst e;omega
end
end
section
set_option maxRecDepth 100000
open HP
structure jf (l R : List aN) : Prop where
 vu:R.Pairwise λx y=>bH x y=true
 mem:∀s,s∈R↔(fk s.key l).getLast? =some s
theorem jf.stS{l Z R:List aN}(h:jf Z R)(k:cD Z l):jf l R:=⟨h.vu,λs=>by rw[h.mem,k]⟩
theorem NI:∀{R S:List aN},R.Pairwise (λx y=>bH x y=true)→S.Pairwise (λx y=>bH x y=true)→(∀s,s∈R↔s∈S)→R=S
 |[],[],_,_,_=>rfl
 |[],y::S,_,_,h=>by have:=(h y).2 (by simp);simp at this
 |x::R,[],_,_,h=>by have:=(h x).1 (by simp);simp at this
 |x::R,y::S,hR,hS,h=>by
  obtain⟨r1,r2⟩:=List.pairwise_cons.1 hR;obtain⟨s1,s2⟩:=List.pairwise_cons.1 hS;have Ka:∀z,bH z z≠true:=λz e=>uk e rfl
  have e:x=y:=by
   rcases eu.1 ((h x).1 (by simp))with e|e
   ·exact e
   ·rcases eu.1 ((h y).2 (by simp))with e'|e'
    ·exact e'.symm
    ·exact absurd (ET (s1 x e) (r1 y e')) (Ka y)
  subst e;rw[NI r2 s2 λs=>⟨λq=>?_,λq=>?_⟩]
  ·rcases eu.1 ((h s).1 (by simp [q]))with e|e
   ·subst e;exact absurd (r1 s q) (Ka s)
   ·exact e
  ·rcases eu.1 ((h s).2 (by simp [q]))with e|e
   ·subst e;exact absurd (s1 s q) (Ka s)
   ·exact e
theorem jf.uniq{l R S:List aN}(h:jf l R)(k:jf l S):R=S:=NI h.vu k.vu λs=>by rw[h.mem,k.mem]
def vi(x:aN):List aN→Prop
 |[]=>True
 |y::_=>¬(y.key=x.key)
instance (x : aN) (l : List aN) : Decidable (vi x l) := by cases l <;> unfold vi <;> infer_instance
def kl:List aN→List aN
 |[]=>[]
 |x::t=>(if vi x t then[x]else[])++kl t
theorem OP:∀{l:List aN}{s},s∈kl l→s∈l
 |x::t,s,h=>by
  unfold kl at h;rcases ew.1 h with e|e
  ·split at e
   ·rw[List.mem_singleton.1 e];simp
   ·simp at e
  ·exact uB _ (OP e)
theorem N4:∀{Z:List aN},dL Z→jf Z (kl Z)
 |[],_=>⟨List.Pairwise.nil,λs=>by simp [kl]⟩
 |x::t,h=>by
  obtain⟨h1,h2⟩:=List.pairwise_cons.1 h;have ih:=N4 h2;by_cases hk:vi x t
  ·have hlt:∀y∈t,bH x y=true:=by
    cases t with
    |nil=>simp
    |cons y t=>
     have hne:¬(y.key=x.key):=hk
     have hxy:bH x y=true:=by
      cases q:bH x y with
      |true=>rfl
      |false=>exact absurd (Ig (h1 y (by simp)) q) hne
     intro z hz;rcases eu.1 hz with rfl|e
     ·exact hxy
     ·exact Qf hxy ((List.pairwise_cons.1 h2).1 z e)
   have e:kl (x::t)=x::kl t:=by show(if vi x t then[x]else[])++kl t=_;rw[aP hk];rfl
   rw[e];refine⟨List.pairwise_cons.2 ⟨λy hy=>hlt y (OP hy),ih.vu⟩,λs=>?_⟩
   have hf:fk s.key (x::t)=if x.key=s.key then[x]else fk s.key t:=by
    show(x::t).filter _=_;rw[List.filter_cons];by_cases q:x.key=s.key
    ·rw[aP (by simpa using q),aP q]
     have:t.filter (λz=>decide (z.key=s.key))=[]:=by rw[List.filter_eq_nil_iff];intro y hy e;exact uk (hlt y hy) (by rw[q,of_decide_eq_true e])
     rw[this]
    ·rw[aQ (by simpa using q),aQ q]
   rw[hf,eu,ih.mem];by_cases q:x.key=s.key
   ·rw[aP q];constructor
    ·rintro(rfl|e)
     ·rfl
     ·have:s∈fk s.key t:=List.mem_of_getLast? e;exact absurd (by rw[q]) (uk (hlt s (List.mem_filter.1 this).1))
    ·intro e;left;simpa using e.symm
   ·rw[aQ q];exact⟨λo=>o.resolve_left λe=>q (by rw[e]),.inr⟩
  ·cases t with
   |nil=>exact absurd trivial hk
   |cons y t=>
    have hy:y.key=x.key:=Classical.not_not.1 hk;have e:kl (x::y::t)=kl (y::t):=by show(if vi x (y::t)then[x]else[])++kl (y::t)=_;rw[aQ hk];rfl
    rw[e];refine⟨ih.vu,λs=>?_⟩;rw[ih.mem]
    have:(fk s.key (x::y::t)).getLast? =(fk s.key (y::t)).getLast? :=by
     show((x::y::t).filter _).getLast? =((y::t).filter _).getLast?;by_cases q:x.key=s.key
     ·have q':y.key=s.key:=by rw[hy,q]
      simp [List.filter_cons,q,q']
     ·have q':¬y.key=s.key:=by rw[hy];exact q
      simp [List.filter_cons,q,q']
    rw[this]
noncomputable abbrev Rs : Nat → aq → Heap → aB := A.tab (fun _ _ => none) [(147, tV)]
theorem V8(a b:bP):zo a b=some (zY a b):=by
 unfold zo zY;by_cases h:a.unit=b.unit
 ·simp [h]
 ·by_cases h2:a.unit<b.unit<;>simp [h,h2]
theorem Yz:qu Rs (.fn 147 []):=λx y W=>by have:tV [.agg (aC x),.agg (aC y)] W=some (.int .i64 (zY x.key y.key),W):=S9 (by unfold DG;rw[V8,bS]);have e:A.fC Rs (.fn 147 []) [.agg (aC x),.agg (aC y)] W=tV [.agg (aC x),.agg (aC y)] W:=rfl;rw[e,this];exact D1 _ _
theorem Xn(x:aN)(t:List aN):kl (x::t)=(if vi x t then[x]else[])++kl t:=rfl
theorem Zd{aO σ:Heap}{R:HP}{v:AV}{l:List aN}(k:aN)(hl:l.length<1000000000)(H:Hs eD aO σ (Sl (fl aC) 3 v l*R)):∃v' σ',A.append 3 (140737488355328 / 32) v (.sl 3 [aC k]) σ=some (v',σ')∧Hs eD aO σ' (Sl (fl aC) 3 v' (l++[k])*R):=
 IF (ys:=[aC k]) (xs:=[k]) (kI (show pr (aC k=aC k)*(Sl (fl aC) 3 v l*R)=_ by
  rw[show els (fl aC) [aC k] [k]=pr (aC k=aC k)*emp from rfl,zD,xp];ac_rfl) (uw.2 ⟨rfl,H⟩)) (by simp;omega) (λ_ _ _ _=>trivial)
theorem VD{id g n:Nat}{Z:List aN}{aO W:Heap}(hn:Z.length=n)(hl:n<1000000000){R:HP}(H:Hs eD aO W (blk id (bF g Z)*R)):
  ∃v i W',A.loop ((λv4 s5=>
   (A.lss (ah v4 1) (AV.int .i64 (n:Int))).bind λx7=>
   A.cond x7 (
    (A.aK 3 (bC id g n) (ah v4 1)).bind λx8=>
    ((A.deref x8 s5).bind λc9=>A.aA 0 3 c9).bind λaS=>
    (A.cells 3 aS).bind λgd=>
    (A.aH 0 gd [br,aR,br]).bind λdD=>
    (A.add (ah v4 1) cJ).bind λbw=>
    (A.aY (bC id g n)).bind λbG=>
    (A.eql .i bw bG).bind λaW=>
    (A.guard aW false (some (bC id g n)) an).bind λbE=>
    (A.guard aW false (some (ah v4 1)) an).bind λbJ=>
    (A.guard aW false (A.add bJ cJ) an).bind λbz=>
    (A.guard aW false (A.aK 3 bE bz) an).bind λbY=>
    (A.guard aW false (A.eG 0 bY) an).bind λbZ=>
    (A.guard aW false ((A.deref bZ s5).bind λmo=>A.aA 0 2 mo) an).bind λbO=>
    (A.guard aW false (A.aA 0 2 dD) an).bind λcg=>
    (A.guard aW false (A.neq (.s [0,2]) bO cg) an).bind λcr=>
    (A.pick aW cY cr).bind λck=>
    (A.cond ck (
     (A.aA 0 3 dD).bind λcQ=>
     (((A.cells 3 cQ).bind λjF=>(A.aH 0 jF [br,aR,br]).bind λpL=>some pL).bind λcs=>some (AV.sl 3 (dK 3 1 cs))).bind λcA=>
     (A.append 3 (140737488355328 / 32) (ah v4 0) cA s5).bind λlU=>
     some ([lU.1],lU.2)) (
     some ([(ah v4 0)],s5))).bind λko=>
    (A.add (ah v4 1) cJ).bind λcK=>
    some (AX.normal,[(ah ko.1 0),cK],ko.2)) (
    some (AX.exit 0,[(ah v4 0),(ah v4 1)],s5)))) [.au,.int .i64 0] W=some (.exit 0,[v,i],W')∧Hs eD aO W' (Sl (fl aC) 3 v (kl Z)*(blk id (bF g Z)*R)):=by
 suffices hq:∃q,A.loop ((λv4 s5=>
   (A.lss (ah v4 1) (AV.int .i64 (n:Int))).bind λx7=>
   A.cond x7 (
    (A.aK 3 (bC id g n) (ah v4 1)).bind λx8=>
    ((A.deref x8 s5).bind λc9=>A.aA 0 3 c9).bind λaS=>
    (A.cells 3 aS).bind λgd=>
    (A.aH 0 gd [br,aR,br]).bind λdD=>
    (A.add (ah v4 1) cJ).bind λbw=>
    (A.aY (bC id g n)).bind λbG=>
    (A.eql .i bw bG).bind λaW=>
    (A.guard aW false (some (bC id g n)) an).bind λbE=>
    (A.guard aW false (some (ah v4 1)) an).bind λbJ=>
    (A.guard aW false (A.add bJ cJ) an).bind λbz=>
    (A.guard aW false (A.aK 3 bE bz) an).bind λbY=>
    (A.guard aW false (A.eG 0 bY) an).bind λbZ=>
    (A.guard aW false ((A.deref bZ s5).bind λmo=>A.aA 0 2 mo) an).bind λbO=>
    (A.guard aW false (A.aA 0 2 dD) an).bind λcg=>
    (A.guard aW false (A.neq (.s [0,2]) bO cg) an).bind λcr=>
    (A.pick aW cY cr).bind λck=>
    (A.cond ck (
     (A.aA 0 3 dD).bind λcQ=>
     (((A.cells 3 cQ).bind λjF=>(A.aH 0 jF [br,aR,br]).bind λpL=>some pL).bind λcs=>some (AV.sl 3 (dK 3 1 cs))).bind λcA=>
     (A.append 3 (140737488355328 / 32) (ah v4 0) cA s5).bind λlU=>
     some ([lU.1],lU.2)) (
     some ([(ah v4 0)],s5))).bind λko=>
    (A.add (ah v4 1) cJ).bind λcK=>
    some (AX.normal,[(ah ko.1 0),cK],ko.2)) (
    some (AX.exit 0,[(ah v4 0),(ah v4 1)],s5)))) [.au,.int .i64 0] W=some q∧∃v i W',q=(.exit 0,[v,i],W')∧Hs eD aO W' (Sl (fl aC) 3 v (kl Z)*(blk id (bF g Z)*R)) by
  obtain⟨q,e,v,i,W',rfl,h⟩:=hq;exact⟨v,i,W',e,h⟩
 refine kG (λz u w=>∃(i:Nat)(v:AV)(T:List aN),i≤n∧z=n-i∧u=[v,.int .i64 (i:Int)]∧T.length≤i∧T++kl (Z.drop i)=kl Z∧Hs eD aO w (Sl (fl aC) 3 v T*(blk id (bF g Z)*R))) ?_ (n:=n) ⟨0,.au,[],lH _,rfl,rfl,bU _,rfl,vr H (.inl rfl)⟩;rintro z u w ⟨i,v,T,hi,rfl,rfl,hT,hk,HK⟩;simp only[ct,dg];rw[fZ,bS];obtain⟨_,hg⟩:=qj (kI (Q:=blk id (bF g Z)*(Sl (fl aC) 3 v T*R)) (by ac_rfl) HK);by_cases hlt:i<n
 ·have hd:Z.drop i=Z[i]'(by omega)::Z.drop (i+1):=List.drop_eq_getElem_cons (by omega)
  have hx:Z[i]? =some (Z[i]'(by omega)):=cu _
  generalize Z[i]'(by omega)=x at hd hx
  rw[cy hlt,cx,lg hlt,bS,n5 hg hx,bS,p7,bS,show A.aH 0 (aC x) [br,aR,br]=some (aC x)from rfl,bS,kK (by omega),bS,show A.aY (bC id g n)=some (.int .i64 (n:Int))from rfl,bS,rE,bS]
  have IN:∀K:AV→Option LS,((A.guard (.bool (decide (((i+1:Nat):Int)=(n:Int)))) false (some (bC id g n)) (some (.aD []))).bind λbE=>(A.guard (.bool (decide (((i+1:Nat):Int)=(n:Int)))) false (some (.int .i64 (i:Int))) (some (.aD []))).bind λbJ=>(A.guard (.bool (decide (((i+1:Nat):Int)=(n:Int)))) false (A.add bJ (.int .i64 1)) (some (.aD []))).bind λbz=>(A.guard (.bool (decide (((i+1:Nat):Int)=(n:Int)))) false (A.aK 3 bE bz) (some (.aD []))).bind λbY=>(A.guard (.bool (decide (((i+1:Nat):Int)=(n:Int)))) false (A.eG 0 bY) (some (.aD []))).bind λbZ=>(A.guard (.bool (decide (((i+1:Nat):Int)=(n:Int)))) false ((A.deref bZ w).bind λmo=>A.aA 0 2 mo) (some (.aD []))).bind λbO=>(A.guard (.bool (decide (((i+1:Nat):Int)=(n:Int)))) false (A.aA 0 2 (aC x)) (some (.aD []))).bind λcg=>(A.guard (.bool (decide (((i+1:Nat):Int)=(n:Int)))) false (A.neq (.s [0,2]) bO cg) (some (.aD []))).bind λcr=>(A.pick (.bool (decide (((i+1:Nat):Int)=(n:Int)))) (.bool true) cr).bind K)=K (.bool (decide (vi x (Z.drop (i+1))))):=by
   intro K;by_cases hl:i+1=n
   ·rw[cy (show((i+1:Nat):Int)=(n:Int) by omega),List.drop_of_length_le (by omega)];simp only[Fq,bS,ng];rfl
   ·have hd2:Z.drop (i+1)=Z[i+1]'(by omega)::Z.drop (i+1+1):=List.drop_eq_getElem_cons (by omega)
    have hy:Z[i+1]? =some (Z[i+1]'(by omega)):=cu _
    generalize Z[i+1]'(by omega)=y at hd2 hy
    rw[cB (show ¬((i+1:Nat):Int)=(n:Int) by omega),hd2];rw[gF,bS,gF,bS,gF,kK (by omega),bS,gF,lg (by omega),bS,gF,show A.eG 0 (.oe id g (i+1) 0)=some (.oe id g (i+1) 0)from rfl,bS,gF]
    have hkr:((A.deref (.oe id g (i+1) 0) w).bind λc=>A.aA 0 2 c)=some (.agg (bV y.key)):=by simp only[A.deref,hg,if_true,Aj,hy,eO,List.drop_zero];rfl
    rw[hkr,bS,gF,show A.aA 0 2 (aC x)=some (.agg (bV x.key))from rfl,bS,gF,Yq,bS,tN,bS];rfl
  rw[IN];have hkc:=Xn x (Z.drop (i+1));rw[←hd]at hkc;by_cases hq:vi x (Z.drop (i+1))
  ·rw[aP hq]at hkc;rw[cy hq,cx,show A.aA 0 3 (aC x)=some (.agg (aC x))from rfl,bS,show(((A.cells 3 (.agg (aC x))).bind λjF=>(A.aH 0 jF [br,aR,br]).bind λpL=>some pL).bind λcs=>some (AV.sl 3 (dK 3 1 cs)))=some (.sl 3 [aC x])from rfl,bS];obtain⟨v2,W2,f1,f2⟩:=Zd x (by omega) HK;rw[f1,bS,bS];refine .inl ⟨n-(i+1),_,_,by omega,rfl,i+1,v2,T++[x],hlt,rfl,rfl,by simp;omega,?_,f2⟩;rw[←hk,hkc];simp
  ·rw[aQ hq]at hkc;rw[cB hq,bT,bS];refine .inl ⟨n-(i+1),_,_,by omega,rfl,i+1,v,T,hlt,rfl,rfl,by omega,?_,HK⟩;rw[←hk,hkc];simp
 ·rw[cB hlt,bT];rw[show Z.drop i=[]from List.drop_of_length_le (by omega),show kl []=[]from rfl,List.append_nil]at hk;exact .inr ⟨_,rfl,by simp,v,_,w,rfl,by rw[←hk];exact HK⟩
theorem D8{f:aq→Heap→Option LS}{v:aq}{σ:Heap}{q:LS}(h:f v σ=some q)(hq:q.1≠.normal):A.loop f v σ=some q:=(qh h hq).elim λ_ h=>w9 h
theorem PT{aO σ:Heap}{R:HP}{l:List aN}(hl:l.length≤1000000000)(H:Hs eD aO σ R):∃v σ',p9 [sl 3 aC l] σ=some (v,σ')∧A.cell v=some v∧Hs eD aO σ' (Sl (fl aC) 3 v l*R):=
 WU (most:=140737488355328 / 32) (r:=λ_ _=>none) rfl (λ_ _=>rfl) (by omega) (λ_ _ _ _=>trivial) H
theorem Va(dyn:Nat→aq→Heap→aB)(f:AV)(W:Heap){v:AV}(hv:v=.au∨v=.ez):zf dyn [v,f] W=some (.aD [],W):=by
 refine RB ?_;unfold Dt;rw[show A.aY v=some (.int .i64 0) by rcases hv with rfl|rfl<;>rfl,bS]
 have hi:tT dyn [v,.int .i64 0,.int .i64 0,f] W=some (.aD [],W):=by refine RE rfl ?_;unfold Dq;rw[show A.add (.int .i64 0) (.int .i64 1)=some (.int .i64 1)from rz (a:=0) (b:=1) (by omega),bS];refine(iZ (D8 (q:=(.exit 0,[.int .i64 1],W)) (by rfl) (by simp)) _).trans ?_;rw[bS];simp only[hJ]
 have hs:AN dyn [v,.int .i64 0,f] W=some (.aD [],W):=by refine RD ?_;unfold Du;refine(iZ (D8 (q:=(.exit 0,[.int .i64 0,.int .i64 20],W)) (by rfl) (by simp)) _).trans ?_;rw[bS];simp only[hJ,ct];rw[hi,bS];refine(iZ (D8 (q:=(.exit 2,[.int .i64 20],W)) (by rfl) (by simp)) _).trans ?_;rw[bS];simp only[hJ]
 rw[hs,bS]
theorem Wy{l:List aN}(hl:l.length≤900000)(σ:Heap):∃R,jf l R∧A7 [sl 3 aC l] σ=some (sl 3 aC R,σ):=by
 suffices hr:∃R v',jf l R∧A8 (sl 3 aC l) σ=some (v',σ)∧A.nn (.s 3) v'=sl 3 aC R by obtain⟨R,v',h1,h2,h3⟩:=hr;refine⟨R,h1,?_⟩;show(A8 (sl 3 aC l) σ).map _=_;rw[h2,eO];exact congrArg (λz=>some (z,σ)) h3
 unfold A8;obtain⟨v,W1,e1,_,H1⟩:=PT (aO:=σ) (l:=l) (by omega) (BK σ);rw[e1,bS];rcases By H1 with⟨rfl,hv,H2⟩|⟨id,g,seg,rfl,P9,H2⟩
 ·rw[Va _ _ _ hv,bS,show A.aY v=some (.int .i64 0) by rcases hv with rfl|rfl<;>rfl,bS];obtain⟨v',f1,f2⟩:=ED (c:=aC) (sz:=3) zx (vr (v:=.au) H2 (.inl rfl));refine⟨[],v',⟨List.Pairwise.nil,λs=>by simp⟩,?_,f2⟩;refine(iZ (D8 (q:=(.exit 0,[.au,.int .i64 0],W1)) (by rfl) (by simp)) _).trans ?_;rw[bS];simp only[hJ,ct];exact f1
 ·obtain⟨rfl,H3⟩:=zZ.1 (kI (Q:=els (fl aC) seg l*(blk id (.arr g 3 seg)*emp)) (by ac_rfl) H2);obtain⟨_,hg⟩:=qj H3;obtain⟨Z,z1,z2,z3,z4⟩:=WA Yz (N:=l.length) (by omega) rfl hg;rw[show zf (A.tab (λ_ _=>none) [(147,tV)]) [.os id g 3 0 l.length,.fn 147 []] W1=some (.aD [],W1.set id (bF g Z))from z4,bS,show A.aY (.os id g 3 0 l.length)=some (.int .i64 (l.length:Int))from rfl,bS];obtain⟨w,i,W',k1,k2⟩:=VD (n:=l.length) z3 (by omega) (BL (b':=bF g Z) H3 trivial);obtain⟨v',f1,f2⟩:=ED (c:=aC) (sz:=3) zx k2;refine⟨kl Z,v',(N4 z1).stS z2,?_,f2⟩;refine(iZ k1 _).trans ?_;rw[bS];simp only[hJ,ct];exact f1
end
section
set_option maxRecDepth 100000
open HP
theorem jf.ins{l T1 T2:List aN}{s:aN}(h:jf l (T1++T2))(h1:∀x∈T1,bH x s=true)(h2:∀y,T2.head? =some y→bH y s=false∧¬(y.key=s.key)):jf (l++[s]) (T1++s::T2):=by
 obtain⟨a1,a2,a3⟩:=List.pairwise_append.1 h.vu
 have h2':∀y∈T2,bH s y=true:=by
  intro y hy;cases T2 with
  |nil=>simp at hy
  |cons z T2=>
   obtain⟨q1,q2⟩:=h2 z rfl
   have hz:bH s z=true:=by
    cases q:bH s z with
    |true=>rfl
    |false=>exact absurd (Ig q1 q) q2
   rcases eu.1 hy with rfl|e
   ·exact hz
   ·exact ET hz ((List.pairwise_cons.1 a2).1 y e)
 refine⟨List.pairwise_append.2 ⟨a1,List.pairwise_cons.2 ⟨h2',a2⟩,λx hx y hy=>?_⟩,λx=>?_⟩
 ·rcases eu.1 hy with rfl|e
  ·exact h1 x hx
  ·exact a3 x hx y e
 ·have hf:fk x.key (l++[s])=fk x.key l++(if s.key=x.key then[s]else[]):=by show(l++[s]).filter _=_;rw[List.filter_append];congr 1;by_cases q:s.key=x.key<;>simp [q]
  rw[hf];by_cases q:s.key=x.key
  ·rw[aP q,List.getLast?_concat];constructor
   ·intro e;rcases ew.1 e with e|e
    ·exact absurd q.symm (uk (h1 x e))
    ·rcases eu.1 e with e|e
     ·rw[e]
     ·exact absurd q (uk (h2' x e))
   ·intro e;cases e;simp
  ·rw[aQ q,List.append_nil,←h.mem];have:x≠s:=λe=>q (by rw[e])
   simp [this]
theorem jf.upd{l T1 T2:List aN}{s y:aN}(h:jf l (T1++y::T2))(hk:y.key=s.key):jf (l++[s]) (T1++s::T2):=by
 obtain⟨a1,a2,a3⟩:=List.pairwise_append.1 h.vu;obtain⟨a4,a5⟩:=List.pairwise_cons.1 a2;have h1:∀x∈T1,bH x s=true:=λx hx=>by have:=a3 x hx y (by simp);unfold bH at this ⊢;rw[←hk];exact this
 have h2':∀z∈T2,bH s z=true:=λz hz=>by have:=a4 z hz;unfold bH at this ⊢;rw[←hk];exact this
 refine⟨List.pairwise_append.2 ⟨a1,List.pairwise_cons.2 ⟨h2',a5⟩,λx hx z hz=>?_⟩,λx=>?_⟩
 ·rcases eu.1 hz with rfl|e
  ·exact h1 x hx
  ·exact a3 x hx z (by simp [e])
 ·have hf:fk x.key (l++[s])=fk x.key l++(if s.key=x.key then[s]else[]):=by show(l++[s]).filter _=_;rw[List.filter_append];congr 1;by_cases q:s.key=x.key<;>simp [q]
  rw[hf];by_cases q:s.key=x.key
  ·rw[aP q,List.getLast?_concat];constructor
   ·intro e;rcases ew.1 e with e|e
    ·exact absurd q.symm (uk (h1 x e))
    ·rcases eu.1 e with e|e
     ·rw[e]
     ·exact absurd q (uk (h2' x e))
   ·intro e;cases e;simp
  ·rw[aQ q,List.append_nil,←h.mem];have e1:x≠s:=λe=>q (by rw[e])
   have e2:x≠y:=λe=>q (by rw[e,hk])
   simp [e1,e2]
theorem wP(cs:aq):A.lb (.lbx cs)=some cs:=rfl
theorem WM(a b:bP)(σ:Heap):A.quiet (vG [.agg (bV a),.agg (bV b)] σ) σ=some (.bool (iT a b)):=by
 refine qS (LF ?_);unfold DT iT;by_cases h:a.unit=b.unit
 ·simp [h,Bz]
 ·by_cases h2:a.unit<b.unit<;>simp [h,h2]
theorem ZP{aO σ:Heap}{R:HP}{v:AV}{l:List aN}{m:aN}{i:Nat}(hi:i≤l.length)(hl:l.length<1000000000)(H:Hs eD aO σ (Sl (fl aC) 3 v l*R)):
  ∃v' σ',zh [v,.int .i64 (i:Int),.sl 3 [aC m]] σ=some (v',σ')∧Hs eD aO σ' (Sl (fl aC) 3 v' (l.take i++[m]++l.drop i)*R):=by
 obtain⟨v',σ',e,H2⟩:=O2 (most:=140737488355328 / 32) (zs:=[br,aR,br]) (tO:=AO) (B:=eD) (E:=fl aC) (y:=m) (ye:=aC m)
  (kI (show pr (aC m=aC m)*(Sl (fl aC) 3 v l*R)=_ by rw[show fl aC (aC m) m=pr (aC m=aC m)from rfl];ac_rfl) (uw.2 ⟨rfl,H⟩)) hi (by omega) (by omega) (λ_ _ _ _ _=>trivial)
 refine⟨v',σ',?_,H2⟩;unfold zh A.wrap;rw[Bool.false_and,aV,show A.cj [] [v,.int .i64 (i:Int),.sl 3 [aC m]]=[v,.int .i64 (i:Int),.sl 3 [aC m]] by simp [A.cj]];show(Dz v (.int .i64 (i:Int)) (.sl 3 [aC m]) σ).map _=_;rw[show Dz v (.int .i64 (i:Int)) (.sl 3 [aC m]) σ=some (v',σ')from e];simp [j0]
theorem JC{id g i:Nat}{w:Heap}{T:List aN}{x:aN}(hg:w[id]? =some (bF g T))(hx:T[i]? =some x):((A.deref (.oe id g i 0) w).bind λc=>A.aA 0 2 c)=some (.agg (bV x.key)):=by simp only[A.deref,hg,if_true,Aj,hx,eO,List.drop_zero];rfl
theorem Y8{v:AV}{T:List aN}{s:aN}{aO W:Heap}{R:HP}(hl:T.length<1000000000)(H:Hs eD aO W (Sl (fl aC) 3 v T*R)):
  ∃T1 T2,T=T1++T2∧(∀x∈T1,bH x s=true)∧(∀y,T2.head? =some y→bH y s=false)∧A.loop ((λv11 e9=>
      (A.aY v).bind λbG=>
      (A.lss (ah v11 1) bG).bind λaW=>
      (A.guard aW true (some v) an).bind λbE=>
      (A.guard aW true (some (ah v11 1)) an).bind λbJ=>
      (A.guard aW true (A.aK 3 bE bJ) an).bind λbz=>
      (A.guard aW true (A.eG 0 bz) an).bind λbY=>
      (A.guard aW true ((A.deref bY e9).bind λdN=>A.aA 0 2 dN) an).bind λaT=>
      ((A.lb (ah v11 0)).bind λ_=>some (0)).bind λvk=>
            (A.guard aW true ((A.lb (ah v11 0)).bind λeW=>A.aA vk 2 eW) an).bind λcr=>
      (A.guard aW true (A.quiet (vG [aT,cr] e9) e9) an).bind λck=>
      (A.pick aW ck aU).bind λcH=>
      A.cond cH (
       (A.add (ah v11 1) cJ).bind λcQ=>
       some (AX.normal,[(ah v11 0),cQ],e9)) (
       some (AX.exit 2,[(ah v11 0),(ah v11 1)],e9)))) [.lbx (aC s),.int .i64 0] W=some (.exit 2,[.lbx (aC s),nI T1.length],W):=by
 suffices hq:∃q,A.loop ((λv11 e9=>
      (A.aY v).bind λbG=>
      (A.lss (ah v11 1) bG).bind λaW=>
      (A.guard aW true (some v) an).bind λbE=>
      (A.guard aW true (some (ah v11 1)) an).bind λbJ=>
      (A.guard aW true (A.aK 3 bE bJ) an).bind λbz=>
      (A.guard aW true (A.eG 0 bz) an).bind λbY=>
      (A.guard aW true ((A.deref bY e9).bind λdN=>A.aA 0 2 dN) an).bind λaT=>
      ((A.lb (ah v11 0)).bind λ_=>some (0)).bind λvk=>
            (A.guard aW true ((A.lb (ah v11 0)).bind λeW=>A.aA vk 2 eW) an).bind λcr=>
      (A.guard aW true (A.quiet (vG [aT,cr] e9) e9) an).bind λck=>
      (A.pick aW ck aU).bind λcH=>
      A.cond cH (
       (A.add (ah v11 1) cJ).bind λcQ=>
       some (AX.normal,[(ah v11 0),cQ],e9)) (
       some (AX.exit 2,[(ah v11 0),(ah v11 1)],e9)))) [.lbx (aC s),.int .i64 0] W=some q∧∃T1 T2,T=T1++T2∧(∀x∈T1,bH x s=true)∧(∀y,T2.head? =some y→bH y s=false)∧q=(.exit 2,[.lbx (aC s),nI T1.length],W) by
  obtain⟨q,e,T1,T2,h1,h2,h3,rfl⟩:=hq;exact⟨T1,T2,h1,h2,h3,e⟩
 refine kG (λz u w=>∃T1 T2,T=T1++T2∧(∀x∈T1,bH x s=true)∧z=T2.length∧u=[.lbx (aC s),nI T1.length]∧w=W) ?_ (n:=T.length) ⟨[],T,rfl,by simp,rfl,rfl,rfl⟩;rintro z u w ⟨T1,T2,rfl,h1,rfl,rfl,rfl⟩;simp only[ct,dg];rw[BM H,bS,fZ,bS];cases T2 with
 |nil=>rw[cB (by simp)];simp only[qD,wP,bS,tN,bT];exact .inr ⟨_,rfl,by simp,T1,[],rfl,h1,by simp,rfl⟩
 |cons y T2=>
  rcases qP H with⟨h,_,_⟩|⟨id,g,rfl,K⟩
  ·simp at h
  obtain⟨_,hg⟩:=qj K;have hy:(T1++y::T2)[T1.length]? =some y:=by simp
  rw[cy (by simp)];simp only[gT,wP,bS,ng];rw[lg (by simp),bS];rw[show A.eG 0 (.oe id g T1.length 0)=some (.oe id g T1.length 0)from rfl,bS];rw[JC hg hy,bS];rw[show A.aA 0 2 (aC s)=some (.agg (bV s.key))from rfl,bS,WM,bS];cases q:iT y.key s.key with
  |true=>
   rw[cx,kK (by simp at hl;omega),bS];refine .inl ⟨T2.length,_,_,by simp,rfl,T1++[y],T2,by simp,λx hx=>?_,rfl,by simp,rfl⟩;rcases ew.1 hx with e|e
   ·exact h1 x e
   ·rw[List.mem_singleton.1 e];exact q
  |false=>rw[bT];exact .inr ⟨_,rfl,by simp,T1,y::T2,rfl,h1,λz hz=>by simp at hz;rw[←hz];exact q,rfl⟩
theorem XL{α:Type}(U V:List α)(x y:α):(U++x::V).set U.length y=U++y::V:=by rw[qt _ _ (bU _),Nat.sub_self];rfl
theorem Ot(m:aN):(((A.cells 3 (.agg (aC m))).bind λpJ=>(A.aH 0 pJ [br,aR,br]).bind λeW=>some eW).bind λcs=>some (AV.sl 3 (dK 3 1 cs)))=some (.sl 3 [aC m]):=rfl
theorem NF{l:List aN}(hl:l.length≤900000)(σ:Heap):∃R,jf l R∧DQ [sl 3 aC l] σ=some (sl 3 aC R,σ):=by
 suffices hr:∃R v',jf l R∧DR (sl 3 aC l) σ=some (v',σ)∧A.nn (.s 3) v'=sl 3 aC R by obtain⟨R,v',h1,h2,h3⟩:=hr;refine⟨R,h1,?_⟩;show(DR (sl 3 aC l) σ).map _=_;rw[h2,eO];exact congrArg (λz=>some (z,σ)) h3
 unfold DR;rw[iy,bS]
 obtain⟨q,hq,T,v,i,W',rfl,hT,HT⟩:∃q,A.loop ((λv2 s3=>
   (A.lss (ah v2 1) (AV.int .i64 (l.length:Int))).bind λx5=>
   A.cond x5 (
    (A.aK 3 (sl 3 aC l) (ah v2 1)).bind λx6=>
    ((A.deref x6 s3).bind λc7=>A.aA 0 3 c7).bind λx8=>
    (A.cells 3 x8).bind λc9=>
    (A.aH 0 c9 [br,aR,br]).bind λi6=>
    (A.loop (λv11 e9=>
      (A.aY (ah v2 0)).bind λbG=>
      (A.lss (ah v11 1) bG).bind λaW=>
      (A.guard aW true (some (ah v2 0)) an).bind λbE=>
      (A.guard aW true (some (ah v11 1)) an).bind λbJ=>
      (A.guard aW true (A.aK 3 bE bJ) an).bind λbz=>
      (A.guard aW true (A.eG 0 bz) an).bind λbY=>
      (A.guard aW true ((A.deref bY e9).bind λdN=>A.aA 0 2 dN) an).bind λaT=>
      ((A.lb (ah v11 0)).bind λ_=>some (0)).bind λvk=>
            (A.guard aW true ((A.lb (ah v11 0)).bind λeW=>A.aA vk 2 eW) an).bind λcr=>
      (A.guard aW true (A.quiet (vG [aT,cr] e9) e9) an).bind λck=>
      (A.pick aW ck aU).bind λcH=>
      A.cond cH (
       (A.add (ah v11 1) cJ).bind λcQ=>
       some (AX.normal,[(ah v11 0),cQ],e9)) (
       some (AX.exit 2,[(ah v11 0),(ah v11 1)],e9))) [(AV.lbx i6),br] s3).bind λfU=>
    bif fU.1==AX.exit 2 then(
     (A.aY (ah v2 0)).bind λcZ=>
     (A.lss (ah fU.2.1 1) cZ).bind λcA=>
     (A.guard cA true (some (ah v2 0)) an).bind λeo=>
     (A.guard cA true (some (ah fU.2.1 1)) an).bind λcK=>
     (A.guard cA true (A.aK 3 eo cK) an).bind λeJ=>
     (A.guard cA true (A.eG 0 eJ) an).bind λgn=>
     (A.guard cA true ((A.deref gn fU.2.2).bind λiM=>A.aA 0 2 iM) an).bind λfV=>
     ((A.lb (ah fU.2.1 0)).bind λ_=>some (0)).bind λKh=>
          (A.guard cA true ((A.lb (ah fU.2.1 0)).bind λrG=>A.aA Kh 2 rG) an).bind λeR=>
     (A.guard cA true (A.eql (.s [0,2]) fV eR) an).bind λjL=>
     (A.pick cA jL aU).bind λfK=>
     (A.cond fK (
      ((A.lb (ah fU.2.1 0)).bind λpM=>A.aA 0 3 pM).bind λkZ=>
      (A.aK 3 (ah v2 0) (ah fU.2.1 1)).bind λjq=>
      (A.cells 3 kZ).bind λrJ=>
      (A.storeAt jq rJ fU.2.2).bind λCw=>
      some ([(ah v2 0)],Cw)) (
      ((A.lb (ah fU.2.1 0)).bind λCx=>A.aA 0 3 Cx).bind λgp=>
      (((A.cells 3 gp).bind λpN=>(A.aH 0 pN [br,aR,br]).bind λCy=>some Cy).bind λcs=>some (AV.sl 3 (dK 3 1 cs))).bind λfE=>
      (zh [(ah v2 0),(ah fU.2.1 1),fE] fU.2.2).bind λiq=>
      some ([iq.1],iq.2))).bind λgm=>
     (A.add (ah v2 1) cJ).bind λje=>
     some (AX.normal,[(ah gm.1 0),je],gm.2))else
    none) (
    some (AX.exit 0,[(ah v2 0),(ah v2 1)],s3)))) [.au,.int .i64 0] σ=some q∧∃T v i W',q=(.exit 0,[v,i],W')∧jf l T∧Hs eD σ W' (Sl (fl aC) 3 v T*emp):=by
  refine kG (λz u w=>∃(i:Nat)(v:AV)(T:List aN),i≤l.length∧z=l.length-i∧u=[v,.int .i64 (i:Int)]∧jf (l.take i) T∧T.length≤i∧Hs eD σ w (Sl (fl aC) 3 v T*emp)) ?_ (n:=l.length) ⟨0,.au,[],lH _,rfl,rfl,⟨List.Pairwise.nil,λs=>by simp⟩,bU _,vr (BK σ) (.inl rfl)⟩;rintro z u w ⟨i,v,T,hi,rfl,rfl,hT,CL,HK⟩;simp only[ct,dg];rw[fZ,bS];by_cases hlt:i<l.length
  ·have hx:l[i]? =some l[i]:=cu hlt;have jH:l.take (i+1)=l.take i++[l[i]]:=List.take_succ_eq_append_getElem hlt;generalize l[i]=s at hx jH;rw[cy hlt,cx,show A.aK 3 (sl 3 aC l) (.int .i64 (i:Int))=some (.rp (aC s))from gJ 3 aC l hx,bS];rw[show((A.deref (.rp (aC s)) w).bind λc7=>A.aA 0 3 c7)=some (.agg (aC s))from rfl,bS,p7,bS,show A.aH 0 (aC s) [br,aR,br]=some (aC s)from rfl,bS];obtain⟨T1,T2,rfl,t1,t2,t3⟩:=Y8 (s:=s) (by omega) HK;rw[List.length_append]at CL;refine .inl ?_
   have hins:∃v2 w2,zh [v,nI T1.length,.sl 3 [aC s]] w=some (v2,w2)∧Hs eD σ w2 (Sl (fl aC) 3 v2 (T1++s::T2)*emp):=by obtain⟨v2,w2,g1,g2⟩:=ZP (m:=s) (i:=T1.length) (by simp) (by simp;omega) HK;refine⟨v2,w2,g1,?_⟩;rw[show(T1++T2).take T1.length++[s]++(T1++T2).drop T1.length=T1++s::T2 by simp]at g2;exact g2
   cases T2 with
   |nil=>obtain⟨v2,w2,g1,g2⟩:=hins;refine⟨l.length-(i+1),[v2,.int .i64 ((i+1:Nat):Int)],w2,by omega,?_,i+1,v2,_,hlt,rfl,rfl,by rw[jH];exact hT.ins t1 (by simp),by simp;simp at CL;omega,g2⟩;refine(iZ t3 _).trans ?_;rw[bS];simp only[hJ,ct,dg];rw[BM HK,bS,fZ,bS,cB (by simp)];simp only[qD,wP,bS,tN,bT];rw[show A.aA 0 3 (aC s)=some (.agg (aC s))from rfl,bS,Ot,bS,g1,bS,bS,kK (by omega),bS];rfl
   |cons y T3=>
    rcases qP HK with⟨h,_,_⟩|⟨id,g,rfl,K⟩
    ·simp at h
    obtain⟨_,hg⟩:=qj K;have hy:(T1++y::T3)[T1.length]? =some y:=by simp
    by_cases hk:y.key=s.key
    ·have K2:=BL (b':=bF g (T1++s::T3)) K trivial;have g2:Hs eD σ (w.set id (bF g (T1++s::T3))) (Sl (fl aC) 3 (.os id g 3 0 (T1++y::T3).length) (T1++s::T3)*emp):=xI (seg:=(T1++s::T3).map aC) (kI (by ac_rfl) (zZ.2 ⟨rfl,K2⟩)) (by simp);refine⟨l.length-(i+1),[.os id g 3 0 (T1++y::T3).length,.int .i64 ((i+1:Nat):Int)],w.set id (bF g (T1++s::T3)),by omega,?_,i+1,_,_,hlt,rfl,rfl,by rw[jH];exact hT.upd hk,by simp at CL ⊢;omega,g2⟩;refine(iZ t3 _).trans ?_;rw[bS];simp only[hJ,ct,dg];rw[BM HK,bS,fZ,bS,cy (by simp)];simp only[gT,wP,bS,ng];rw[lg (by simp),bS,show A.eG 0 (.oe id g T1.length 0)=some (.oe id g T1.length 0)from rfl,bS];rw[JC hg hy,bS];simp only[gT,bS];rw[show A.aA 0 2 (aC s)=some (.agg (bV s.key))from rfl,bS,OG,bS,cy hk,cx,show A.aA 0 3 (aC s)=some (.agg (aC s))from rfl,bS,p7,bS,vE s hg (by simp),bS,bS,kK (by omega),bS,XL];rfl
    ·obtain⟨v2,w2,g1,g2⟩:=hins;refine⟨l.length-(i+1),[v2,.int .i64 ((i+1:Nat):Int)],w2,by omega,?_,i+1,v2,_,hlt,rfl,rfl,by rw[jH];exact hT.ins t1 (λz hz=>⟨t2 z hz,by simp at hz;rw[←hz];exact hk⟩),by simp at CL ⊢;omega,g2⟩;refine(iZ t3 _).trans ?_;rw[bS];simp only[hJ,ct,dg];rw[BM HK,bS,fZ,bS,cy (by simp)];simp only[gT,wP,bS,ng];rw[lg (by simp),bS,show A.eG 0 (.oe id g T1.length 0)=some (.oe id g T1.length 0)from rfl,bS];rw[JC hg hy,bS];simp only[gT,bS];rw[show A.aA 0 2 (aC s)=some (.agg (bV s.key))from rfl,bS,OG,bS,cB hk,bT,show A.aA 0 3 (aC s)=some (.agg (aC s))from rfl,bS,Ot,bS,g1,bS,bS,kK (by omega),bS];rfl
  ·rw[cB hlt,bT];rw[jh (by omega)]at hT;exact .inr ⟨_,rfl,by simp,T,v,_,w,rfl,hT,HK⟩
 obtain⟨v',f1,f2⟩:=ED (c:=aC) (sz:=3) zx HT;refine⟨T,v',hT,?_,f2⟩;refine(iZ hq _).trans ?_;rw[bS];simp only[hJ,ct];exact f1
end
theorem Xc(σ:Heap):zk [.au,.int .i64 0] σ=some (.au,σ):=by unfold zk A.wrap;rw[Bool.false_and,aV];show(w5 .au (.int .i64 0) σ).map _=_;rw[show w5 .au (.int .i64 0) σ=some (.au,σ)from rfl];simp [A.nn]
def qB:aq:=[br,aR,br]
theorem Xd{n:Nat}(h0:0<n)(h1:n≤4398046511104)(σ:Heap):zk [.au,.int .i64 (n:Int)] σ=some (.os σ.length n 3 0 0,σ++[.arr n 3 (List.replicate n qB)]):=by
 unfold zk A.wrap;rw[Bool.false_and,aV];show(w5 .au (.int .i64 (n:Int)) σ).map _=_
 have run:w5 .au (.int .i64 (n:Int)) σ=some (.os σ.length n 3 0 0,σ++[.arr n 3 (List.replicate n qB)]):=by
  unfold w5;have hc:∀{k:AV→aB}{u:aB},A.oz (A.qZ .au) k u=k (.int .i64 0):=rfl;have mX:∀{k:AV→Option (aq×Heap)}{u:Option (aq×Heap)},A.oz (A.qZ .au) k u=k (.int .i64 0):=rfl;have e1:A.lss (.int .i64 (n:Int)) (.int .i64 0)=some (.bool false):=by rw[qY,cB (by omega)]
  have e2:A.sub (.int .i64 (n:Int)) (.int .i64 0)=some (.int .i64 (n:Int)):=by rw[Al,Int.sub_zero,cW (by unfold bp;omega)]
  have e3:A.gtr (.int .i64 (n:Int)) (.int .i64 0)=some (.bool true):=by simp [A.gtr];omega
  rw[e1,aM,bT,aM,hc,show A.aY .au=some (.int .i64 0)from rfl,aM,show A.sub (.int .i64 0) (.int .i64 0)=some (.int .i64 0)from rfl,aM,e2,aM,e3,aM,cx,mX];have e4:A.bl 3 .au none (some (.int .i64 0)) σ=some .au:=by simp [A.bl,A.bound]
  have e5:A.kF 3 (140737488355328 / 32) qB .au (.int .i64 (n:Int)) σ=some (.os σ.length n 3 0 n,σ++[.arr n 3 (List.replicate n qB)]):=by
   have q:(0:Int)≤(n:Int)∧(n:Int)≤((140737488355328 / 32:Nat):Int):=by omega
   simp only[A.kF,aP q,A.kE,Int.toNat_natCast,List.length_replicate];rw[aQ (by intro h;have:=congrArg List.length h;simp at this;omega),aP (by omega)]
  have e6:(σ++[bu.arr n 3 (List.replicate n qB)])[σ.length]? =some (.arr n 3 (List.replicate n qB)):=by simp
  simp only;rw[e4,aM,show[br,aR,br]=qB from rfl,e5,aM,aM,show(.int .i64 0:AV)=.int .i64 ((0:Nat):Int)from rfl,qK (sK e6 (by simp)) (oW (k:=0) (by omega)) oh,aM];rfl
 rw[run];simp [A.nn]
def EY(x:List aq):aq:=[.sl 3 x]
def jB(L:List (List aq)):Nat:=L.flatten.length
theorem HC{L:List (List aq)}{i:Nat}{x:List aq}(h:L[i]? =some x):(L.take (i+1)).flatten=(L.take i).flatten++x:=by rw[List.take_add_one,h];simp
theorem Ow{L:List (List aq)}(i:Nat):jB (L.take i)≤jB L:=by
 have:L=L.take i++L.drop i:=(List.take_append_drop _ _).symm;unfold jB;conv=>rhs;rw[this,List.flatten_append,List.length_append]
 omega
theorem Vq{L:List (List aq)}(hl:L.length≤bX)(h:jB L≤4398046511104)(hz:∀r∈L.flatten,lN r)(σ:Heap):∃b:AV×Heap,FQ (sl 1 EY L) σ=some b∧b.2=σ∧A.nn (.s 3) b.1=.sl 3 L.flatten:=by
 unfold FQ;rw[iy,aM];refine Ix (Q:=λq=>∃w,q=(.exit 0,[.int .i64 (jB L:Int),w],σ)) (Ie L (λi v s=>v=[.int .i64 (jB (L.take i):Int),.int .i64 (i:Int)]∧s=σ) ?_ ?_ ⟨rfl,rfl⟩) ?_
 ·rintro i x v s hx ⟨rfl,rfl⟩;have hle:=Ow (L:=L) (i+1);have hs:jB (L.take (i+1))=jB (L.take i)+x.length:=by unfold jB;rw[HC hx,List.length_append]
  simp only[ct,dg];rw[td hx,aM,cx,sR hx,aM];simp only[A.deref,aM];rw[show A.ay 0 (EY x)=some (.sl 3 x)from rfl,aM,show A.aY (.sl 3 x)=some (.int .i64 (x.length:Int))from rfl,aM,Ju (by omega),aM];rw[show A.lss (.int .i64 ((jB (L.take i)+x.length:Nat):Int)) (.int .i64 0)=some (.bool false) by rw[qY,cB (by omega)],aM,bT,aM,sS hx hl,aM];exact⟨_,_,rfl,by rw[hs],rfl⟩
 ·rintro v s ⟨rfl,rfl⟩;simp only[ct,dg];rw[sQ,aM,bT];refine⟨_,rfl,by simp,.int .i64 (L.length:Int),?_⟩;rw[List.take_length]
 ·rintro q ⟨w,rfl⟩;simp only[QE,ct];by_cases h0:jB L=0
  ·have oD:L.flatten=[]:=uA h0;rw[h0,show(((0:Nat):Int))=0 from rfl,Xc,aM,aM];refine Ix (Q:=λq=>∃w,q=(.exit 2,[.au,w],σ)) (Ie L (λi v s=>v=[.au,.int .i64 (i:Int)]∧s=σ) ?_ ?_ ⟨rfl,rfl⟩) ?_
   ·rintro i x v s hx ⟨rfl,rfl⟩
    have hxn:x=[]:=by have:=List.flatten_eq_nil_iff.1 oD x (cM hx);exact this
    subst hxn;simp only[ct,dg];rw[td hx,aM,cx,sR hx,aM];simp only[A.deref,aM];rw[show A.ay 0 (EY [])=some (.sl 3 [])from rfl,aM,show A.append 3 (140737488355328 / 32) .au (.sl 3 []) s=some (.au,s) by simp [A.append,A.elems,A.kE],aM,sS hx hl,aM];exact⟨_,_,rfl,rfl,rfl⟩
   ·rintro v s ⟨rfl,rfl⟩;simp only[ct,dg];rw[sQ,aM,bT];exact⟨_,rfl,by simp,_,rfl⟩
   ·rintro q ⟨w,rfl⟩;refine⟨_,ep _ _,rfl,?_⟩;rw[oD];rfl
  ·have hpos:0<jB L:=by omega
   rw[Xd hpos (by omega),aM,aM];obtain⟨n,hn⟩:∃n,n=jB L:=⟨_,rfl⟩
   rw[←hn]at hpos h ⊢;refine Ix (Q:=λq=>∃w,q=(.exit 2,[.os σ.length n 3 0 n,w],σ++[.arr n 3 L.flatten])) (Ie L (λi v s=>v=[.os σ.length n 3 0 (jB (L.take i)),.int .i64 (i:Int)]∧s=σ++[.arr n 3 ((L.take i).flatten++List.replicate (n-jB (L.take i)) qB)]) ?_ ?_ ⟨rfl,by simp [jB]⟩) ?_
   ·rintro i x v s hx ⟨rfl,rfl⟩;have hle:=Ow (L:=L) (i+1);have hs:jB (L.take (i+1))=jB (L.take i)+x.length:=by unfold jB;rw[HC hx,List.length_append]
    obtain⟨k,hk⟩:∃k,k=jB (L.take i):=⟨_,rfl⟩
    have hfl:(L.take i).flatten.length=k:=hk.symm;simp only[ct,dg];rw[td hx,aM,cx,sR hx,aM];simp only[A.deref,aM];rw[show A.ay 0 (EY x)=some (.sl 3 x)from rfl,aM];rw[hs,HC hx,←hk];have hg:(σ++[bu.arr n 3 ((L.take i).flatten++List.replicate (n-k) qB)])[σ.length]? =some (.arr n 3 ((L.take i).flatten++List.replicate (n-k) qB)):=by simp
    have Zz:A.append 3 (140737488355328 / 32) (.os σ.length n 3 0 k) (.sl 3 x) (σ++[.arr n 3 ((L.take i).flatten++List.replicate (n-k) qB)])=some (.os σ.length n 3 0 (k+x.length),σ++[.arr n 3 ((L.take i).flatten++x++List.replicate (n-(k+x.length)) qB)]):=by
     simp only[A.append,A.elems,if_true,aM,A.kE,hg];rw[aP (by simp [hfl];omega)];by_cases hx0:x=[]
     ·subst hx0;simp
     ·rw[aQ hx0,aP (by simp [hfl];omega)];congr 2;rw[qt _ _ (bU _),Nat.sub_self];simp only[List.set_cons_zero,Nat.zero_add];congr 3;rw[List.take_append_of_le_length (by omega),jh (by omega)];congr 1;rw[List.drop_append,List.drop_of_length_le (by omega),List.nil_append,hfl,List.drop_replicate];congr 1;omega
    rw[Zz,aM,sS hx hl,aM];exact⟨_,_,rfl,rfl,rfl⟩
   ·rintro v s ⟨rfl,rfl⟩;simp only[ct,dg];rw[sQ,aM,bT];refine⟨_,rfl,by simp,.int .i64 (L.length:Int),?_⟩;rw[List.take_length,←hn];simp
   ·rintro q ⟨w,rfl⟩;have hfl:L.flatten.length=n:=hn.symm
    have hfz:A.bM (σ++[.arr n 3 L.flatten]) σ.length 8 (.os σ.length n 3 0 n)=some (.sl 3 L.flatten):=by
     have hg:(σ++[bu.arr n 3 L.flatten])[σ.length]? =some (.arr n 3 L.flatten):=by simp
     have key:∀(rows:List aq),(∀r∈rows,lN r)→∀(s:Heap)m d,A.iK s m d rows=some rows:=by
      intro rows;induction rows with
      |nil=>intro _ s m d;simp [A.iK]
      |cons r rows ih=>intro hr s m d;simp [A.iK,hr r (by simp) s m d,ih (λy hy=>hr y (by simp [hy])) s m d]
     simp only[A.bM,Nat.lt_irrefl,if_false,hg];rw[aP (by rw[hfl];simp),List.drop_zero,jh (Nat.le_of_eq hfl),Br,key _ hz];rfl
    refine⟨(.sl 3 L.flatten,σ),?_,rfl,rfl⟩;show A.fin σ (.os σ.length n 3 0 n) (σ++[.arr n 3 L.flatten])=_;unfold A.fin;rw[aQ (by simp),aP (by simp),hfz];rfl
theorem V9{a b:List aN}(h:a.length+b.length≤4398046511104)(σ:Heap):vF [.sl 1 [[sl 3 aC a],[sl 3 aC b]]] σ=some (sl 3 aC (a++b),σ):=by
 obtain⟨⟨v,s⟩,h1,h2,h3⟩:=Vq (L:=[a.map aC,b.map aC]) (by simp [bX]) (by simp [jB];omega) (by
  intro r hr;simp only[List.flatten_cons,List.flatten_nil,List.append_nil,ew,l9]at hr
  rcases hr with⟨x,_,rfl⟩|⟨x,_,rfl⟩<;>exact zx x) σ
 simp only at h2 h3;subst h2;refine wrap_eq rfl h1 ?_;rw[h3];simp [sl]
theorem MJ{l:List aN}(hl:l.length≤900000):∃R,jf l R:=let⟨R,h,_⟩:=NF hl [];⟨R,h⟩
noncomputable def eH (l:List aN):List aN:=by
 classical
 exact if h:∃R,jf l R then Classical.choose h else[]
theorem M4{l:List aN}(hl:l.length≤900000):jf l (eH l):=by unfold eH;rw[dif_pos (MJ hl)];exact Classical.choose_spec (MJ hl)
theorem YH{l:List aN}(hl:l.length≤900000)(σ:Heap):A7 [sl 3 aC l] σ=some (sl 3 aC (eH l),σ):=by obtain⟨R,h1,h2⟩:=Wy hl σ;rw[h2,h1.uniq (M4 hl)]
theorem YG{l:List aN}(hl:l.length≤900000)(σ:Heap):DQ [sl 3 aC l] σ=some (sl 3 aC (eH l),σ):=by obtain⟨R,h1,h2⟩:=NF hl σ;rw[h2,h1.uniq (M4 hl)]
theorem PS{l:List aN}(hl:l.length≤1000000000)(σ:Heap):A.oA (.s 3) p9 [sl 3 aC l] σ=some (sl 3 aC l,σ):=by obtain⟨v,σ',e1,_,K⟩:=PT hl (BK σ);obtain⟨v',e2,e3⟩:=ED zx K;unfold A.oA;rw[e1,aM];simp only;rw[e2,eO];simp only;rw[e3]
theorem PU{a b:List aN}(h:a.length+b.length≤1000000000)(σ:Heap):vF [.sl 1 [[sl 3 aC a],[sl 3 aC b]]] σ=some (sl 3 aC (a++b),σ):=V9 (by omega) σ
section
set_option maxRecDepth 100000
open HP
def iX(p:bn):List bn→Bool→List bn
 |[],put=>if put then[]else[p]
 |x::t,put=>(if(!put&&decide (p.aF≤x.aF))=true then[p]else[])++((if ¬(x.aF=p.aF)then[x]else[])++iX p t (put||decide (p.aF≤x.aF)))
theorem Fe{aO σ:Heap}{R:HP}{v:AV}{l:List bn}(k:bn)(hl:l.length<1000000000)(H:Hs eD aO σ (Sl (fl aE) 3 v l*R)):∃v' σ',A.append 3 (140737488355328 / 48) v (.sl 3 [aE k]) σ=some (v',σ')∧Hs eD aO σ' (Sl (fl aE) 3 v' (l++[k])*R):=
 IF (ys:=[aE k]) (xs:=[k]) (kI (show pr (aE k=aE k)*(Sl (fl aE) 3 v l*R)=_ by
  rw[show els (fl aE) [aE k] [k]=pr (aE k=aE k)*emp from rfl,zD,xp];ac_rfl) (uw.2 ⟨rfl,H⟩)) (by simp;omega) (λ_ _ _ _=>trivial)
theorem EJ(m:bn):(((A.cells 3 (.agg (aE m))).bind λuY=>(A.aH 0 uY [br,aR,AV.au]).bind λuZ=>some uZ).bind λcs=>some (AV.sl 3 (dK 3 1 cs)))=some (.sl 3 [aE m]):=rfl
theorem Wq{p:bn}{l:List bn}(hl:l.length≤10000)(hs:∀x∈l,x.cL.length≤1000000000){aO W:Heap}{R:HP}(H:Hs eD aO W R):
  ∃ v w put i, A.loop ((λdI oP =>
        (A.lss (ah dI 3) (AV.int .i64 (l.length:Int))).bind λjr=>
        A.cond jr (
         (A.aK 3 (sl 3 aE l) (ah dI 3)).bind λgQ=>
         ((A.deref gQ oP).bind λpP=>A.aA 0 3 pP).bind λmI=>
         (A.cells 3 mI).bind λyD=>
         (A.aH 0 yD [br,aR,AV.au]).bind λmw=>
         (A.not (ah dI 2)).bind λkr=>
         (A.guard kr true (A.ay 0 mw) an).bind λmJ=>
         (A.guard kr true (some (AV.int .i64 p.aF)) an).bind λku=>
         (A.guard kr true (A.geq mJ ku) an).bind λso=>
         (A.pick kr so aU).bind λvB=>
         (A.cond vB (
          ((A.lb (ah dI 0)).bind λnN=>A.aA 0 3 nN).bind λlf=>
          (((A.cells 3 lf).bind λuY=>(A.aH 0 uY [br,aR,AV.au]).bind λuZ=>some uZ).bind λcs=>some (AV.sl 3 (dK 3 1 cs))).bind λsu=>
          (A.append 3 (140737488355328 / 48) (ah dI 1) su oP).bind λrU=>
          some ([(ah dI 0),rU.1,cY,(AV.lbx mw)],rU.2)) (
          some ([(ah dI 0),(ah dI 1),(ah dI 2),(AV.lbx mw)],oP))).bind λcP=>
         ((A.lb (ah cP.1 3)).bind λ_=>some (0)).bind λC4=>
         ((A.lb (ah cP.1 3)).bind λrK=>A.ay C4 rK).bind λpZ=>
         (A.neq .i pZ (AV.int .i64 p.aF)).bind λsv=>
         (A.cond sv (
          ((A.lb (ah cP.1 3)).bind λ_=>some (0)).bind λC5=>
          ((A.lb (ah cP.1 3)).bind λxK=>A.ay C5 xK).bind λgP=>
          ((A.lb (ah cP.1 3)).bind λ_=>some (1)).bind λCh=>
          ((A.lb (ah cP.1 3)).bind λBY=>A.ay Ch BY).bind λyh=>
          ((A.lb (ah cP.1 3)).bind λ_=>some (2)).bind λCi=>
          ((A.lb (ah cP.1 3)).bind λBZ=>A.ay Ci BZ).bind λuP=>
          (A.quiet ((A.oA (.s 3) p9) [uP] cP.2) cP.2).bind λpE=>
          ((((A.cell gP).bind λv=>some [v]).bind λB1=>(A.aH 0 B1 [br,aR,AV.au]).bind λB2=>((A.cell yh).bind λv=>some [v]).bind λB3=>(A.aH 1 B3 B2).bind λB4=>((A.cell pE).bind λv=>some [v]).bind λxM=>(A.aH 2 xM B4).bind λB5=>some B5).bind λcs=>some (AV.agg cs)).bind λmm=>
          (((A.cells 3 mm).bind λB6=>(A.aH 0 B6 [br,aR,AV.au]).bind λB7=>some B7).bind λcs=>some (AV.sl 3 (dK 3 1 cs))).bind λuS=>
          (A.append 3 (140737488355328 / 48) (ah cP.1 1) uS cP.2).bind λwB=>
          some ([(ah cP.1 0),wB.1],wB.2)) (
          some ([(ah cP.1 0),(ah cP.1 1)],cP.2))).bind λrV=>
         (A.add (ah dI 3) cJ).bind λuT=>
         some (AX.normal,[(ah rV.1 0),(ah rV.1 1),(ah cP.1 2),uT],rV.2)) (
         some (AX.exit 3,[(ah dI 0),(ah dI 1),(ah dI 2),(ah dI 3)],oP)))) [.lbx (aE p),.au,.bool false,.int .i64 0] W=some (.exit 3,[.lbx (aE p),v,.bool put,i],w)∧∃T,Hs eD aO w (Sl (fl aE) 3 v T*R)∧T++(if put then[]else[p])=iX p l false∧T.length≤2*l.length:=by
 suffices hq:∃q,A.loop ((λdI oP=>
        (A.lss (ah dI 3) (AV.int .i64 (l.length:Int))).bind λjr=>
        A.cond jr (
         (A.aK 3 (sl 3 aE l) (ah dI 3)).bind λgQ=>
         ((A.deref gQ oP).bind λpP=>A.aA 0 3 pP).bind λmI=>
         (A.cells 3 mI).bind λyD=>
         (A.aH 0 yD [br,aR,AV.au]).bind λmw=>
         (A.not (ah dI 2)).bind λkr=>
         (A.guard kr true (A.ay 0 mw) an).bind λmJ=>
         (A.guard kr true (some (AV.int .i64 p.aF)) an).bind λku=>
         (A.guard kr true (A.geq mJ ku) an).bind λso=>
         (A.pick kr so aU).bind λvB=>
         (A.cond vB (
          ((A.lb (ah dI 0)).bind λnN=>A.aA 0 3 nN).bind λlf=>
          (((A.cells 3 lf).bind λuY=>(A.aH 0 uY [br,aR,AV.au]).bind λuZ=>some uZ).bind λcs=>some (AV.sl 3 (dK 3 1 cs))).bind λsu=>
          (A.append 3 (140737488355328 / 48) (ah dI 1) su oP).bind λrU=>
          some ([(ah dI 0),rU.1,cY,(AV.lbx mw)],rU.2)) (
          some ([(ah dI 0),(ah dI 1),(ah dI 2),(AV.lbx mw)],oP))).bind λcP=>
         ((A.lb (ah cP.1 3)).bind λ_=>some (0)).bind λC4=>
         ((A.lb (ah cP.1 3)).bind λrK=>A.ay C4 rK).bind λpZ=>
         (A.neq .i pZ (AV.int .i64 p.aF)).bind λsv=>
         (A.cond sv (
          ((A.lb (ah cP.1 3)).bind λ_=>some (0)).bind λC5=>
          ((A.lb (ah cP.1 3)).bind λxK=>A.ay C5 xK).bind λgP=>
          ((A.lb (ah cP.1 3)).bind λ_=>some (1)).bind λCh=>
          ((A.lb (ah cP.1 3)).bind λBY=>A.ay Ch BY).bind λyh=>
          ((A.lb (ah cP.1 3)).bind λ_=>some (2)).bind λCi=>
          ((A.lb (ah cP.1 3)).bind λBZ=>A.ay Ci BZ).bind λuP=>
          (A.quiet ((A.oA (.s 3) p9) [uP] cP.2) cP.2).bind λpE=>
          ((((A.cell gP).bind λv=>some [v]).bind λB1=>(A.aH 0 B1 [br,aR,AV.au]).bind λB2=>((A.cell yh).bind λv=>some [v]).bind λB3=>(A.aH 1 B3 B2).bind λB4=>((A.cell pE).bind λv=>some [v]).bind λxM=>(A.aH 2 xM B4).bind λB5=>some B5).bind λcs=>some (AV.agg cs)).bind λmm=>
          (((A.cells 3 mm).bind λB6=>(A.aH 0 B6 [br,aR,AV.au]).bind λB7=>some B7).bind λcs=>some (AV.sl 3 (dK 3 1 cs))).bind λuS=>
          (A.append 3 (140737488355328 / 48) (ah cP.1 1) uS cP.2).bind λwB=>
          some ([(ah cP.1 0),wB.1],wB.2)) (
          some ([(ah cP.1 0),(ah cP.1 1)],cP.2))).bind λrV=>
         (A.add (ah dI 3) cJ).bind λuT=>
         some (AX.normal,[(ah rV.1 0),(ah rV.1 1),(ah cP.1 2),uT],rV.2)) (
         some (AX.exit 3,[(ah dI 0),(ah dI 1),(ah dI 2),(ah dI 3)],oP)))) [.lbx (aE p),.au,.bool false,.int .i64 0] W=some q∧∃v w put i,q=(.exit 3,[.lbx (aE p),v,.bool put,i],w)∧∃T,Hs eD aO w (Sl (fl aE) 3 v T*R)∧T++(if put then[]else[p])=iX p l false∧T.length≤2*l.length by
  obtain⟨q,e,v,w,put,i,rfl,h⟩:=hq;exact⟨v,w,put,i,e,h⟩
 refine kG (λz u w=>∃(i:Nat)(v:AV)(put:Bool)(T:List bn),i≤l.length∧z=l.length-i∧u=[.lbx (aE p),v,.bool put,.int .i64 (i:Int)]∧T++iX p (l.drop i) put=iX p l false∧T.length≤2*i∧Hs eD aO w (Sl (fl aE) 3 v T*R)) ?_ (n:=l.length) ⟨0,.au,false,[],lH _,rfl,rfl,rfl,bU _,vr H (.inl rfl)⟩;rintro z u w ⟨i,v,put,T,hi,rfl,rfl,hT,CL,HK⟩;simp only[ct,dg];rw[fZ,bS];by_cases hlt:i<l.length
 ·have hd:l.drop i=l[i]::l.drop (i+1):=List.drop_eq_getElem_cons hlt;have hx:l[i]? =some l[i]:=cu hlt;have hxs:l[i].cL.length≤1000000000:=hs _ (List.getElem_mem hlt);generalize l[i]=x at hd hx hxs;rw[hd,iX]at hT;rw[cy hlt,cx,gJ 3 aE l hx,bS,show((A.deref (.rp (aE x)) w).bind λc7=>A.aA 0 3 c7)=some (.agg (aE x))from rfl,bS,show A.cells 3 (.agg (aE x))=some (aE x)from rfl,bS,show A.aH 0 (aE x) [br,aR,AV.au]=some (aE x)from rfl,bS,show A.not (.bool put)=some (.bool (!put))from rfl,bS]
  -- the preset itself
  obtain⟨v2,w2,K2,e2⟩:∃v2 w2,Hs eD aO w2 (Sl (fl aE) 3 v2 (T++if(!put&&decide (p.aF≤x.aF))=true then[p]else[])*R)∧
    ∀K:aq×Heap→Option LS,((A.guard (.bool !put) true (A.ay 0 (aE x)) (some (.aD []))).bind λmJ=>(A.guard (.bool !put) true (some (.int .i64 p.aF)) (some (.aD []))).bind λku=>(A.guard (.bool !put) true (A.geq mJ ku) (some (.aD []))).bind λso=>(A.pick (.bool !put) so (.bool false)).bind λvB=>(A.cond vB (((A.lb (.lbx (aE p))).bind λnN=>A.aA 0 3 nN).bind λlf=>(((A.cells 3 lf).bind λuY=>(A.aH 0 uY [br,aR,AV.au]).bind λuZ=>some uZ).bind λcs=>some (AV.sl 3 (dK 3 1 cs))).bind λsu=>(A.append 3 (140737488355328 / 48) v su w).bind λrU=>some ([.lbx (aE p),rU.1,cY,(AV.lbx (aE x))],rU.2)) (some ([.lbx (aE p),v,.bool put,(AV.lbx (aE x))],w))).bind K)=K ([.lbx (aE p),v2,.bool (put||decide (p.aF≤x.aF)),.lbx (aE x)],w2):=by
   cases put with
   |true=>refine⟨v,w,by simpa using HK,λK=>?_⟩;simp only[Bool.not_true,qD,bS,tN,bT,Bool.true_or]
   |false=>
    by_cases hc:p.aF≤x.aF
    ·obtain⟨v2,w2,f1,f2⟩:=Fe p (by omega) HK;refine⟨v2,w2,by simpa [hc]using f2,λK=>?_⟩;rw[show(!false)=true from rfl,gT,show A.ay 0 (aE x)=some (.int .i64 x.aF)from rfl,bS,gT,bS,gT,Fa,bS,ng,bS,cy hc,cx,show((A.lb (.lbx (aE p))).bind λnN=>A.aA 0 3 nN)=some (.agg (aE p))from rfl,bS,EJ,bS,f1,bS,bS];rfl
    ·refine⟨v,w,by simpa [hc]using HK,λK=>?_⟩;rw[show(!false)=true from rfl,gT,show A.ay 0 (aE x)=some (.int .i64 x.aF)from rfl,bS,gT,bS,gT,Fa,bS,ng,bS,cB hc,bT,bS];rfl
  rw[e2];simp only[ct,dg];rw[wP,bS,bS,bS,show A.ay 0 (aE x)=some (.int .i64 x.aF)from rfl,bS,rF,bS]
  have hlen:(T++if(!put&&decide (p.aF≤x.aF))=true then[p]else[]).length≤2*i+1:=by rw[List.length_append];split<;>simp<;>omega
  by_cases hne:x.aF=p.aF
  ·rw[cB (by simpa using hne),bT,bS];simp only[ct,dg];rw[kK (by omega),bS];refine .inl ⟨l.length-(i+1),_,_,by omega,rfl,i+1,v2,_,_,hlt,rfl,rfl,?_,by omega,K2⟩;rw[←hT,show(if ¬(x.aF=p.aF)then[x]else[])=([]:List bn)from aQ (λh=>h hne)];simp only[List.nil_append,jg]
  ·have p1:A.ay 1 (aE x)=some (.str x.title):=rfl;have p2:A.ay 2 (aE x)=some (sl 3 aC x.cL):=rfl;have p0:A.ay 0 (aE x)=some (.int .i64 x.aF):=rfl;obtain⟨v3,w3,f1,f2⟩:=Fe x (by omega) K2;rw[cy (by simpa using hne),cx];simp only[wP,bS,p0,p1,p2];rw[qS (PS hxs w2),bS];refine .inl ⟨l.length-(i+1),[.lbx (aE p),v3,.bool (put||decide (p.aF≤x.aF)),.int .i64 ((i+1:Nat):Int)],w3,by omega,?_,i+1,v3,_,_,hlt,rfl,rfl,?_,?_,f2⟩
   ·refine(iZ (iZ (y:=some (AV.agg (aE x))) (by rfl) _) _).trans ?_;rw[bS,EJ,bS,f1,bS,bS];simp only[ct,dg];rw[kK (by omega),bS]
   ·rw[←hT,show(if ¬(x.aF=p.aF)then[x]else[])=[x]from aP hne];simp only[jg]
   ·rw[List.length_append,List.length_singleton];omega
 ·rw[cB hlt,bT];rw[show l.drop i=[]from List.drop_of_length_le (by omega),iX]at hT;exact .inr ⟨_,rfl,by simp,v,w,put,_,rfl,T,HK,hT,by omega⟩
theorem Hx{p:bn}:∀t:List bn,iX p t true=t.filter λx=>decide (¬x.aF=p.aF)
 |[]=>rfl
 |x::t=>by rw[iX,List.filter_cons,Bool.true_or,Hx t];by_cases h:x.aF=p.aF<;>simp [h]
end
section
set_option maxRecDepth 100000
open HP
theorem V7{l:List bn}(hl:l.length≤10000)(hs:∀x∈l,x.cL.length≤1000000000){aO W:Heap}{R:HP}(H:Hs eD aO W R):
  ∃v w i,A.loop ((λdn fy=>
     (A.lss (ah dn 1) (AV.int .i64 (l.length:Int))).bind λk9=>
     A.cond k9 (
      (A.aK 3 (sl 3 aE l) (ah dn 1)).bind λgp=>
      ((A.deref gp fy).bind λpN=>A.aA 0 3 pN).bind λdV=>
      (A.cells 3 dV).bind λyx=>
      (A.aH 0 yx [br,aR,AV.au]).bind λtI=>
      (A.ay 2 tI).bind λje=>
      ((A.oA (.s 3) p9) [je] fy).bind λqH=>
      ((A.cell qH.1).bind λv=>some [v]).bind λnM=>
      (A.aH 2 nM tI).bind λkV=>
      (A.aA 0 3 kV).bind λmH=>
      (((A.cells 3 mH).bind λpO=>(A.aH 0 pO [br,aR,AV.au]).bind λyy=>some yy).bind λcs=>some (AV.sl 3 (dK 3 1 cs))).bind λiW=>
      (A.append 3 (140737488355328 / 48) (ah dn 0) iW qH.2).bind λfJ=>
      (A.add (ah dn 1) cJ).bind λdG=>
      some (AX.normal,[fJ.1,dG],fJ.2)) (
      some (AX.exit 2,[(ah dn 0),(ah dn 1)],fy)))) [.au,.int .i64 0] W=some (.exit 2,[v,i],w)∧Hs eD aO w (Sl (fl aE) 3 v l*R):=by
 suffices hq:∃q,A.loop ((λdn fy=>
     (A.lss (ah dn 1) (AV.int .i64 (l.length:Int))).bind λk9=>
     A.cond k9 (
      (A.aK 3 (sl 3 aE l) (ah dn 1)).bind λgp=>
      ((A.deref gp fy).bind λpN=>A.aA 0 3 pN).bind λdV=>
      (A.cells 3 dV).bind λyx=>
      (A.aH 0 yx [br,aR,AV.au]).bind λtI=>
      (A.ay 2 tI).bind λje=>
      ((A.oA (.s 3) p9) [je] fy).bind λqH=>
      ((A.cell qH.1).bind λv=>some [v]).bind λnM=>
      (A.aH 2 nM tI).bind λkV=>
      (A.aA 0 3 kV).bind λmH=>
      (((A.cells 3 mH).bind λpO=>(A.aH 0 pO [br,aR,AV.au]).bind λyy=>some yy).bind λcs=>some (AV.sl 3 (dK 3 1 cs))).bind λiW=>
      (A.append 3 (140737488355328 / 48) (ah dn 0) iW qH.2).bind λfJ=>
      (A.add (ah dn 1) cJ).bind λdG=>
      some (AX.normal,[fJ.1,dG],fJ.2)) (
      some (AX.exit 2,[(ah dn 0),(ah dn 1)],fy)))) [.au,.int .i64 0] W=some q∧∃v w i,q=(.exit 2,[v,i],w)∧Hs eD aO w (Sl (fl aE) 3 v l*R) by
  obtain⟨q,e,v,w,i,rfl,h⟩:=hq;exact⟨v,w,i,e,h⟩
 refine kG (λz u w=>∃(i:Nat)(v:AV),i≤l.length∧z=l.length-i∧u=[v,.int .i64 (i:Int)]∧Hs eD aO w (Sl (fl aE) 3 v (l.take i)*R)) ?_ (n:=l.length) ⟨0,.au,lH _,rfl,rfl,vr H (.inl rfl)⟩;rintro z u w ⟨i,v,hi,rfl,rfl,HK⟩;simp only[ct,dg];rw[fZ,bS];by_cases hlt:i<l.length
 ·have hx:l[i]? =some l[i]:=cu hlt;have hxs:l[i].cL.length≤1000000000:=hs _ (List.getElem_mem hlt);have jH:l.take (i+1)=l.take i++[l[i]]:=List.take_succ_eq_append_getElem hlt;generalize l[i]=x at hx hxs jH;obtain⟨v3,w3,f1,f2⟩:=Fe x (by rw[kP];omega) HK;rw[cy hlt,cx,gJ 3 aE l hx,bS,show((A.deref (.rp (aE x)) w).bind λc7=>A.aA 0 3 c7)=some (.agg (aE x))from rfl,bS,show A.cells 3 (.agg (aE x))=some (aE x)from rfl,bS,show A.aH 0 (aE x) [br,aR,AV.au]=some (aE x)from rfl,bS,show A.ay 2 (aE x)=some (sl 3 aC x.cL)from rfl,bS,PS hxs w,bS];simp only;rw[show((A.cell (sl 3 aC x.cL)).bind λv=>some [v])=some [sl 3 aC x.cL]from rfl,bS,show A.aH 2 [sl 3 aC x.cL] (aE x)=some (aE x)from rfl,bS,show A.aA 0 3 (aE x)=some (.agg (aE x))from rfl,bS,EJ,bS,f1,bS,kK (by omega),bS];exact .inl ⟨l.length-(i+1),_,_,by omega,rfl,i+1,v3,hlt,rfl,rfl,by rw[jH];exact f2⟩
 ·rw[cB hlt,bT];rw[jh (by omega)]at HK;exact .inr ⟨_,rfl,by simp,v,w,_,rfl,HK⟩
end
section
set_option maxRecDepth 100000
open HP
def jz(r:cN):List aN→Int
 |[]=>0
 |x::l=>if nA r x.key=false then 8 else if bK x.level 0 65535=false then 1 else jz r l
noncomputable def xY (ps:List bn) (n:Int) (t:ByteArray) (l:List aN) (m:Bool):bn:=
 if((dS ps n).2&&m)=true then⟨n,if t=⟨#[]⟩then(dS ps n).1.title else t,eH ((dS ps n).1.cL++l)⟩else⟨n,t,eH l⟩
noncomputable def nE (r:cN) (ps:List bn) (n:Int) (t:ByteArray) (l:List aN) (m:Bool):List bn×Int:=
 if ¬(lW r ps=0)then([],lW r ps)
 else if bK n 1 999=false then([],1)
 else if oU t=false then([],3)
 else if 20000<(l.length:Int)then([],2)
 else if ¬(jz r l=0)then([],jz r l)
 else if 2000<((xY ps n t l m).cL.length:Int)∨200<((iX (xY ps n t l m) ps false).length:Int)then([],2)
 else(iX (xY ps n t l m) ps false,0)
theorem IB{r:cN}{ps:List bn}(h:lW r ps=0):ps.length≤200∧∀p∈ps,p.cL.length≤2000:=by
 unfold lW at h;split at h
 ·rename_i h0;exact absurd h h0
 split at h
 ·cases h
 rename_i h1;refine⟨by omega,λp hp=>?_⟩;obtain⟨i,hi⟩:=Ai.1 hp;have:=(D5 ps 0).1 h i p hi;unfold vP at this;split at this
 ·cases this
 split at this
 ·cases this
 split at this
 ·cases this
 split at this
 ·cases this
 omega
theorem Im{s:List Sh}{ro:Sh}{r:AV→AV→AV→AV→AV→AV→Heap→aB}{x y z u v w q q':AV}{σ:Heap}(h:[x,y,z,u,v,w].any A.own=false)(e1:A.cj s [x,y,z,u,v,w]=[x,y,z,u,v,w])(e2:A.nn ro q=q')(e:r x y z u v w σ=some (q,σ)):A.wrap true s ro (A.uU r) [x,y,z,u,v,w] σ=some (q',σ):=by refine wrap_eq h ?_ e2;rw[e1];exact e
theorem tg{α:Type}(sz:Nat)(c:α→aq)(l:List α):A.nn (.s sz) (sl sz c l)=sl sz c l:=by simp [sl,A.nn]
theorem PB(ss:List Sh)(vs:aq):A.nn (.t ss) (.aD vs)=.aD (A.cj ss vs):=by simp [A.nn]
theorem ux(vs:aq):A.cj [] vs=vs:=by simp [A.cj]
theorem Ih(r:cN):A.nn lI (.agg (bW r))=.agg (bW r):=by rw[show A.nn lI (.agg (bW r))=.agg (A.cj [(.s 3),(.s 4)] (bW r)) by simp [A.nn],show A.cj [(.s 3),(.s 4)] (bW r)=bW r from fu (tg ..) (fu (tg ..) (ux _))]
theorem UN{r:cN}(hr:lF r){l:List aN}(hl:l.length≤20000)(W:Heap):
  ∃ i, A.loop ((λdm oM =>
       (A.lss (ah dm 3) (AV.int .i64 (l.length:Int))).bind λbz=>
       A.cond bz (
        (A.aK 3 (sl 3 aC l) (ah dm 3)).bind λbY=>
        ((A.deref bY oM).bind λdN=>A.aA 0 3 dN).bind λaT=>
        (A.cells 3 aT).bind λpJ=>
        (A.aH 0 pJ [br,aR,br]).bind λeW=>
        ((A.lb (ah dm 0)).bind λeI=>A.aA 0 2 eI).bind λck=>
        (A.aA 0 2 eW).bind λcH=>
        (zw [ck,cH] oM).bind λfT=>
        (A.ext 0 fT.1).bind λef=>
        (A.ext 1 fT.1).bind λcZ=>
        (A.cells 7 ef).bind λnK=>
        (A.aH 0 nK [aR,br,br,br,br,aU,AV.au]).bind λlP=>
        (A.not cZ).bind λcK=>
        A.cond cK (
         some (AX.ret,[(ah dm 0),AV.au,(AV.int .i64 8),(ah dm 3)],fT.2)) (
         (A.ay 2 eW).bind λeJ=>
         (tY [eJ] fT.2).bind λrR=>
         (A.not rR.1).bind λiD=>
         A.cond iD (
          some (AX.ret,[(ah dm 0),AV.au,cJ,(ah dm 3)],rR.2)) (
          (A.add (ah dm 3) cJ).bind λfV=>
          some (AX.normal,[(ah dm 0),(ah dm 1),(ah dm 2),fV],rR.2)))) (
        some (AX.exit 1,[(ah dm 0),(ah dm 1),(ah dm 2),(ah dm 3)],oM)))) [.lbx (bW r),.au,.int .i64 0,.int .i64 0] W=some (if jz r l=0 then(.exit 1,[.lbx (bW r),.au,.int .i64 0,i],W)else(.ret,[.lbx (bW r),.au,.int .i64 (jz r l),i],W)):=by
 suffices hq:∃q,A.loop ((λdm oM=>
       (A.lss (ah dm 3) (AV.int .i64 (l.length:Int))).bind λbz=>
       A.cond bz (
        (A.aK 3 (sl 3 aC l) (ah dm 3)).bind λbY=>
        ((A.deref bY oM).bind λdN=>A.aA 0 3 dN).bind λaT=>
        (A.cells 3 aT).bind λpJ=>
        (A.aH 0 pJ [br,aR,br]).bind λeW=>
        ((A.lb (ah dm 0)).bind λeI=>A.aA 0 2 eI).bind λck=>
        (A.aA 0 2 eW).bind λcH=>
        (zw [ck,cH] oM).bind λfT=>
        (A.ext 0 fT.1).bind λef=>
        (A.ext 1 fT.1).bind λcZ=>
        (A.cells 7 ef).bind λnK=>
        (A.aH 0 nK [aR,br,br,br,br,aU,AV.au]).bind λlP=>
        (A.not cZ).bind λcK=>
        A.cond cK (
         some (AX.ret,[(ah dm 0),AV.au,(AV.int .i64 8),(ah dm 3)],fT.2)) (
         (A.ay 2 eW).bind λeJ=>
         (tY [eJ] fT.2).bind λrR=>
         (A.not rR.1).bind λiD=>
         A.cond iD (
          some (AX.ret,[(ah dm 0),AV.au,cJ,(ah dm 3)],rR.2)) (
          (A.add (ah dm 3) cJ).bind λfV=>
          some (AX.normal,[(ah dm 0),(ah dm 1),(ah dm 2),fV],rR.2)))) (
        some (AX.exit 1,[(ah dm 0),(ah dm 1),(ah dm 2),(ah dm 3)],oM)))) [.lbx (bW r),.au,.int .i64 0,.int .i64 0] W=some q∧∃i,q=(if jz r l=0 then(.exit 1,[.lbx (bW r),.au,.int .i64 0,i],W)else(.ret,[.lbx (bW r),.au,.int .i64 (jz r l),i],W)) by
  obtain⟨q,e,i,rfl⟩:=hq;exact⟨i,e⟩
 refine kG (λz u w=>∃i:Nat,i≤l.length∧z=l.length-i∧u=[.lbx (bW r),.au,.int .i64 0,.int .i64 (i:Int)]∧jz r (l.drop i)=jz r l∧w=W) ?_ (n:=l.length) ⟨0,lH _,rfl,rfl,rfl,rfl⟩;rintro z u w ⟨i,hi,rfl,rfl,hT,rfl⟩;simp only[ct,dg];rw[fZ,bS];by_cases hlt:i<l.length
 ·have hd:l.drop i=l[i]::l.drop (i+1):=List.drop_eq_getElem_cons hlt;have hx:l[i]? =some l[i]:=cu hlt;generalize l[i]=x at hd hx;rw[hd,jz]at hT;rw[cy hlt,cx,gJ 3 aC l hx,bS,show((A.deref (.rp (aC x)) w).bind λdN=>A.aA 0 3 dN)=some (.agg (aC x))from rfl,bS,p7,bS,show A.aH 0 (aC x) [br,aR,br]=some (aC x)from rfl,bS,show((A.lb (.lbx (bW r))).bind λeI=>A.aA 0 2 eI)=some (.agg (bW r))from rfl,bS,K0,bS,Ly r hr,bS];simp only;rw[Ca,bS,ext1,bS,ju,bS,show A.aH 0 (b8 (qT r x.key).1) [aR,br,br,br,br,aU,AV.au]=some (b8 (qT r x.key).1)from rfl,bS,show(qT r x.key).2=nA r x.key from rfl];cases hh:nA r x.key
  ·rw[hh,aP rfl]at hT;rw[xV,bS,cx];refine .inr ⟨_,rfl,by simp,.int .i64 (i:Int),?_⟩;rw[←hT,aQ (by decide)]
  ·rw[hh,aQ (by decide)]at hT;rw[wz,bS,bT,Le,bS,tZ,bS];simp only;cases hw:bK x.level 0 65535
   ·rw[hw,aP rfl]at hT;rw[xV,bS,cx];refine .inr ⟨_,rfl,by simp,.int .i64 (i:Int),?_⟩;rw[←hT,aQ (by decide)]
   ·rw[hw,aQ (by decide)]at hT;rw[wz,bS,bT,kK (by omega),bS];exact .inl ⟨l.length-(i+1),_,_,by omega,rfl,i+1,hlt,rfl,rfl,hT,rfl⟩
 ·rw[cB hlt,bT];rw[show l.drop i=[]from List.drop_of_length_le (by omega),jz]at hT;refine .inr ⟨_,rfl,by simp,.int .i64 (i:Int),?_⟩;rw[←hT,aP rfl]
theorem PE(n:Nat){α:Type}{X Y:α}:(bif (AX.ret==AX.exit n)then X else Y)=Y:=by rw[show(AX.ret==AX.exit n)=false from rfl];rfl
theorem PF{α:Type}{X Y:α}:(bif (AX.ret==AX.ret)then X else Y)=X:=rfl
theorem Lm{ps:List bn}{n:Int}(h:(dS ps n).2=true):(dS ps n).1∈ps∧(dS ps n).1.aF=n:=by
 unfold dS at h ⊢;cases hf:ps.find? λp=>decide (p.aF=n)with
 |none=>rw[hf]at h;cases h
 |some p=>exact⟨BW hf,by simpa using List.find?_some hf⟩
theorem X9{α:Type}{c:α→aq}{sz:Nat}{aO σ:Heap}{R:HP}{v:AV}{l:List α}{e:Int}(hc:∀x,lN (c x))(H:Hs eD aO σ (Sl (fl c) sz v l*R)):∃v',A.fin aO (.aD [v,.int .i64 e]) σ=some (.aD [v',.int .i64 e],aO)∧A.nn (.s sz) v'=sl sz c l:=by
 obtain⟨v',h1,h2,h3⟩:=IG H hc (bU _) 7;refine⟨v',It (ON H) (by simp [A.bM,A.dr,h1]) (λe=>?_),h3⟩;rcases qP H with⟨rfl,rfl|rfl,_⟩|⟨id,g,rfl,K⟩
 ·simp [A.bM]at h1;rw[h1]
 ·simp [A.bM]at h1;rw[h1]
 ·obtain⟨k1,k2⟩:=qj K;have:=(cq.1 k2).1;subst e;omega
theorem OH{aO σ:Heap}{R:HP}{e:Int}(H:Hs eD aO σ R):A.fin aO (.aD [.au,.int .i64 e]) σ=some (.aD [.au,.int .i64 e],aO):=It H (by simp [A.bM,A.dr]) (λ_=>rfl)
theorem Yw{v:AV}{l:List bn}(h:A.nn (.s 3) v=sl 3 aE l):A.nn (.e 3 me) v=sl 3 aE l:=by
 have hc:∀x:bn,A.cj me (aE x)=aE x:=λx=>fu (j0 _) (fu (j0 _) (fu (tg ..) (ux _)))
 rw[←Qj hc l,←h];cases v<;>simp [A.nn]
theorem Om{p:bn}{out:List bn}{v:AV}{σ w:Heap}{F:List bn×Int}(K:Hs eD σ w (Sl (fl aE) 3 v out*emp))(hF:F=if 2000<(p.cL.length:Int)∨200<(out.length:Int)then([],2)else(out,0)):
  ∃q,((A.guard (.bool (decide (2000<(p.cL.length:Int)))) false (some v) an).bind λCp=>
   (A.guard (.bool (decide (2000<(p.cL.length:Int)))) false (A.aY Cp) an).bind λJA=>
   (A.guard (.bool (decide (2000<(p.cL.length:Int)))) false (A.gtr JA (AV.int .i64 200)) an).bind λCq=>
   (A.pick (.bool (decide (2000<(p.cL.length:Int)))) cY Cq).bind λJB=>
   A.cond JB (A.fin σ (AV.aD [AV.au,(AV.int .i64 2)]) w) (A.fin σ (AV.aD [v,br]) w))=some (.aD [q,.int .i64 F.2],σ)∧A.nn (.e 3 me) q=sl 3 aE F.1:=by
 by_cases h:2000<(p.cL.length:Int)
 ·rw[aP (.inl h)]at hF;subst hF;rw[cy h,Fq,bS,Fq,bS,Fq,bS,ng,bS,cx,OH K];exact⟨_,rfl,BG _ _⟩
 rw[cB h,gF,bS,gF,BM K,bS,gF,we,bS,tN,bS];by_cases h2:200<(out.length:Int)
 ·rw[aP (.inr h2)]at hF;subst hF;rw[cy h2,cx,OH K];exact⟨_,rfl,BG _ _⟩
 ·rw[aQ (λk=>k.elim h h2)]at hF;subst hF;obtain⟨v',g1,g2⟩:=X9 (e:=0) L7 K;rw[cB h2,bT,g1];exact⟨_,rfl,Yw g2⟩
theorem Oo(a b:List aN):((((A.cell (sl 3 aC a)).bind λv=>some [v]).bind λyz=>(A.aH 0 yz [AV.au,AV.au]).bind λyA=>((A.cell (sl 3 aC b)).bind λv=>some [v]).bind λCA=>(A.aH 1 CA yA).bind λCB=>some CB).bind λcs=>some (AV.sl 1 (dK 1 2 cs)))=some (.sl 1 [[sl 3 aC a],[sl 3 aC b]]):=rfl
theorem uv{X Y:aB}{f:AV→AV×Heap}{P:AV→Prop}(h:X=Y)(k:∃v,Y=some (f v)∧P v):∃v,X=some (f v)∧P v:=h▸k
theorem Ve{r:cN}(hr:lF r){ps:List bn}(hp:eY vK ps)(n:Int){t:ByteArray}(ht:eB t)(l:List aN)(m:Bool)(σ:Heap):
  DP [.agg (bW r),sl 3 aE ps,.int .i64 n,.str t,sl 3 aC l,.bool m] σ=some (.aD [sl 3 aE (nE r ps n t l m).1,.int .i64 (nE r ps n t l m).2],σ):=by
 have JY:A.cj [lI,(.s 3),.k,.k,(.s 3)] [.agg (bW r),sl 3 aE ps,.int .i64 n,.str t,sl 3 aC l,.bool m]=[.agg (bW r),sl 3 aE ps,.int .i64 n,.str t,sl 3 aC l,.bool m]:=fu (Ih r) (fu (tg ..) (fu (j0 _) (fu (j0 _) (fu (tg ..) (ux _)))))
 suffices hq:∃v,GW (.agg (bW r)) (sl 3 aE ps) (.int .i64 n) (.str t) (sl 3 aC l) (.bool m) σ=some (.aD [v,.int .i64 (nE r ps n t l m).2],σ)∧A.nn (.e 3 me) v=sl 3 aE (nE r ps n t l m).1 by obtain⟨v,h1,h2⟩:=hq;refine Im rfl JY ?_ h1;rw[PB];exact congrArg AV.aD (fu h2 (fu (j0 _) (ux _)))
 have oD:A.nn (.e 3 me) .au=sl 3 aE []:=BG _ _;obtain⟨F,hF⟩:∃F,F=nE r ps n t l m:=⟨_,rfl⟩
 rw[←hF];unfold nE at hF;unfold GW;rw[gK,bS,gL,bS,KR (KZ r ps hr hp),bS];simp only;rw[PM,bS];by_cases h0:lW r ps=0
 case neg=>
  rw[aP h0]at hF;subst hF;rw[cy h0,cx,ep];exact⟨_,rfl,oD⟩
 rw[aQ (λh=>h h0)]at hF;rw[cB (λh=>h h0),bT,oS,bS];simp only;cases h1:bK n 1 999
 ·rw[h1,aP rfl]at hF;subst hF;rw[xV,bS,cx,ep];exact⟨_,rfl,oD⟩
 rw[h1,aQ (by decide)]at hF;rw[wz,bS,bT,Fc,bS]
 have ZN:∀K:AV→aB,((A.guard (.bool (decide (¬t=⟨#[]⟩))) true (some (.str t)) an).bind λx8=>
   (A.guard (.bool (decide (¬t=⟨#[]⟩))) true (A.quiet (Ba [x8] σ) σ) an).bind λx9=>
   (A.guard (.bool (decide (¬t=⟨#[]⟩))) true (A.not x9) an).bind λaS=>
   (A.pick (.bool (decide (¬t=⟨#[]⟩))) aS aU).bind K)=K (.bool (!oU t)):=by
  intro K;unfold oU;by_cases h:t=⟨#[]⟩
  ·rw[cB (λk=>k h),qD,bS,qD,bS,qD,bS,tN,bS,h];rfl
  ·rw[cy h,gT,bS,gT,qS (Lx t ht σ),bS,gT,show A.not (.bool (sX t))=some (.bool (!sX t))from rfl,bS,ng,bS];simp [h]
 refine uv (ZN _) ?_;cases h2:oU t
 ·rw[h2,aP rfl]at hF;subst hF;rw[show(!false)=true from rfl,cx,ep];exact⟨_,rfl,oD⟩
 rw[h2,aQ (by decide)]at hF;rw[show(!true)=false from rfl,bT,iy,bS,we,bS];by_cases h3:20000<(l.length:Int)
 ·rw[aP h3]at hF;subst hF;rw[cy h3,cx,ep];exact⟨_,rfl,oD⟩
 rw[aQ h3]at hF;rw[cB h3,bT,bS];obtain⟨i,yN⟩:=UN hr (l:=l) (by omega) σ;refine uv (iZ yN _) ?_;rw[bS];by_cases h4:jz r l=0
 case neg=>
  rw[aP h4]at hF;subst hF;rw[aQ h4];simp only[PE,PF,ct,dg];rw[ep];exact⟨_,rfl,oD⟩
 rw[aQ (λh=>h h4)]at hF;rw[aP h4];simp only[hJ,ct,dg];obtain⟨b1,b2⟩:=IB h0;rw[TA (UC ps (by unfold bX;omega) n),bS];simp only;rw[Ca,bS,ext1,bS,show A.cells 3 (.agg (aE (dS ps n).1))=some (aE (dS ps n).1)from rfl,bS,show A.aH 0 (aE (dS ps n).1) [br,aR,AV.au]=some (aE (dS ps n).1)from rfl,bS];rw[show((((A.cell (.int .i64 n)).bind λv=>some [v]).bind λpM=>(A.aH 0 pM [br,aR,AV.au]).bind λJH=>((A.cell (.str t)).bind λv=>some [v]).bind λCv=>(A.aH 1 Cv JH).bind λrJ=>some rJ).bind λcs=>some (AV.agg cs))=some (.agg [.int .i64 n,.str t,.au])from rfl,bS,show A.cells 3 (.agg [.int .i64 n,.str t,.au])=some [.int .i64 n,.str t,.au]from rfl,bS,show A.aH 0 [.int .i64 n,.str t,.au] [br,aR,AV.au]=some [.int .i64 n,.str t,.au]from rfl,bS]
 obtain⟨L,T,hP,tJ,hmid⟩:∃L T,xY ps n t l m=⟨n,T,eH L⟩∧L.length≤22000∧∀K:aq×Heap→aB,((A.guard (.bool (dS ps n).2) true (some (.bool m)) an).bind λdJ=>
      (A.pick (.bool (dS ps n).2) dJ aU).bind λdV=>
      (A.cond dV (
       (A.eql .z (.str t) aR).bind λmG=>
       (A.cond mG (
        (A.ay 1 (aE (dS ps n).1)).bind λiF=>
        ((A.cell iF).bind λv=>some [v]).bind λnM=>
        (A.aH 1 nM [.int .i64 n,.str t,.au]).bind λkV=>
        some ([(AV.lbx (aE (dS ps n).1)),(AV.lbx kV)],σ)) (
        some ([(AV.lbx (aE (dS ps n).1)),(AV.lbx [.int .i64 n,.str t,.au])],σ))).bind λoL=>
       ((A.lb (ah oL.1 0)).bind λ_=>some (2)).bind λC3=>
       ((A.lb (ah oL.1 0)).bind λpO=>A.ay C3 pO).bind λld=>
       ((((A.cell ld).bind λv=>some [v]).bind λyz=>(A.aH 0 yz [AV.au,AV.au]).bind λyA=>((A.cell (sl 3 aC l)).bind λv=>some [v]).bind λCA=>(A.aH 1 CA yA).bind λCB=>some CB).bind λcs=>some (AV.sl 1 (dK 1 2 cs))).bind λvA=>
       (vF [vA] oL.2).bind λqI=>
       some ([qI.1,(ah oL.1 1)],qI.2)) (
       some ([(sl 3 aC l),(AV.lbx [.int .i64 n,.str t,.au])],σ))).bind K)=K ([sl 3 aC L,.lbx [.int .i64 n,.str T,.au]],σ):=by
  have J2:(dS ps n).2=true→(dS ps n).1.cL.length≤2000:=λh=>b2 _ (Lm h).1
  unfold xY;cases hb:(dS ps n).2
  ·refine⟨l,t,rfl,by omega,λK=>?_⟩;rw[qD,bS,tN,bS,bT,bS]
  have J2:=J2 hb;cases m
  ·refine⟨l,t,rfl,by omega,λK=>?_⟩;rw[gT,bS,ng,bS,bT,bS]
  refine⟨(dS ps n).1.cL++l,if t=⟨#[]⟩then(dS ps n).1.title else t,rfl,by rw[List.length_append];omega,λK=>?_⟩
  rw[gT,bS,ng,bS,cx,show A.eql .z (.str t) (.str ⟨#[]⟩)=some (.bool (decide (t=⟨#[]⟩)))from BX _ _,bS]
  have hin:(A.cond (AV.bool (decide (t=⟨#[]⟩))) ((A.ay 1 (aE (dS ps n).1)).bind λiF=>((A.cell iF).bind λv=>some [v]).bind λnM=>(A.aH 1 nM [.int .i64 n,.str t,.au]).bind λkV=>some ([(AV.lbx (aE (dS ps n).1)),(AV.lbx kV)],σ)) (some ([(AV.lbx (aE (dS ps n).1)),(AV.lbx [.int .i64 n,.str t,.au])],σ)))=some ([(AV.lbx (aE (dS ps n).1)),(AV.lbx [.int .i64 n,.str (if t=⟨#[]⟩then(dS ps n).1.title else t),.au])],σ):=by
   by_cases ht:t=⟨#[]⟩
   ·rw[cy ht,cx,aP ht];rfl
   ·rw[cB ht,bT,aQ ht]
  refine(iZ (iZ hin _) _).trans ?_;rw[bS];simp only[ct,dg];rw[show((A.lb (AV.lbx (aE (dS ps n).1))).bind λ_=>some 2)=some 2 from rfl,bS,show((A.lb (AV.lbx (aE (dS ps n).1))).bind λpO=>A.ay 2 pO)=some (sl 3 aC (dS ps n).1.cL)from rfl,bS,Oo,bS,PU (by omega),bS,bS]
 refine uv (hmid _) ?_;simp only[ct,dg];rw[YG (by omega),bS];simp only;rw[show((A.lb (AV.lbx [.int .i64 n,.str T,.au])).bind λ_=>some 2)=some 2 from rfl,bS,wP,bS,show((A.cell (sl 3 aC (eH L))).bind λv=>some [v])=some [sl 3 aC (eH L)]from rfl,bS,show A.aH 2 [sl 3 aC (eH L)] [.int .i64 n,.str T,.au]=some (aE ⟨n,T,eH L⟩)from rfl,bS,iy,bS];obtain⟨v,w,put,i,e1,T2,K,Q2,aaS⟩:=Wq (p:=⟨n,T,eH L⟩) (l:=ps) (by omega) (λx hx=>by have:=b2 x hx;omega) (BK σ);refine uv (iZ e1 _) ?_;rw[bS];simp only[hJ,ct,dg];rw[hP]at hF
 obtain⟨v2,w2,K2,hap⟩:∃v2 w2,Hs eD σ w2 (Sl (fl aE) 3 v2 (iX ⟨n,T,eH L⟩ ps false)*emp)∧∀K:aq×Heap→aB,((A.not (AV.bool put)).bind λCn=>
       (A.cond Cn (
        ((A.lb (AV.lbx (aE ⟨n,T,eH L⟩))).bind λB8=>A.aA 0 3 B8).bind λyj=>
        (((A.cells 3 yj).bind λI8=>(A.aH 0 I8 [br,aR,AV.au]).bind λB9=>some B9).bind λcs=>some (AV.sl 3 (dK 3 1 cs))).bind λCo=>
        (A.append 3 (140737488355328 / 48) v Co w).bind λxX=>
        some ([(AV.lbx (aE ⟨n,T,eH L⟩)),xX.1],xX.2)) (
        some ([(AV.lbx (aE ⟨n,T,eH L⟩)),v],w))).bind K)=K ([.lbx (aE ⟨n,T,eH L⟩),v2],w2):=by
  cases put
  ·obtain⟨v2,w2,f1,f2⟩:=Fe ⟨n,T,eH L⟩ (by omega) K;refine⟨v2,w2,by rw[←Q2];exact f2,λK=>?_⟩;rw[xV,bS,cx,show((A.lb (.lbx (aE ⟨n,T,eH L⟩))).bind λB8=>A.aA 0 3 B8)=some (.agg (aE ⟨n,T,eH L⟩))from rfl,bS,EJ,bS,f1,bS,bS]
  ·refine⟨v,w,by rw[←Q2,aP rfl,List.append_nil];exact K,λK=>?_⟩;rw[wz,bS,bT,bS]
 refine uv (hap _) ?_;simp only[ct,dg];rw[show((A.lb (AV.lbx (aE ⟨n,T,eH L⟩))).bind λ_=>some 2)=some 2 from rfl,bS,show((A.lb (AV.lbx (aE ⟨n,T,eH L⟩))).bind λI9=>A.ay 2 I9)=some (sl 3 aC (eH L))from rfl,bS,iy,bS,we,bS];exact Om (p:=⟨n,T,eH L⟩) K2 hF
end
section
set_option maxRecDepth 100000
open HP
theorem XE{r:cN}{ps:List bn}(h:lW r ps=0):ps.Pairwise λa b=>a.aF<b.aF:=by
 unfold lW at h;split at h
 ·rename_i h0;exact absurd h h0
 split at h
 ·cases h
 have hc:=(D5 ps 0).1 h;refine LW (r:=λa b:bn=>a.aF<b.aF) (λa b c=>Int.lt_trans) ps λi x hx=>?_
 rw[←XF];have:=hc (i+1) x hx;unfold vP at this;split at this
 ·cases this
 split at this
 ·cases this
 rename_i q;rw[show(0+(i+1))=i+1 by omega]at q;rw[cy (by omega:(0:Int)<((i+1:Nat):Int)),Bool.true_and,decide_eq_true_eq]at q;omega
theorem XC{r:cN}{ps:List bn}(h:lW r ps=0):∀p∈ps,1≤p.aF∧p.aF≤999:=by
 unfold lW at h;split at h
 ·rename_i h0;exact absurd h h0
 split at h
 ·cases h
 intro p hp;obtain⟨i,hi⟩:=Ai.1 hp;have:=(D5 ps 0).1 h i p hi;unfold vP at this;split at this
 ·cases this
 rename_i q;simpa [bK]using q
theorem NH{n:Int}:∀{ps:List bn},(ps.Pairwise λa b=>a.aF<b.aF)→∃pre post,(∀x∈pre,x.aF<n)∧(∀x∈post,n<x.aF)∧((∃old,ps=pre++old::post∧old.aF=n)∨ps=pre++post)
 |[],_=>⟨[],[],by simp,by simp,.inr rfl⟩
 |x::ps,h=>by
  have hs:=List.pairwise_cons.1 h;by_cases h1:x.aF<n
  ·obtain⟨pre,post,a1,a2,a3⟩:=NH hs.2;refine⟨x::pre,post,λy hy=>?_,a2,?_⟩
   ·rcases eu.1 hy with rfl|hy
    ·exact h1
    ·exact a1 y hy
   ·rcases a3 with⟨old,rfl,ho⟩|rfl
    ·exact .inl ⟨old,rfl,ho⟩
    ·exact .inr rfl
  ·by_cases h2:x.aF=n
   ·exact⟨[],ps,by simp,λy hy=>by have:=hs.1 y hy;omega,.inl ⟨x,rfl,h2⟩⟩
   ·refine⟨[],x::ps,by simp,λy hy=>?_,.inr rfl⟩;rcases eu.1 hy with rfl|hy
    ·omega
    ·have:=hs.1 y hy;omega
theorem G0{p:bn}{t:List bn}:∀{pre:List bn},(∀x∈pre,x.aF<p.aF)→iX p (pre++t) false=pre++iX p t false
 |[],_=>rfl
 |x::pre,h=>by have hx:=h x (by simp);rw[nr,iX,Bool.false_or,cB (by omega),G0 λy hy=>h y (by simp [hy])];simp [show ¬x.aF=p.aF by omega]
theorem Ln{p:bn}{post:List bn}(h:∀x∈post,p.aF<x.aF):(post.filter λx=>decide (¬x.aF=p.aF))=post:=by rw[List.filter_eq_self];intro x hx;have:=h x hx;simp;omega
theorem U0{p old:bn}{post:List bn}(ho:old.aF=p.aF)(h:∀x∈post,p.aF<x.aF):iX p (old::post) false=p::post:=by rw[iX,Bool.false_or,cy (by omega),Hx,Ln h];simp [ho]
theorem Us{p:bn}{post:List bn}(h:∀x∈post,p.aF<x.aF):iX p post false=p::post:=by
 cases post with
 |nil=>rfl
 |cons x t=>have hx:=h x (by simp);rw[iX,Bool.false_or,cy (by omega),Hx,Ln λy hy=>h y (by simp [hy])];simp [show ¬x.aF=p.aF by omega]
theorem LM{old:bn}{pre post:List bn}{n:Int}(ho:old.aF=n)(h:∀x∈pre,x.aF<n):dS (pre++old::post) n=(old,true):=by unfold dS;rw[List.find?_append,List.find?_eq_none.2 (λx hx=>by have:=h x hx;simp;omega),Option.none_or,List.find?_cons,cy ho]
theorem Un{ps:List bn}{n:Int}(h:∀x∈ps,¬x.aF=n):dS ps n=(⟨0,⟨#[]⟩,[]⟩,false):=by unfold dS;rw[List.find?_eq_none.2 (λx hx=>by simpa using h x hx)]
theorem PO{dyn:Nat→aq→Heap→aB}{l:List bn}{fn:Nat}{k:Int}{cv:bn→Int}{p:Nat}{σ:Heap}(hl:l.length<4611686018427387904)(hp:p≤l.length)
  (hd:∀x∈l,dyn fn [.agg (aE x),.int .i64 k] σ=some (.int .i64 (cv x),σ)) (hc:∀h x,l[h]? =some x→(cv x<0↔h<p)):
  zb dyn [sl 3 aE l,.int .i64 k,.fn fn []] σ=some (.aD [.int .i64 (p:Int),.bool ((l[p]?).any λx=>decide (cv x=0))],σ):=by
 refine wrap_eq rfl ?_ rfl;show Dr dyn (sl 3 aE l) (.int .i64 k) (.fn fn []) σ=_;unfold Dr;rw[iy,aM];rw[WO (v0:=[.int .i64 0,.int .i64 (l.length:Int)]) (λi j=>[.int .i64 (i:Int),.int .i64 (j:Int)]) hp rfl ?_ ?_,aM]
 ·simp only[QE,dg,ct];rw[Jv,aM];by_cases hpl:p<l.length
  ·have hx:l[p]? =some l[p]:=cu hpl;have wL:=hd _ (cM hx);have gj:=gJ 3 aE l hx;have hq:=qS (by show A.fC dyn (.fn fn []) [.agg (aE l[p]),.int .i64 k] σ=_;simp only[A.fC,List.append_nil];exact wL);simp only[cy hpl,A.guard,beq_self_eq_true,bA,aM,dg,ct,gj,A.deref,Ma,A.lb,A.ay,A.aA,A.pick,hx,Option.any_some];show((A.quiet (A.fC dyn (.fn fn []) [.agg (aE l[p]),.int .i64 k] σ) σ).bind _)=_;rw[hq,aM,rE];exact ep _ _
  ·have hx:l[p]? =none:=kN (by omega);simp only[cB hpl,A.guard,aM,A.pick,hx,Option.any_none];exact ep _ _
 ·intro i j hij hj;have hlt:(i+j) / 2<l.length:=by omega
  have hx:l[(i+j) / 2]? =some l[(i+j) / 2]:=cu hlt;have wL:=hd _ (cM hx);have gj:=gJ 3 aE l hx;have hq:A.fC dyn (.fn fn []) [.agg (aE l[(i+j) / 2]),.int .i64 k] σ=some (.int .i64 (cv l[(i+j) / 2]),σ):=by simp only[A.fC,List.append_nil];exact wL
  simp only[dg,ct];rw[Jv,aM,cy hij];simp only[A.cond,bA];rw[Ju (by omega),aM,X8 (by omega),aM,Xf (by omega),aM,X7 (by omega),aM,gj,aM];simp only[A.deref,aM,Ma,A.lb];rw[hq,aM,Za,aM];by_cases hh:(i+j) / 2<p
  ·have:=(hc _ _ hx).2 hh;rw[cy this,aP hh];simp only[bA,Y9 (show(i+j) / 2+1<9223372036854775808 by omega),aM];rfl
  ·have:¬(cv l[(i+j) / 2]<0):=λe=>hh ((hc _ _ hx).1 e)
   rw[cB this,aQ hh];rfl
 ·intro i hi;simp only[dg,ct];rw[Jv,aM,cB (Nat.lt_irrefl i)];rfl
theorem WG{s:List Sh}{ro:Sh}{r:AV→AV→Heap→aB}{x y v v':AV}{σ:Heap}(h:[x,y].any A.own=false)(e1:A.cj s [x,y]=[x,y])(e2:A.nn ro v=v')(e:r x y σ=some (v,σ)):A.wrap true s ro (A.dA r) [x,y] σ=some (v',σ):=by refine wrap_eq h ?_ e2;rw[e1];exact e
theorem O0{x:bn}{n:Int}(hx:1≤x.aF∧x.aF≤999)(hn:1≤n∧n≤999)(σ:Heap):A.tab (λ_ _=>none) [(113,sx)] 113 [.agg (aE x),.int .i64 n] σ=some (.int .i64 (x.aF-n),σ):=by
 show sx [.agg (aE x),.int .i64 n] σ=_;refine WG rfl ?_ (j0 _) ?_
 ·exact fu (by
   rw[show A.nn (.a me) (.agg (aE x))=.agg (A.cj me (aE x)) by simp [A.nn],show A.cj me (aE x)=aE x from fu (j0 _) (fu (j0 _) (fu (tg ..) (ux _)))]) (ux _)
 unfold KS;rw[show A.cells 3 (.agg (aE x))=some (aE x)from rfl,bS,show A.ay 0 (aE x)=some (.int .i64 x.aF)from rfl,bS,show A.sub (.int .i64 x.aF) (.int .i64 n)=some (.int .i64 (x.aF-n)) by rw[Al,cW (by unfold bp;omega)],bS,ep]
theorem UO{r:cN}{M:List (bP×Bool)}(hM:∀k,(jX k M).getD false=nA r k){l:List aN}(hl:l.length≤20000)(W:Heap):
  ∃ i, A.loop ((λdF jK =>
    (A.lss (ah dF 2) (AV.int .i64 (l.length:Int))).bind λcA=>
    A.cond cA (
     (A.aK 3 (sl 3 aC l) (ah dF 2)).bind λeo=>
     ((A.deref eo jK).bind λyq=>A.aA 0 3 yq).bind λeJ=>
     (A.cells 3 eJ).bind λmq=>
     (A.aH 0 mq [br,aR,br]).bind λiM=>
     (A.aA 0 2 iM).bind λfV=>
     (A.look (.s [0,2]) (yG (λx=>(AV.agg (bV x))) (λx=>(AV.bool x)) M) fV aU jK).bind λkY=>
     (A.not kY).bind λdU=>
     A.cond dU (
      some (AX.ret,[AV.au,(AV.int .i64 8),(ah dF 2)],jK)) (
      (A.ay 2 iM).bind λeR=>
      (w8 [eR] jK).bind λmD=>
      (A.not mD.1).bind λfK=>
      A.cond fK (
       some (AX.ret,[AV.au,cJ,(ah dF 2)],mD.2)) (
       (A.add (ah dF 2) cJ).bind λnT=>
       some (AX.normal,[(ah dF 0),(ah dF 1),nT],mD.2)))) (
     some (AX.exit 0,[(ah dF 0),(ah dF 1),(ah dF 2)],jK)))) [.au,.int .i64 0,.int .i64 0] W=some (if jz r l=0 then(.exit 0,[.au,.int .i64 0,i],W)else(.ret,[.au,.int .i64 (jz r l),i],W)):=by
 suffices hq:∃q,A.loop ((λdF jK=>
    (A.lss (ah dF 2) (AV.int .i64 (l.length:Int))).bind λcA=>
    A.cond cA (
     (A.aK 3 (sl 3 aC l) (ah dF 2)).bind λeo=>
     ((A.deref eo jK).bind λyq=>A.aA 0 3 yq).bind λeJ=>
     (A.cells 3 eJ).bind λmq=>
     (A.aH 0 mq [br,aR,br]).bind λiM=>
     (A.aA 0 2 iM).bind λfV=>
     (A.look (.s [0,2]) (yG (λx=>(AV.agg (bV x))) (λx=>(AV.bool x)) M) fV aU jK).bind λkY=>
     (A.not kY).bind λdU=>
     A.cond dU (
      some (AX.ret,[AV.au,(AV.int .i64 8),(ah dF 2)],jK)) (
      (A.ay 2 iM).bind λeR=>
      (w8 [eR] jK).bind λmD=>
      (A.not mD.1).bind λfK=>
      A.cond fK (
       some (AX.ret,[AV.au,cJ,(ah dF 2)],mD.2)) (
       (A.add (ah dF 2) cJ).bind λnT=>
       some (AX.normal,[(ah dF 0),(ah dF 1),nT],mD.2)))) (
     some (AX.exit 0,[(ah dF 0),(ah dF 1),(ah dF 2)],jK)))) [.au,.int .i64 0,.int .i64 0] W=some q∧∃i,q=(if jz r l=0 then(.exit 0,[.au,.int .i64 0,i],W)else(.ret,[.au,.int .i64 (jz r l),i],W)) by
  obtain⟨q,e,i,rfl⟩:=hq;exact⟨i,e⟩
 refine kG (λz u w=>∃i:Nat,i≤l.length∧z=l.length-i∧u=[.au,.int .i64 0,.int .i64 (i:Int)]∧jz r (l.drop i)=jz r l∧w=W) ?_ (n:=l.length) ⟨0,lH _,rfl,rfl,rfl,rfl⟩;rintro z u w ⟨i,hi,rfl,rfl,hT,rfl⟩;simp only[ct,dg];rw[fZ,bS];by_cases hlt:i<l.length
 ·have hd:l.drop i=l[i]::l.drop (i+1):=List.drop_eq_getElem_cons hlt;have hx:l[i]? =some l[i]:=cu hlt;generalize l[i]=x at hd hx;rw[hd,jz]at hT;rw[cy hlt,cx,gJ 3 aC l hx,bS,show((A.deref (.rp (aC x)) w).bind λdN=>A.aA 0 3 dN)=some (.agg (aC x))from rfl,bS,p7,bS,show A.aH 0 (aC x) [br,aR,br]=some (aC x)from rfl,bS,K0,bS,No (ek:=(.s [0,2])) (eK:=(λx=>(AV.agg (bV x)))) (eV:=(λx=>(AV.bool x))) BC x.key false rfl,bS,hM];cases hh:nA r x.key
  ·rw[hh,aP rfl]at hT;rw[xV,bS,cx];refine .inr ⟨_,rfl,by simp,.int .i64 (i:Int),?_⟩;rw[←hT,aQ (by decide)]
  ·rw[hh,aQ (by decide)]at hT;rw[wz,bS,bT,Le,bS,LI,bS];simp only;cases hw:bK x.level 0 65535
   ·rw[hw,aP rfl]at hT;rw[xV,bS,cx];refine .inr ⟨_,rfl,by simp,.int .i64 (i:Int),?_⟩;rw[←hT,aQ (by decide)]
   ·rw[hw,aQ (by decide)]at hT;rw[wz,bS,bT,kK (by omega),bS];exact .inl ⟨l.length-(i+1),_,_,by omega,rfl,i+1,hlt,rfl,rfl,hT,rfl⟩
 ·rw[cB hlt,bT];rw[show l.drop i=[]from List.drop_of_length_le (by omega),jz]at hT;refine .inr ⟨_,rfl,by simp,.int .i64 (i:Int),?_⟩;rw[←hT,aP rfl]
theorem Xm{r:cN}(hr:lF r)(h0:ga r=0):∃M,vH r=some M∧∀k,(jX k M).getD false=nA r k:=by refine⟨(oc r).foldl (λs x=>nF x true s) [],?_,λk=>by rw[HB,Nr h0];simp [jX]⟩;unfold vH;have:=Ns h0;simp only[xD hr,aM,h0,if_true];rw[MA (λs x=>nF x true s) (λ_ _=>True) (by unfold bX;omega) trivial (λ_ _ _ _ _=>trivial) (λ_ _ _ _ _=>rfl)];rfl
theorem XH{n:Int}(hn:1≤n∧n≤999){ps:List bn}(hl:ps.length≤200)(hps:∀p∈ps,1≤p.aF∧p.aF≤999)(hs:ps.Pairwise λa b=>a.aF<b.aF) {σ W:Heap} {v:AV} (K:Hs eD σ W (Sl (fl aE) 3 v ps*emp)):
  ∃(is:Bool)(pre post:List bn)(id g:Nat)(w:Heap)(T0:ByteArray)(S0:AV),
   zb (A.tab (λ_ _=>none) [(113,sx)]) [v,.int .i64 n,(AV.fn 113 [])] W=some (.aD [.int .i64 (pre.length:Int),.bool is],W)∧
   is=(dS ps n).2∧(is=true→T0=(dS ps n).1.title∧S0=sl 3 aC (dS ps n).1.cL)∧
   (∀K:aq×Heap→aB,((A.not (.bool is)).bind λnW=>
    (A.cond nW (
     ((((A.cell (.int .i64 n)).bind λv=>some [v]).bind λuW=>(A.aH 0 uW [br,aR,AV.au]).bind λmu=>some mu).bind λcs=>some (AV.agg cs)).bind λn4=>
     (((A.cells 3 n4).bind λyB=>(A.aH 0 yB [br,aR,AV.au]).bind λyC=>some yC).bind λcs=>some (AV.sl 3 (dK 3 1 cs))).bind λsk=>
     (zi [v,(.int .i64 (pre.length:Int)),sk] W).bind λvo=>
     some ([vo.1],vo.2)) (
     some ([v],W))).bind K)=K ([.os id g 3 0 (pre.length+1+post.length)],w))∧
   Hs eD σ w (blk id (.arr g 3 (pre.map aE++[.int .i64 n,.str T0,S0]::post.map aE))*emp)∧
   (∀t s,iX ⟨n,t,s⟩ ps false=pre++⟨n,t,s⟩::post):=by
 obtain⟨pre,post,a1,a2,a3⟩:=NH (n:=n) hs
 obtain⟨rest,E1,hge⟩:∃rest,ps=pre++rest∧∀x∈rest,n≤x.aF:=by
  rcases a3 with⟨old,rfl,ho⟩|rfl
  ·refine⟨_,rfl,λx hx=>?_⟩;rcases eu.1 hx with rfl|hx
   ·omega
   ·have:=a2 x hx;omega
  ·exact⟨_,rfl,λx hx=>by have:=a2 x hx;omega⟩
 have pR:=PO (dyn:=A.tab (λ_ _=>none) [(113,sx)]) (l:=ps) (fn:=113) (k:=n) (cv:=λx=>x.aF-n) (p:=pre.length) (σ:=W) (by omega) (by rw[E1];simp) (λx hx=>O0 (hps x hx) hn _) (λh x hx=>by
  rw[E1]at hx;by_cases hlt:h<pre.length
  ·rw[fH hlt]at hx;have:=a1 x (cM hx);exact⟨λ_=>hlt,λ_=>by omega⟩
  ·rw[fD (by omega)]at hx;have:=hge x (cM hx)
   exact⟨λq=>by omega,λq=>absurd q hlt⟩)
 have PX:∀{b:Bool},(ps[pre.length]?).any (λx=>decide (x.aF-n=0))=b→zb (A.tab (λ_ _=>none) [(113,sx)]) [v,.int .i64 n,(AV.fn 113 [])] W=some (.aD [.int .i64 (pre.length:Int),.bool b],W):=by
  rintro b rfl;refine Jp (dB:=[.s 3]) (ts:=[sl 3 aE ps,.int .i64 n,.fn 113 []]) ⟨Yo L7 K,Yn n,Pz (by intro σ a b;simp [A.bM,A.dr]) rfl,trivial⟩ (λσ'=>?_) rfl
  exact PO (dyn:=A.tab (λ_ _=>none) [(113,sx)]) (l:=ps) (fn:=113) (k:=n) (cv:=λx=>x.aF-n) (p:=pre.length) (σ:=σ') (by omega) (by rw[E1];simp) (λx hx=>O0 (hps x hx) hn _) (λh x hx=>by
   rw[E1]at hx;by_cases hlt:h<pre.length
   ·rw[fH hlt]at hx;have:=a1 x (cM hx);exact⟨λ_=>hlt,λ_=>by omega⟩
   ·rw[fD (by omega)]at hx;have:=hge x (cM hx)
    exact⟨λq=>by omega,λq=>absurd q hlt⟩)
 clear pR;rcases a3 with⟨old,rfl,ho⟩|rfl
 ·subst ho;rcases qP K with⟨h,_,_⟩|⟨id,g,rfl,K2⟩
  ·simp at h
  refine⟨true,pre,post,id,g,W,old.title,sl 3 aC old.cL,PX (by simp),?_,?_,?_,?_,λt s=>by rw[G0 (p:=⟨old.aF,t,s⟩) a1,U0 (p:=⟨old.aF,t,s⟩) (old:=old) rfl a2]⟩
  ·rw[LM rfl a1]
  ·intro _;rw[LM rfl a1];exact⟨rfl,rfl⟩
  ·intro K;rw[wz,bS,bT,bS,List.length_append,List.length_cons,lG,Nat.add_comm 1]
  ·rw[List.map_append,fP]at K2;exact K2
 ·have hno:∀x∈pre++post,¬x.aF=n:=by
   intro x hx;rcases ew.1 hx with hx|hx
   ·have:=a1 x hx;omega
   ·have:=a2 x hx;omega
  obtain⟨c,hc⟩:∃c:bn→aq,c=λx=>if x.aF=n then[.int .i64 n,.str ⟨#[]⟩,.au]else aE x:=⟨_,rfl⟩
  have JR:∀l:List bn,(∀x∈l,¬x.aF=n)→l.map c=l.map aE:=λl h=>List.map_congr_left λx hx=>by rw[hc];exact aQ (h x hx)
  have Q6:c ⟨n,⟨#[]⟩,[]⟩=[.int .i64 n,.str ⟨#[]⟩,.au]:=by rw[hc];exact aP rfl
  have K2:Hs eD σ W (Sl (fl c) 3 v (pre++post)*emp):=by
   rcases qP K with⟨h,hv,K⟩|⟨id,g,rfl,K2⟩
   ·rw[h];exact vr K hv
   ·exact O4 (by rw[JR _ hno];exact K2)
  obtain⟨v',w,e,H2⟩:=O2 (most:=140737488355328 / 48) (zs:=[br,aR,AV.au]) (tO:=AP) (B:=eD) (E:=fl c) (y:=⟨n,⟨#[]⟩,[]⟩) (ye:=[.int .i64 n,.str ⟨#[]⟩,.au]) (i:=pre.length)
   (kI (show pr ([.int .i64 n,.str ⟨#[]⟩,.au]=c ⟨n,⟨#[]⟩,[]⟩)*(Sl (fl c) 3 v (pre++post)*emp)=_ by rw[show fl c [.int .i64 n,.str ⟨#[]⟩,.au] ⟨n,⟨#[]⟩,[]⟩=pr ([.int .i64 n,.str ⟨#[]⟩,.au]=c ⟨n,⟨#[]⟩,[]⟩)from rfl];ac_rfl) (uw.2 ⟨Q6.symm,K2⟩)) (by simp) (by omega) (by omega) (λ_ _ _ _ _=>trivial)
  have e2:zi [v,.int .i64 (pre.length:Int),.sl 3 [[.int .i64 n,.str ⟨#[]⟩,.au]]] W=some (v',w):=by unfold zi A.wrap;rw[Bool.false_and,aV,show A.cj [] [v,.int .i64 (pre.length:Int),.sl 3 [[.int .i64 n,.str ⟨#[]⟩,.au]]]=[v,.int .i64 (pre.length:Int),.sl 3 [[.int .i64 n,.str ⟨#[]⟩,.au]]] by simp [A.cj]];show(DA v (.int .i64 (pre.length:Int)) (.sl 3 [[.int .i64 n,.str ⟨#[]⟩,.au]]) W).map _=_;rw[show DA v (.int .i64 (pre.length:Int)) (.sl 3 [[.int .i64 n,.str ⟨#[]⟩,.au]]) W=some (v',w)from e];simp [j0]
  rw[List.take_left' rfl,List.drop_left' rfl]at H2;rcases qP H2 with⟨h,_,_⟩|⟨id,g,rfl,K3⟩
  ·simp at h
  refine⟨false,pre,post,id,g,w,⟨#[]⟩,.au,PX ?_,?_,(λh=>by cases h),?_,?_,λt s=>by rw[G0 (p:=⟨n,t,s⟩) a1,Us (p:=⟨n,t,s⟩) a2]⟩
  ·rw[fD (bU _),Nat.sub_self];cases post with
   |nil=>rfl
   |cons x t=>have:=a2 x (by simp);simp;omega
  ·rw[Un hno]
  ·intro K;rw[xV,bS,cx,show((((A.cell (.int .i64 n)).bind λv=>some [v]).bind λuW=>(A.aH 0 uW [br,aR,AV.au]).bind λmu=>some mu).bind λcs=>some (AV.agg cs))=some (.agg [.int .i64 n,.str ⟨#[]⟩,.au])from rfl,bS,show(((A.cells 3 (.agg [.int .i64 n,.str ⟨#[]⟩,.au])).bind λyB=>(A.aH 0 yB [br,aR,AV.au]).bind λyC=>some yC).bind λcs=>some (AV.sl 3 (dK 3 1 cs)))=some (.sl 3 [[.int .i64 n,.str ⟨#[]⟩,.au]])from rfl,bS,e2,bS,bS];rw[show(pre++[(⟨n,⟨#[]⟩,[]⟩:bn)]++post).length=pre.length+1+post.length by simp;omega]
  ·rw[List.map_append,List.map_append,fP,List.map_nil,Q6,JR pre (λx hx=>hno x (by simp [hx])),JR post (λx hx=>hno x (by simp [hx])),jg]at K3;exact K3
end
section
set_option maxRecDepth 100000
open HP
theorem Ya{a b c d:Int}:(([a,b,c,d]:List Int).find? λn=>decide (¬n=0)).getD 0=if ¬(a=0)then a else if ¬(b=0)then b else if ¬(c=0)then c else d:=by by_cases h1:a=0<;>by_cases h2:b=0<;>by_cases h3:c=0<;>by_cases h4:d=0<;>simp [List.find?_cons,h1,h2,h3,h4]
theorem IX{id g p:Nat}{w:Heap}{A1 A2:List aq}{x:aq}(hg:w[id]? =some (.arr g 3 (A1++x::A2)))(hp:A1.length=p)(o:Nat):A.deref (.oe id g p o) w=some (x.drop o):=by subst hp;simp only[A.deref,hg,if_true];rw[fD (bU _),Nat.sub_self,List.getElem?_cons_zero];rfl
theorem PC{id g p o:Nat}{w:Heap}{A1 A2:List aq}{x y new:aq}(hg:w[id]? =some (.arr g 3 (A1++x::A2)))(hp:A1.length=p)(h:A.aH o new x=some y):A.storeAt (.oe id g p o) new w=some (w.set id (.arr g 3 (A1++y::A2))):=by subst hp;simp only[A.storeAt,hg,if_true];rw[fD (bU _),Nat.sub_self,List.getElem?_cons_zero,aM,h,eO,qt _ _ (bU _),Nat.sub_self,List.set_cons_zero]
theorem Vf{r:cN}(hr:lF r){ps:List bn}(hp:eY vK ps)(n:Int){t:ByteArray}(ht:eB t)(l:List aN)(m:Bool)(σ:Heap):
  DJ [.agg (bW r),sl 3 aE ps,.int .i64 n,.str t,sl 3 aC l,.bool m] σ=some (.aD [sl 3 aE (nE r ps n t l m).1,.int .i64 (nE r ps n t l m).2],σ):=by
 have JY:A.cj [lI,(.s 3),.k,.k,(.s 3)] [.agg (bW r),sl 3 aE ps,.int .i64 n,.str t,sl 3 aC l,.bool m]=[.agg (bW r),sl 3 aE ps,.int .i64 n,.str t,sl 3 aC l,.bool m]:=fu (Ih r) (fu (tg ..) (fu (j0 _) (fu (j0 _) (fu (tg ..) (ux _)))))
 suffices hq:∃v,DK (.agg (bW r)) (sl 3 aE ps) (.int .i64 n) (.str t) (sl 3 aC l) (.bool m) σ=some (.aD [v,.int .i64 (nE r ps n t l m).2],σ)∧A.nn (.e 3 me) v=sl 3 aE (nE r ps n t l m).1 by obtain⟨v,h1,h2⟩:=hq;refine Im rfl JY ?_ h1;rw[PB];exact congrArg AV.aD (fu h2 (fu (j0 _) (ux _)))
 have oD:A.nn (.e 3 me) .au=sl 3 aE []:=BG _ _;obtain⟨F,hF⟩:∃F,F=nE r ps n t l m:=⟨_,rfl⟩
 rw[←hF];unfold nE at hF;unfold DK;rw[gK,bS,gL,bS,KO (K8 r ps hr hp),bS];simp only;rw[qg,bS];simp only;rw[show A.not (.bool (bK n 1 999))=some (.bool (!bK n 1 999))from rfl,bS,Ey,bS];simp only;rw[Nb t ht,bS];simp only;rw[show A.not (.bool (oU t))=some (.bool (!oU t))from rfl,bS,Ey,bS];simp only;rw[iy,bS,we,bS,Ey,bS];simp only;have hrow:∀a b c d:Int,((((A.cell (.int .i64 a)).bind λv=>some [v]).bind λkU=>(A.aH 0 kU [br,br,br,br]).bind λgf=>((A.cell (.int .i64 b)).bind λv=>some [v]).bind λeU=>(A.aH 1 eU gf).bind λjE=>((A.cell (.int .i64 c)).bind λv=>some [v]).bind λiz=>(A.aH 2 iz jE).bind λfQ=>((A.cell (.int .i64 d)).bind λv=>some [v]).bind λnJ=>(A.aH 3 nJ fQ).bind λdN=>some dN).bind λcs=>some (AV.sl 1 (dK 1 4 cs)))=some (sl 1 nu [a,b,c,d]):=λ_ _ _ _=>rfl
 rw[hrow,bS,M7 _ (by show 4≤bX;unfold bX;omega),bS,Ya];simp only;rw[PM,bS];by_cases h0:lW r ps=0
 case neg=>
  rw[aP h0]at hF;subst hF;rw[aP h0,cy h0,cx,ep];exact⟨_,rfl,oD⟩
 rw[aQ (λh=>h h0)]at hF;rw[aQ (λh=>h h0)];cases h1:bK n 1 999
 ·rw[h1,aP rfl]at hF;subst hF;rw[show(!false)=true from rfl,aP rfl,aP (show ¬((1:Int)=0) by decide),cy (show ¬((1:Int)=0) by decide),cx,ep];exact⟨_,rfl,oD⟩
 rw[h1,aQ (by decide)]at hF;rw[show(!true)=false from rfl,aQ (show ¬(false=true) by decide),aQ (show ¬¬((0:Int)=0) by decide)];cases h2:oU t
 ·rw[h2,aP rfl]at hF;subst hF;rw[show(!false)=true from rfl,aP rfl,aP (show ¬((3:Int)=0) by decide),cy (show ¬((3:Int)=0) by decide),cx,ep];exact⟨_,rfl,oD⟩
 rw[h2,aQ (by decide)]at hF;rw[show(!true)=false from rfl,aQ (show ¬(false=true) by decide),aQ (show ¬¬((0:Int)=0) by decide)];by_cases h3:20000<(l.length:Int)
 ·rw[aP h3]at hF;subst hF;rw[cy h3,aP rfl,cy (show ¬((2:Int)=0) by decide),cx,ep];exact⟨_,rfl,oD⟩
 rw[aQ h3]at hF;rw[cB h3,aQ (show ¬(false=true) by decide),cB (show ¬¬((0:Int)=0) by decide),bT];obtain⟨M,hM1,hM2⟩:=Xm hr (T6 h0);rw[bS,LG hM1,bS,bS];simp only;obtain⟨i,yN⟩:=UO hM2 (l:=l) (by omega) σ;refine uv (iZ yN _) ?_;rw[bS];by_cases h4:jz r l=0
 case neg=>
  rw[aP h4]at hF;subst hF;rw[aQ h4];simp only[PE,PF,ct,dg];rw[ep];exact⟨_,rfl,oD⟩
 rw[aQ (λh=>h h4)]at hF;rw[aP h4];simp only[hJ,ct,dg];obtain⟨b1,b2⟩:=IB h0;have hn:1≤n∧n≤999:=by simpa [bK]using h1
 rw[iy,bS];obtain⟨v,w,i,e1,K⟩:=V7 (l:=ps) (by omega) (λx hx=>by have:=b2 x hx;omega) (BK σ);refine uv (iZ e1 _) ?_;rw[bS];simp only[hJ,ct,dg];obtain⟨is,pre,post,id,g,w2,T0,S0,f1,f2,f3,f4,f5,f6⟩:=XH hn b1 (XC h0) (XE h0) K;rw[f1,bS];simp only;rw[Ca,bS,ext1,bS];refine uv (f4 _) ?_;simp only[ct,dg];rw[show A.aK 3 (.os id g 3 0 (pre.length+1+post.length)) (.int .i64 (pre.length:Int))=some (.oe id g pre.length 0) by simp [A.aK,A.idx,show((pre.length:Int)<((pre.length:Int)+1+(post.length:Int))) by omega],bS];obtain⟨_,g2⟩:=qj f5;have hfa:∀o,A.eG o (.oe id g pre.length 0)=some (.oe id g pre.length o):=λo=>by simp [A.eG]
 have hnc:A.lD (.oe id g pre.length 0)=some (.oe id g pre.length 0):=rfl;have hpl:(pre.map aE).length=pre.length:=by simp
 obtain⟨L,T,hP,tJ,hmid⟩:∃L T,xY ps n t l m=⟨n,T,eH L⟩∧L.length≤22000∧∀K:aq×Heap→aB,((A.guard (.bool m) true (some (.bool is)) an).bind λKA=>
    (A.pick (.bool m) KA aU).bind λmI=>
    (A.cond mI (
     (A.lD (.oe id g pre.length 0)).bind λDk=>
     (A.eG 2 Dk).bind λkr=>
     ((A.deref kr w2).bind λuX=>A.ay 0 uX).bind λku=>
     ((((A.cell ku).bind λv=>some [v]).bind λJJ=>(A.aH 0 JJ [AV.au,AV.au]).bind λCF=>((A.cell (sl 3 aC l)).bind λv=>some [v]).bind λCG=>(A.aH 1 CG CF).bind λnN=>some nN).bind λcs=>some (AV.sl 1 (dK 1 2 cs))).bind λlf=>
     (vF [lf] w2).bind λvq=>
     (A.eql .z (.str t) aR).bind λDl=>
     (A.cond Dl (
      (A.lD (.oe id g pre.length 0)).bind λvC=>
      (A.eG 1 vC).bind λyY=>
      ((A.deref yY vq.2).bind λrK=>A.ay 0 rK).bind λpZ=>
      some ([pZ],vq.2)) (
      some ([(.str t)],vq.2))).bind λC9=>
     some ([(ah C9.1 0),vq.1],C9.2)) (
     some ([(.str t),(sl 3 aC l)],w2))).bind K)=K ([.str T,sl 3 aC L],w2):=by
  unfold xY;cases m
  ·refine⟨l,t,by rw[Bool.and_false];rfl,by omega,λK=>?_⟩;rw[qD,bS,tN,bS,bT,bS]
  rw[Bool.and_true,←f2];cases is
  ·refine⟨l,t,rfl,by omega,λK=>?_⟩;rw[gT,bS,ng,bS,bT,bS]
  obtain⟨rfl,rfl⟩:=f3 rfl;have J2:=b2 _ (Lm f2.symm).1;refine⟨(dS ps n).1.cL++l,if t=⟨#[]⟩then(dS ps n).1.title else t,rfl,by rw[List.length_append];omega,λK=>?_⟩
  rw[gT,bS,ng,bS,cx,hnc,bS,hfa,bS,show((A.deref (.oe id g pre.length 2) w2).bind λuX=>A.ay 0 uX)=some (sl 3 aC (dS ps n).1.cL) by rw[IX g2 hpl];rfl,bS,Oo,bS,PU (by omega),bS,show A.eql .z (.str t) (.str ⟨#[]⟩)=some (.bool (decide (t=⟨#[]⟩)))from BX _ _,bS];simp only;by_cases ht:t=⟨#[]⟩
  ·rw[cy ht,cx,aP ht,bS,hfa,bS,show((A.deref (.oe id g pre.length 1) w2).bind λuX=>A.ay 0 uX)=some (.str (dS ps n).1.title) by rw[IX g2 hpl];rfl,bS,bS,bS];rfl
  ·rw[cB ht,bT,aQ ht,bS,bS];rfl
 refine uv (hmid _) ?_;simp only[ct,dg];rw[YH (by omega),bS];simp only;obtain⟨R,hR⟩:∃R,R=eH L:=⟨_,rfl⟩
 have w1:=PC (o:=1) (new:=[.str T]) (y:=[.int .i64 n,.str T,S0]) g2 hpl rfl;have hid:id<w2.length:=(cq.1 g2).1;have g3:(w2.set id (.arr g 3 (pre.map aE++[.int .i64 n,.str T,S0]::post.map aE)))[id]? =some (.arr g 3 (pre.map aE++[.int .i64 n,.str T,S0]::post.map aE)):=l8 hid;have w3:=PC (o:=2) (new:=[sl 3 aC (eH L)]) (y:=aE ⟨n,T,eH L⟩) g3 hpl rfl;rw[List.set_set]at w3;have K5:=BL (b':=.arr g 3 ((pre++⟨n,T,eH L⟩::post).map aE)) f5 trivial;rw[List.map_append,fP]at K5;have g4:(w2.set id (.arr g 3 (pre.map aE++aE ⟨n,T,eH L⟩::post.map aE)))[id]? =some (.arr g 3 (pre.map aE++aE ⟨n,T,eH L⟩::post.map aE)):=l8 hid;rw[hnc,bS,hfa,bS,show((A.cell (.str T)).bind λv=>some [v])=some [.str T]from rfl,bS,w1,bS,bS,hfa,bS,show((A.cell (sl 3 aC (eH L))).bind λv=>some [v])=some [sl 3 aC (eH L)]from rfl,bS,w3,bS,bS,hfa,bS,show((A.deref (.oe id g pre.length 2) (w2.set id (.arr g 3 (pre.map aE++aE ⟨n,T,eH L⟩::post.map aE)))).bind λuX=>A.ay 0 uX)=some (sl 3 aC (eH L)) by rw[IX g4 hpl];rfl,bS,iy,bS,we,bS];rw[hP,f6]at hF;refine Om (p:=⟨n,T,eH L⟩) (out:=pre++⟨n,T,eH L⟩::post) ?_ hF;have K6:Hs eD σ _ (Sl (fl aE) 3 (.os id g 3 0 (pre.length+1+post.length)) (pre++⟨n,T,eH L⟩::post)*emp):=O4 (by rw[List.map_append,fP];exact K5) (by simp;omega);exact K6
end
section
set_option maxRecDepth 100000
noncomputable def zj (a0:(List aN)) (a1:(List aN)):Option Bool:=
 if ¬((a0.length:Int)=(a1.length:Int))then
  some false
 else
 oB a0 (λ(i8:Nat)e7(s1:Unit)=>(show Option (Lr Unit Unit Unit)from
   (tQ a1 (i8:Int)).bind λx9=>
   if ¬(e7=x9)then
    some (.ret ())
   else
   some (.go ()))) (λs1=>some ()) () (λb2=>
  some true) (λb2=>
  some false)
theorem SG{a0:(List aN)}{a1:(List aN)}{σ:Heap}{r:Bool}(h:zj a0 a1=some r):FR [(sl 3 aC a0),(sl 3 aC a1)] σ=some ((AV.bool r),σ):=by
 refine uf (f:=FT) (y0:=(sl 3 aC a0)) (y1:=(sl 3 aC a1)) (enc:=λr:Bool=>(AV.bool r)) (T:=zj a0 a1) rfl rfl ?_ r h;unfold FT zj;refine aI _ (iy _ _ _)<|aI _ (iy _ _ _)<|aI _ (rF _ _ _) ?_;refine rB (p:=¬((a0.length:Int)=(a1.length:Int))) (λgd=>?_) (λgd=>?_)
 ·exact jx _ (ep _ _) ⟨rfl,rfl⟩
 refine aI _ (iy _ _ _) ?_;refine xA (B:=Unit) (R:=Unit) (λ(i8:Nat)(s1:Unit)v w3=>v=[aU,(AV.aj (i8:Int))]∧σ=w3) (λ(b2:Unit)(q:LS)=>∃u4 Dd,q=((AX.exit 0),([u4,Dd]:aq),σ)) (λ(b2:Unit)(q:LS)=>∃Dd,q=(AX.ret,([aU,Dd]:aq),σ)) ?_ ?_ ⟨rfl,rfl⟩ ?_ ?_
 ·intro Ji i8 e7 s1 v w3 yL hI;obtain⟨rfl,rfl⟩:=hI;refine aI _ (td yL)<|xH<|aI _ (sR yL)<|aI _ rfl ?_;refine uL (λx9:aN=>(AV.rp (aC x9))) (λx9 Rm=>BR Rm) (λx9 Rm=>?_);refine aI _ rfl<|aI _ (US _ _) ?_;refine rB (p:=¬(e7=x9)) (λi6=>?_) (λi6=>?_)
  ·exact fF (lz (by simp) ⟨_,rfl⟩)
  refine aI _ (sS yL Ji) ?_;exact fF (xC ⟨rfl,rfl⟩)
 ·intro hl s1 v w3 hI;obtain⟨rfl,rfl⟩:=hI;refine aI _ (sQ _)<|xG ?_;exact fF ⟨by simp,⟨_,_,rfl⟩⟩
 ·intro hl b2 q hq;obtain⟨u4,Dd,rfl⟩:=hq;refine oY rfl ?_;exact jx _ (ep _ _) ⟨rfl,rfl⟩
 ·intro hl b2 q hq;obtain⟨Dd,rfl⟩:=hq;refine Af rfl<|oY rfl ?_;exact jx _ (ep _ _) ⟨rfl,rfl⟩
noncomputable def A4 (a0:bn) (a1:bn):Option Bool:=
 (if((decide (a0.aF=a1.aF))&&(decide (a0.title=a1.title)))=true then zj a0.cL a1.cL else some default).bind λr1=>
 some (((decide (a0.aF=a1.aF))&&(decide (a0.title=a1.title)))&&r1)
theorem Ti{a0:bn}{a1:bn}{σ:Heap}{r:Bool}(h:A4 a0 a1=some r):tX [(AV.agg (aE a0)),(AV.agg (aE a1))] σ=some ((AV.bool r),σ):=by refine uf (f:=Gh) (y0:=(AV.agg (aE a0))) (y1:=(AV.agg (aE a1))) (enc:=λr:Bool=>(AV.bool r)) (T:=A4 a0 a1) rfl rfl ?_ r h;unfold Gh A4;refine aI _ rfl<|aI _ rfl<|aI _ rfl<|aI _ rfl<|aI _ (rE _ _ _)<|eT (AV.str a0.title) (λhg=>rfl)<|eT (AV.str a1.title) (λhg=>rfl)<|eT (AV.bool (decide (a0.title=a1.title))) (λhg=>by(try rw[hg]);exact(BX _ _))<|aI _ (vU _ _)<|eT (sl 3 aC a0.cL) (λhg=>rfl)<|eT (sl 3 aC a1.cL) (λhg=>rfl) ?_;refine xB (ω:=Bool) (λr1=>(AV.bool r1)) (λhg r1 mB=>by(try rw[hg]);exact(qS (SG mB))) (λr1 mB=>?_);refine aI _ (vU _ _) ?_;exact jx _ (ep _ _) ⟨rfl,rfl⟩
end
section
set_option maxRecDepth 100000
open HP
theorem W0{α:Type}{l:List α}{body:Nat→α→Unit→Option (Lr Unit Unit Unit)}{K:Unit→Option Bool}(hl:l.length≤bX)(hb:∀i x,l[i]? =some x→body i x ()=some (.go ())):oB l body (λs=>some ()) () (λ_=>some true) K=some true:=by
 rw[Mz (p:=λ_=>false) (r:=λ_=>()) hl (λi x hx=>by rw[hb i x hx];rfl)];have:l.find? (λ_=>false)=none:=by simp
 rw[this]
theorem VW(l:List aN)(hl:l.length≤bX):zj l l=some true:=by
 unfold zj;simp only[not_true_eq_false,if_false];refine W0 hl λi x hx=>?_
 rw[Ov (x:=x) (by omega) (by simpa using hx)];simp
theorem Ub(p:bn)(h:p.cL.length≤bX):A4 p p=some true:=by unfold A4;simp only[decide_true,Bool.and_self,if_true,VW _ h,aM]
theorem Ww(l:List bn)(hl:l.length≤1000000)(hs:∀p∈l,p.cL.length≤1000000)(σ:Heap):Dx (A.tab (λ_ _=>none) [(118,tX)]) [sl 3 aE l,sl 3 aE l,.fn 118 []] σ=some (.bool true,σ):=by
 have hd:∀x∈l,A.tab (λ_ _=>none) [(118,tX)] 118 [.agg (aE x),.agg (aE x)] σ=some (.bool true,σ):=λx hx=>Ti (Ub x (by have:=hs x hx;unfold bX;omega))
 refine wrap_eq rfl ?_ rfl;show Dy _ (sl 3 aE l) (sl 3 aE l) (.fn 118 []) σ=_;unfold Dy;rw[iy,bS,bS,rF,bS,cB (by simp),bT,bS]
 obtain⟨q,hq,rfl⟩:∃q,A.loop ((λv5 s6=>
    (A.lss (ah v5 1) (AV.aj (l.length:Int))).bind λx8=>
    A.cond x8 (
     (A.aK 3 (sl 3 aE l) (ah v5 1)).bind λx9=>
     ((A.deref x9 s6).bind λi6=>A.aA 0 3 i6).bind λbI=>
     (A.cells 3 bI).bind λdD=>
     (A.aH 0 dD [(AV.aj 0),aR,AV.au]).bind λkU=>
     (A.aK 3 (sl 3 aE l) (ah v5 1)).bind λbG=>
     ((A.deref bG s6).bind λeU=>A.aA 0 3 eU).bind λbE=>
     (A.cells 3 bE).bind λiz=>
     (A.aH 0 iz [(AV.aj 0),aR,AV.au]).bind λfQ=>
     (A.aA 0 3 kU).bind λbY=>
     (A.aA 0 3 fQ).bind λbZ=>
     (A.fC (A.tab (λ_ _=>none) [(118,tX)]) (AV.fn 118 []) [bY,bZ] s6).bind λdR=>
     (A.not dR.1).bind λbO=>
     A.cond bO (
      some (AX.ret,[aU,(ah v5 1)],dR.2)) (
      (A.add (ah v5 1) (AV.aj 1)).bind λcg=>
      some (AX.normal,[(ah v5 0),cg],dR.2))) (
     some (AX.exit 0,[(ah v5 0),(ah v5 1)],s6)))) [.bool false,.aj 0] σ=some q∧q=(.exit 0,[.bool false,.aj (l.length:Int)],σ):=by
  refine kG (λz u w=>∃i:Nat,i≤l.length∧z=l.length-i∧u=[.bool false,.aj (i:Int)]∧w=σ) ?_ (n:=l.length) ⟨0,lH _,rfl,rfl,rfl⟩;rintro z u w ⟨i,hi,rfl,rfl,rfl⟩;simp only[ct,dg];rw[fZ,bS];by_cases hlt:i<l.length
  ·have hx:l[i]? =some l[i]:=cu hlt;have wL:=hd _ (List.getElem_mem hlt);generalize l[i]=x at hx wL;have hcv:A.fC (A.tab (λ_ _=>none) [(118,tX)]) (.fn 118 []) [.agg (aE x),.agg (aE x)] w=some (.bool true,w):=by simp only[A.fC,List.append_nil];exact wL
   have hdf:((A.deref (.rp (aE x)) w).bind λc7=>A.aA 0 3 c7)=some (.agg (aE x)):=rfl;have hce:A.cells 3 (.agg (aE x))=some (aE x):=rfl;have hsp:A.aH 0 (aE x) [(AV.aj 0),aR,AV.au]=some (aE x):=rfl;have hpa:A.aA 0 3 (aE x)=some (.agg (aE x)):=rfl;rw[cy hlt,cx,gJ 3 aE l hx,bS,hdf,bS,hce,bS,hsp,bS,bS,hdf,bS,hce,bS,hsp,bS,hpa,bS,bS,hcv,bS];simp only;rw[wz,bS,bT,kK (by omega),bS];exact .inl ⟨l.length-(i+1),_,_,by omega,rfl,i+1,hlt,rfl,rfl,rfl⟩
  ·rw[cB hlt,bT];have:i=l.length:=by omega
   subst this;exact .inr ⟨_,rfl,by simp,rfl⟩
 refine(iZ hq _).trans ?_;rw[bS];simp only[hJ];rw[ep]
theorem On{p:bn}{x:bn}:∀{l:List bn}{b:Bool},x∈iX p l b→x=p∨x∈l
 |[],b,h=>by
  rw[iX]at h;split at h
  ·cases h
  ·exact .inl (by simpa using h)
 |y::l,b,h=>by
  rw[iX]at h;rcases ew.1 h with h|h
  ·split at h
   ·exact .inl (by simpa using h)
   ·cases h
  rcases ew.1 h with h|h
  ·split at h
   ·exact .inr (by simp at h;simp [h])
   ·cases h
  ·rcases On h with h|h
   ·exact .inl h
   ·exact .inr (by simp [h])
theorem Ol{r:cN}{ps:List bn}{n:Int}{t:ByteArray}{l:List aN}{m:Bool}:(nE r ps n t l m).1.length≤200∧∀p∈(nE r ps n t l m).1,p.cL.length≤2000:=by
 unfold nE;by_cases h0:lW r ps=0;case neg=>rw[aP h0];exact⟨by simp,by simp⟩
 obtain⟨b1,b2⟩:=IB h0;rw[aQ (λh=>h h0)];split
 ·exact⟨by simp,by simp⟩
 split
 ·exact⟨by simp,by simp⟩
 split
 ·exact⟨by simp,by simp⟩
 split
 ·exact⟨by simp,by simp⟩
 split
 ·exact⟨by simp,by simp⟩
 rename_i h;refine⟨by simp only;omega,λp hp=>?_⟩;rcases On hp with rfl|hp
 ·omega
 ·exact b2 p hp
theorem SN{r:cN}{ps:List bn}{n:Int}{t:ByteArray}{l:List aN}{m:Bool}{σ:Heap}(h:lF r∧eY vK ps∧eB t):KM [.agg (bW r),sl 3 aE ps,.aj n,.str t,sl 3 aC l,.bool m] σ=some (.bool true,σ):=by obtain⟨hr,hp,ht⟩:=h;refine Im rfl (fu (Ih r) (fu (tg ..) (fu (j0 _) (fu (j0 _) (fu (tg ..) (ux _)))))) (j0 _) ?_;unfold FV;rw[gK,bS,gL,bS,Vf hr hp n ht l m,bS];simp only;rw[Ca,bS,ext1,bS,bS,Ve hr hp n ht l m,bS];simp only;rw[Ca,bS,ext1,bS,bS,qS (KO (K8 r ps hr hp)),bS,bS,qS (KR (KZ r ps hr hp)),bS,rE,bS,cy rfl,gT,bS,bS,gT,qS (Ww _ (by have:=(Ol (r:=r) (ps:=ps) (n:=n) (t:=t) (l:=l) (m:=m)).1;omega) (λp hp=>by have:=(Ol (r:=r) (ps:=ps) (n:=n) (t:=t) (l:=l) (m:=m)).2 p hp;omega) σ),bS,ng,bS,gT,bS,bS,gT,rE,bS,cy rfl,ng,bS,ep]
theorem SO(r:cN)(ps:List bn)(n:Int)(t:ByteArray)(l:List aN)(m:Bool)(hr:lF r)(hp:eY vK ps)(hn:bp n)(ht:eB t)(hl:eY Ht l):lF r∧eY vK ps∧eB t:=⟨hr,hp,ht⟩
end
section
open Go.ChangeShapes Go.WideShapes Go.ChangeAt Go.RowKit
theorem own:ownKnob Try.prog.godebug=none:=by kernel_rfl
theorem laidOut:laidOutB Try.prog=true:=by kernel_rfl
theorem Lf{H:Type}{enc:TypeId×Value→H}{P:Program}(hl:laidOutB P=true){W W':World}(hb:Below W.heap.size W W'):
  ∀{ts:List TypeId}{vs:List Value}{ds:List (DataW H)}{ps:List MemPlace},(ts.all λt=>P.readableRec t&&decide (t<P.types.size))=true→
   DataW.TrodAll enc P W 0 (λ_=>true) true ts vs ds ps→(∀x∈ps,x.block<W.heap.size)→DataW.TrodAll enc P W' 0 (λb=>decide (b<W.heap.size)) true ts vs ds ps
 |[],[],[],_,_,h,_=>h
 |t::ts,v::vs,d::ds,ps,hts,h,hlt=>by
  obtain⟨p,q,h1,h2,rfl⟩:=h;simp only[List.all_cons,eN,decide_eq_true_eq]at hts
  exact⟨p,q,Below.trod hl hts.1.1 hts.1.2 h1 hb (λx hx=>hlt x (List.mem_append_left _ hx)),
   Lf hl hb (by simpa using hts.2) h2 (λx hx=>hlt x (List.mem_append_right _ hx)),rfl⟩
 |[],_::_,_,_,_,h,_=>h.elim
 |[],[],_::_,_,_,h,_=>h.elim
 |_::_,[],_,_,_,h,_=>h.elim
 |_::_,_::_,[],_,_,h,_=>h.elim
theorem Wi{H:Type}{enc:TypeId×Value→H}{f:Func}{s:ChangeSpec}{W W':World}{args:Array Value}{ds gs:List (DataW H)}{before:List MemPlace}{t:TypeId}
  (hts:(f.params.toList.all λt=>Try.prog.readableRec t&&decide (t<Try.prog.types.size))=true) (vf:f.resultTypes=#[t]) (ht:Try.prog.underlying t=some .bool) (hvs:s.vars=[])
  (hW:DataW.Whole enc Try.prog f.params.toList s.vars false W args.toList ds gs before) (hb:Below W.heap.size W W')
  (IT:s.fn H (ds++gs)={results:=[.lit (.bool true)],args:=ds}):
  s.post enc Try.prog f false true false false W args (.bool true) W':=by
 have Ft:=hW;obtain⟨p,q,hA,hV,rfl,hfz,hnd⟩:=hW;have hlt:∀x∈p++q,x.block<W.heap.size:=λx hx=>Ft.lt x hx
 refine⟨ds,gs,p++q,[],p,[],Ft,?_,?_,?_,hb.frame _,λh=>by cases h⟩
 ·rw[IT,vf];exact trodAll_cons_mk (shut_bool ht _) trodAll_mk0
 ·rw[IT];exact Lf laidOut hb hts hA (λx hx=>hlt x (List.mem_append_left _ hx))
 ·rw[IT,hvs];exact rfl
end
section
open Go.RowKit
def Gr(w w':World):Prop:=Below w.heap.size w w'
theorem Gr.cell{a b:World}(h:Gr a b){p:Addr}{v:Value}(hc:a.cell? p=some v):b.cell? p=some v:=by
 by_cases hp:p.block<a.heap.size
 ·rw[Below.cell h hp];exact hc
 ·have:a.heap[p.block]? =none:=Array.getElem?_eq_none (by omega);simp [World.cell?,this]at hc
abbrev aaH(w:World)(b:Nat)(v0:Value):Prop:=(w.cell? ⟨b,0,none⟩=some v0)∧(w.frozen? ⟨b,0,none⟩=false)∧b<w.heap.size
abbrev aaI(w:World)(b:Nat)(v0 v1:Value):Prop:=(w.cell? ⟨b,0,none⟩=some v0∧w.cell? ⟨b,1,none⟩=some v1)∧(w.frozen? ⟨b,0,none⟩=false∧w.frozen? ⟨b,1,none⟩=false)∧b<w.heap.size
abbrev aaJ(w:World)(b:Nat)(v0 v1 v2:Value):Prop:=(w.cell? ⟨b,0,none⟩=some v0∧w.cell? ⟨b,1,none⟩=some v1∧w.cell? ⟨b,2,none⟩=some v2)∧(w.frozen? ⟨b,0,none⟩=false∧w.frozen? ⟨b,1,none⟩=false∧w.frozen? ⟨b,2,none⟩=false)∧b<w.heap.size
abbrev aaK(w:World)(b:Nat)(v0 v1 v2 v3:Value):Prop:=(w.cell? ⟨b,0,none⟩=some v0∧w.cell? ⟨b,1,none⟩=some v1∧w.cell? ⟨b,2,none⟩=some v2∧w.cell? ⟨b,3,none⟩=some v3)∧(w.frozen? ⟨b,0,none⟩=false∧w.frozen? ⟨b,1,none⟩=false∧w.frozen? ⟨b,2,none⟩=false∧w.frozen? ⟨b,3,none⟩=false)∧b<w.heap.size
abbrev aaL(w:World)(b:Nat)(v0 v1 v2 v3 v4:Value):Prop:=(w.cell? ⟨b,0,none⟩=some v0∧w.cell? ⟨b,1,none⟩=some v1∧w.cell? ⟨b,2,none⟩=some v2∧w.cell? ⟨b,3,none⟩=some v3∧w.cell? ⟨b,4,none⟩=some v4)∧(w.frozen? ⟨b,0,none⟩=false∧w.frozen? ⟨b,1,none⟩=false∧w.frozen? ⟨b,2,none⟩=false∧w.frozen? ⟨b,3,none⟩=false∧w.frozen? ⟨b,4,none⟩=false)∧b<w.heap.size
abbrev aaM(w:World)(b:Nat)(v0 v1 v2 v3 v4 v5:Value):Prop:=(w.cell? ⟨b,0,none⟩=some v0∧w.cell? ⟨b,1,none⟩=some v1∧w.cell? ⟨b,2,none⟩=some v2∧w.cell? ⟨b,3,none⟩=some v3∧w.cell? ⟨b,4,none⟩=some v4∧w.cell? ⟨b,5,none⟩=some v5)∧(w.frozen? ⟨b,0,none⟩=false∧w.frozen? ⟨b,1,none⟩=false∧w.frozen? ⟨b,2,none⟩=false∧w.frozen? ⟨b,3,none⟩=false∧w.frozen? ⟨b,4,none⟩=false∧w.frozen? ⟨b,5,none⟩=false)∧b<w.heap.size
abbrev aaN(w:World)(b:Nat)(v0 v1 v2 v3 v4 v5 v6:Value):Prop:=(w.cell? ⟨b,0,none⟩=some v0∧w.cell? ⟨b,1,none⟩=some v1∧w.cell? ⟨b,2,none⟩=some v2∧w.cell? ⟨b,3,none⟩=some v3∧w.cell? ⟨b,4,none⟩=some v4∧w.cell? ⟨b,5,none⟩=some v5∧w.cell? ⟨b,6,none⟩=some v6)∧(w.frozen? ⟨b,0,none⟩=false∧w.frozen? ⟨b,1,none⟩=false∧w.frozen? ⟨b,2,none⟩=false∧w.frozen? ⟨b,3,none⟩=false∧w.frozen? ⟨b,4,none⟩=false∧w.frozen? ⟨b,5,none⟩=false∧w.frozen? ⟨b,6,none⟩=false)∧b<w.heap.size
abbrev aaO(w:World)(b:Nat)(v0 v1 v2 v3 v4 v5 v6 v7:Value):Prop:=(w.cell? ⟨b,0,none⟩=some v0∧w.cell? ⟨b,1,none⟩=some v1∧w.cell? ⟨b,2,none⟩=some v2∧w.cell? ⟨b,3,none⟩=some v3∧w.cell? ⟨b,4,none⟩=some v4∧w.cell? ⟨b,5,none⟩=some v5∧w.cell? ⟨b,6,none⟩=some v6∧w.cell? ⟨b,7,none⟩=some v7)∧(w.frozen? ⟨b,0,none⟩=false∧w.frozen? ⟨b,1,none⟩=false∧w.frozen? ⟨b,2,none⟩=false∧w.frozen? ⟨b,3,none⟩=false∧w.frozen? ⟨b,4,none⟩=false∧w.frozen? ⟨b,5,none⟩=false∧w.frozen? ⟨b,6,none⟩=false∧w.frozen? ⟨b,7,none⟩=false)∧b<w.heap.size
abbrev aaP(w:World)(b:Nat)(v0 v1 v2 v3 v4 v5 v6 v7 v8:Value):Prop:=(w.cell? ⟨b,0,none⟩=some v0∧w.cell? ⟨b,1,none⟩=some v1∧w.cell? ⟨b,2,none⟩=some v2∧w.cell? ⟨b,3,none⟩=some v3∧w.cell? ⟨b,4,none⟩=some v4∧w.cell? ⟨b,5,none⟩=some v5∧w.cell? ⟨b,6,none⟩=some v6∧w.cell? ⟨b,7,none⟩=some v7∧w.cell? ⟨b,8,none⟩=some v8)∧(w.frozen? ⟨b,0,none⟩=false∧w.frozen? ⟨b,1,none⟩=false∧w.frozen? ⟨b,2,none⟩=false∧w.frozen? ⟨b,3,none⟩=false∧w.frozen? ⟨b,4,none⟩=false∧w.frozen? ⟨b,5,none⟩=false∧w.frozen? ⟨b,6,none⟩=false∧w.frozen? ⟨b,7,none⟩=false∧w.frozen? ⟨b,8,none⟩=false)∧b<w.heap.size
abbrev aan(w:World)(b:Nat)(v0 v1 v2 v3 v4 v5 v6 v7 v8 v9:Value):Prop:=(w.cell? ⟨b,0,none⟩=some v0∧w.cell? ⟨b,1,none⟩=some v1∧w.cell? ⟨b,2,none⟩=some v2∧w.cell? ⟨b,3,none⟩=some v3∧w.cell? ⟨b,4,none⟩=some v4∧w.cell? ⟨b,5,none⟩=some v5∧w.cell? ⟨b,6,none⟩=some v6∧w.cell? ⟨b,7,none⟩=some v7∧w.cell? ⟨b,8,none⟩=some v8∧w.cell? ⟨b,9,none⟩=some v9)∧(w.frozen? ⟨b,0,none⟩=false∧w.frozen? ⟨b,1,none⟩=false∧w.frozen? ⟨b,2,none⟩=false∧w.frozen? ⟨b,3,none⟩=false∧w.frozen? ⟨b,4,none⟩=false∧w.frozen? ⟨b,5,none⟩=false∧w.frozen? ⟨b,6,none⟩=false∧w.frozen? ⟨b,7,none⟩=false∧w.frozen? ⟨b,8,none⟩=false∧w.frozen? ⟨b,9,none⟩=false)∧b<w.heap.size
abbrev aao(w:World)(b:Nat)(v0 v1 v2 v3 v4 v5 v6 v7 v8 v9 v10:Value):Prop:=(w.cell? ⟨b,0,none⟩=some v0∧w.cell? ⟨b,1,none⟩=some v1∧w.cell? ⟨b,2,none⟩=some v2∧w.cell? ⟨b,3,none⟩=some v3∧w.cell? ⟨b,4,none⟩=some v4∧w.cell? ⟨b,5,none⟩=some v5∧w.cell? ⟨b,6,none⟩=some v6∧w.cell? ⟨b,7,none⟩=some v7∧w.cell? ⟨b,8,none⟩=some v8∧w.cell? ⟨b,9,none⟩=some v9∧w.cell? ⟨b,10,none⟩=some v10)∧(w.frozen? ⟨b,0,none⟩=false∧w.frozen? ⟨b,1,none⟩=false∧w.frozen? ⟨b,2,none⟩=false∧w.frozen? ⟨b,3,none⟩=false∧w.frozen? ⟨b,4,none⟩=false∧w.frozen? ⟨b,5,none⟩=false∧w.frozen? ⟨b,6,none⟩=false∧w.frozen? ⟨b,7,none⟩=false∧w.frozen? ⟨b,8,none⟩=false∧w.frozen? ⟨b,9,none⟩=false∧w.frozen? ⟨b,10,none⟩=false)∧b<w.heap.size
abbrev aap(w:World)(b:Nat)(v0 v1 v2 v3 v4 v5 v6 v7 v8 v9 v10 v11:Value):Prop:=(w.cell? ⟨b,0,none⟩=some v0∧w.cell? ⟨b,1,none⟩=some v1∧w.cell? ⟨b,2,none⟩=some v2∧w.cell? ⟨b,3,none⟩=some v3∧w.cell? ⟨b,4,none⟩=some v4∧w.cell? ⟨b,5,none⟩=some v5∧w.cell? ⟨b,6,none⟩=some v6∧w.cell? ⟨b,7,none⟩=some v7∧w.cell? ⟨b,8,none⟩=some v8∧w.cell? ⟨b,9,none⟩=some v9∧w.cell? ⟨b,10,none⟩=some v10∧w.cell? ⟨b,11,none⟩=some v11)∧(w.frozen? ⟨b,0,none⟩=false∧w.frozen? ⟨b,1,none⟩=false∧w.frozen? ⟨b,2,none⟩=false∧w.frozen? ⟨b,3,none⟩=false∧w.frozen? ⟨b,4,none⟩=false∧w.frozen? ⟨b,5,none⟩=false∧w.frozen? ⟨b,6,none⟩=false∧w.frozen? ⟨b,7,none⟩=false∧w.frozen? ⟨b,8,none⟩=false∧w.frozen? ⟨b,9,none⟩=false∧w.frozen? ⟨b,10,none⟩=false∧w.frozen? ⟨b,11,none⟩=false)∧b<w.heap.size
abbrev aaq(w:World)(b:Nat)(v0 v1 v2 v3 v4 v5 v6 v7 v8 v9 v10 v11 v12:Value):Prop:=(w.cell? ⟨b,0,none⟩=some v0∧w.cell? ⟨b,1,none⟩=some v1∧w.cell? ⟨b,2,none⟩=some v2∧w.cell? ⟨b,3,none⟩=some v3∧w.cell? ⟨b,4,none⟩=some v4∧w.cell? ⟨b,5,none⟩=some v5∧w.cell? ⟨b,6,none⟩=some v6∧w.cell? ⟨b,7,none⟩=some v7∧w.cell? ⟨b,8,none⟩=some v8∧w.cell? ⟨b,9,none⟩=some v9∧w.cell? ⟨b,10,none⟩=some v10∧w.cell? ⟨b,11,none⟩=some v11∧w.cell? ⟨b,12,none⟩=some v12)∧(w.frozen? ⟨b,0,none⟩=false∧w.frozen? ⟨b,1,none⟩=false∧w.frozen? ⟨b,2,none⟩=false∧w.frozen? ⟨b,3,none⟩=false∧w.frozen? ⟨b,4,none⟩=false∧w.frozen? ⟨b,5,none⟩=false∧w.frozen? ⟨b,6,none⟩=false∧w.frozen? ⟨b,7,none⟩=false∧w.frozen? ⟨b,8,none⟩=false∧w.frozen? ⟨b,9,none⟩=false∧w.frozen? ⟨b,10,none⟩=false∧w.frozen? ⟨b,11,none⟩=false∧w.frozen? ⟨b,12,none⟩=false)∧b<w.heap.size
abbrev aar(w:World)(b:Nat)(v0 v1 v2 v3 v4 v5 v6 v7 v8 v9 v10 v11 v12 v13:Value):Prop:=(w.cell? ⟨b,0,none⟩=some v0∧w.cell? ⟨b,1,none⟩=some v1∧w.cell? ⟨b,2,none⟩=some v2∧w.cell? ⟨b,3,none⟩=some v3∧w.cell? ⟨b,4,none⟩=some v4∧w.cell? ⟨b,5,none⟩=some v5∧w.cell? ⟨b,6,none⟩=some v6∧w.cell? ⟨b,7,none⟩=some v7∧w.cell? ⟨b,8,none⟩=some v8∧w.cell? ⟨b,9,none⟩=some v9∧w.cell? ⟨b,10,none⟩=some v10∧w.cell? ⟨b,11,none⟩=some v11∧w.cell? ⟨b,12,none⟩=some v12∧w.cell? ⟨b,13,none⟩=some v13)∧(w.frozen? ⟨b,0,none⟩=false∧w.frozen? ⟨b,1,none⟩=false∧w.frozen? ⟨b,2,none⟩=false∧w.frozen? ⟨b,3,none⟩=false∧w.frozen? ⟨b,4,none⟩=false∧w.frozen? ⟨b,5,none⟩=false∧w.frozen? ⟨b,6,none⟩=false∧w.frozen? ⟨b,7,none⟩=false∧w.frozen? ⟨b,8,none⟩=false∧w.frozen? ⟨b,9,none⟩=false∧w.frozen? ⟨b,10,none⟩=false∧w.frozen? ⟨b,11,none⟩=false∧w.frozen? ⟨b,12,none⟩=false∧w.frozen? ⟨b,13,none⟩=false)∧b<w.heap.size
end
section
open Go.RowKit Go.Deep
structure dz (α : Type) where
 size:Nat
 is:World→List Value→α→Prop
 len:∀{w cs a},is w cs a→cs.length=size
 mono:∀{w w' cs a},is w cs a→Gr w w'→is w' cs a
 dh:α→Nat
def gO:dz Int where
 size:=1
 is:=λ_ cs n=>cs=[.int .i64 n]∧-9223372036854775808≤n∧n≤9223372036854775807
 len:=λh=>by rw[h.1];rfl
 mono:=λh _=>h
 dh:=λ_=>1
def EX:dz Bool where
 size:=1
 is:=λ_ cs b=>cs=[.bool b]
 len:=λh=>by rw[h];rfl
 mono:=λh _=>h
 dh:=λ_=>1
def oH:dz ByteArray where
 size:=1
 is:=λ_ cs s=>cs=[.string s]∧s.size≤maxLen
 len:=λh=>by rw[h.1];rfl
 mono:=λh _=>h
 dh:=λs=>s.size+1
def dz.pair{α β:Type}(c:dz α)(d:dz β):dz (α×β) where
 size:=c.size+d.size
 is:=λw cs x=>c.is w (cs.take c.size) x.1∧d.is w (cs.drop c.size) x.2
 len:=λ{w cs a}h=>by have h1:=c.len h.1;have h2:=d.len h.2;simp at h1 h2;omega
 mono:=λh g=>⟨c.mono h.1 g,d.mono h.2 g⟩
 dh:=λx=>c.dh x.1+d.dh x.2
def ff{α:Type}(c:dz α):dz (List α) where
 size:=1
 is:=λw cs l=>(cs=[.slice none 0 0]∧l=[])∨∃(b off:Nat)(sp:Option Nat)(cap:Nat),cs=[.slice (some ⟨b,off,sp⟩) l.length cap]∧l.length≤cap∧cap≤maxLen∧
  ∀i(h:i<l.length),sp=none∧∃cs',(∀j,j<c.size→w.cell? ⟨b,off+(i*c.size+j),none⟩=cs'[j]?)∧c.is w cs' l[i]
 len:=λh=>by rcases h with⟨rfl,_⟩|⟨b,off,sp,cap,rfl,_⟩<;>rfl
 mono:=λ{w w' cs l}h g=>by
  rcases h with h|⟨b,off,sp,cap,h1,h2,h3,h4⟩
  ·exact .inl h
  ·refine .inr ⟨b,off,sp,cap,h1,h2,h3,λi hi=>?_⟩;obtain⟨e,cs',h5,h6⟩:=h4 i hi;refine⟨e,cs',λj hj=>?_,c.mono h6 g⟩;have h7:=h5 j hj;have hl:=c.len h6;rw[cu (by omega)]at h7 ⊢;exact g.cell h7
 dh:=λl=>(l.map c.dh).sum+1
def fY{α:Type}(F:Nat→Prop)(P:Program)(c:dz α)(t:TypeId):Prop:=∀⦃H:Type⦄ ⦃enc:TypeId×Value→H⦄ ⦃w:World⦄ ⦃base:Nat⦄ ⦃spare:Nat→Bool⦄ ⦃held:Bool⦄ ⦃fuel:Nat⦄ ⦃cs:List Value⦄ ⦃x:DataW H×List MemPlace⦄,F fuel→DataW.trod enc P w base spare held fuel t cs=some x→∃a,c.is w cs a∧c.dh a≤Rows.uptoBulk x.1
abbrev Reads{α:Type}(P:Program)(c:dz α)(t:TypeId):Prop:=fY (λ_=>True) P c t
theorem Be{H:Type}(l:List (DataW H)):Rows.uptoBulkAll l=(l.map Rows.uptoBulk).sum:=by
 induction l with
 |nil=>rfl
 |cons x r ih=>simp only[Rows.uptoBulkAll,fP,List.sum_cons,ih]
theorem Lv{α:Type}(f:α→Nat)(D:Nat→Nat):∀(l:List α)(o:Nat),(∀i(h:i<l.length),f l[i]≤D (o+i))→(l.map f).sum≤((List.range' o l.length).map D).sum
 |[],_,_=>by simp
 |x::r,o,h=>by simp only[List.length_cons,List.range'_succ,fP,List.sum_cons];have h0:=h 0 (by simp);have:=Lv f D r (o+1) (λi hi=>by have:=h (i+1) (by simp;omega);simp only[List.getElem_cons_succ]at this;rw[show o+1+i=o+(i+1) by omega];exact this);simp at h0;omega
theorem wf_i64{n:Int}(h:(Lit.int .i64 n).wf=true):-9223372036854775808≤n∧n≤9223372036854775807:=by simpa [Lit.wf,IntKind.min,IntKind.max,IntKind.signed,IntKind.bits]using h
theorem Nc{H:Type}(d:DataW H):1≤Rows.uptoBulk d:=by
 cases d with
 |lit l=>cases l<;>simp [Rows.uptoBulk]
 |_=>simp [Rows.uptoBulk]
theorem oT{F:Nat→Prop}{P:Program}{t:TypeId}(ht:P.underlying t=some (.int .i64)):fY F P gO t:=by intro H enc w base spare held fuel cs x _ h;obtain⟨n,rfl,_,hw⟩:=DataW.trod_int ht h;exact⟨n,⟨rfl,wf_i64 hw⟩,Nc _⟩
theorem UY{F:Nat→Prop}{P:Program}{t:TypeId}(ht:P.underlying t=some .bool):fY F P EX t:=by intro H enc w base spare held fuel cs x _ h;obtain⟨n,rfl,_⟩:=DataW.trod_bool ht h;exact⟨n,rfl,Nc _⟩
theorem zJ{F:Nat→Prop}{P:Program}{t:TypeId}(ht:P.underlying t=some .string):fY F P oH t:=by intro H enc w base spare held fuel cs x _ h;obtain⟨n,rfl,hx,hw⟩:=DataW.trod_string ht h;refine⟨n,⟨rfl,hw⟩,?_⟩;subst hx;simp only[Rows.uptoBulk,oH];first|(simp;done)|omega
theorem zA{F:Nat→Prop}{P:Program}{α:Type}{c:dz α}{t e:TypeId}(ht:P.underlying t=some (.slice e))(hz:P.cellsOf e=c.size)(hp:0<c.size)(hr:fY (λm=>F (m+1)) P c e):fY F P (ff c) t:=by
 intro H enc w base spare held fuel cs x hF h;rcases DataW.trod_slice ht h with⟨rfl,rfl⟩|⟨a,len,cap,elems,rest,n,jG,rfl,Ro,hb,hl,hm,hlen,hel,h8,h9⟩
 ·exact⟨[],.inl ⟨rfl,rfl⟩,by simp [ff,Rows.uptoBulk]⟩
 ·obtain⟨D,hD⟩:∃D:Nat→DataW H,D=λi=>(elems.getD i (.nil,[])).1:=⟨_,rfl⟩
  have key:∀i,i<len→∃(y:α)(cs':List Value),(∀j,j<c.size→w.cell? (a.add (i*c.size+j))=cs'[j]?)∧c.is w cs' y∧c.dh y≤Rows.uptoBulk (D i):=by
   intro i hi;have hk:=hel i hi;rw[cu (by omega)]at hk;obtain⟨cs',h1,h2⟩:=bk.1 hk;obtain⟨y,hy,C0⟩:=hr (by subst jG;exact hF) h2
   have C0:c.dh y≤Rows.uptoBulk (D i):=by rw[hD];simpa [List.getD,cu (show i<elems.length by omega)]using C0
   obtain⟨_,h3,h4⟩:=World.cells?_some h1;refine⟨y,cs',λj hj=>?_,hy,C0⟩;have:=h4 j (by rw[hz];exact hj);rw[hz]at this;rw[←this,add_add]
  obtain⟨ys,hys⟩:∃ys:List α,ys.length=len∧∀i(h:i<ys.length),c.dh ys[i]≤Rows.uptoBulk (D i)∧∃cs',(∀j,j<c.size→w.cell? (a.add (i*c.size+j))=cs'[j]?)∧c.is w cs' ys[i]:=by
   clear hel hlen h hl Ro h8 h9;induction len with
   |zero=>exact⟨[],rfl,λi h=>by simp at h⟩
   |succ k ih=>
    obtain⟨ys,h1,h2⟩:=ih (λi hi=>key i (by omega));obtain⟨y,cs',h3,h4,h4b⟩:=key k (by omega);refine⟨ys++[y],by simp [h1],λi hi=>?_⟩;by_cases hk:i<ys.length
    ·rw[List.getElem_append_left hk];exact h2 i hk
    ·have:i=k:=by simp at hi;omega
     subst this;rw[List.getElem_append_right (by omega)];simp only[h1,Nat.sub_self,List.getElem_cons_zero];exact⟨h4b,cs',h3,h4⟩
  obtain⟨h1,h2⟩:=hys;obtain⟨b,off,sp⟩:=a;refine⟨ys,.inr ⟨b,off,sp,cap,by rw[h1],by omega,hm,λi hi=>?_⟩,?_⟩
  ·have hs:sp=none:=by
    cases sp with
    |none=>rfl
    |some q=>exfalso;obtain⟨_,cs',h3,h4⟩:=h2 0 (by omega);have h5:=h3 0 hp;have hl:=c.len h4;rw[cu (by omega)]at h5;simp only[Nat.zero_mul,Nat.zero_add,World.cell?,Addr.add]at h5;split at h5<;>simp at h5
   obtain⟨_,cs',h3,h4⟩:=h2 i hi;subst hs;refine⟨rfl,cs',λj hj=>?_,h4⟩;have h6:=h3 j hj;rw[←h6];congr 1;simp only[Addr.add];split
   ·rename_i h7;simp only[h7,Nat.add_zero]
   ·rfl
  ·subst Ro;simp only[ff,Rows.uptoBulk,Be,List.map_map];have:=Lv c.dh (λi=>Rows.uptoBulk (D i)) ys 0 (λi hi=>by simpa using(h2 i hi).1);rw[h1,←List.range_eq_range']at this
   have e:List.map (Rows.uptoBulk∘λx=>x.1) elems=List.map (λi=>Rows.uptoBulk (D i)) (List.range len):=by rw[←hlen,hD];apply List.ext_getElem (by simp);intro i h3 h4;simp at h3;simp [List.getD,cu h3]
   rw[e];omega
theorem DL{α:Type}(l:List α)(o n:Nat)(h:l.length=o+n):(l.drop o).take n=l.drop o:=jh (by simp;omega)
theorem TX{α:Type}(l:List α)(h:l.length=2):∃x0 x1,l=[x0,x1]:=by
 match l,h with
 |[x0,x1],_=>exact⟨x0,x1,rfl⟩
theorem Gx{F:Nat→Prop}{P:Program}{y9 za:Type}{t:TypeId}{f0 f1:Field}{c0:dz y9}{c1:dz za}(ht:P.underlying t=some (.struct #[f0,f1]))(hz:P.cellsOf t=c0.size+c1.size)(o0:f0.offset=0)(o1:f1.offset=c0.size)(z0:P.cellsOf f0.type=c0.size)(z1:P.cellsOf f1.type=c1.size)(r0:fY (λm=>F (m+1)) P c0 f0.type) (r1:fY (λm=>F (m+1)) P c1 f1.type):fY F P (c0.pair c1) t:=by
 intro H enc w base spare held fuel cs x hF h;obtain⟨xs,m,jG,cS,hlen,hxl,hf⟩:=DataW.trod_struct ht h;rw[hz]at hlen;have hxl:xs.length=2:=hxl;have h0:=hf 0 f0 rfl;rw[o0,z0,cu (show 0<xs.length by omega)]at h0;obtain⟨a0,k0,b0⟩:=r0 (by subst jG;exact hF) h0;have h1:=hf 1 f1 rfl;rw[o1,z1,cu (show 1<xs.length by omega)]at h1;obtain⟨a1,k1,b1⟩:=r1 (by subst jG;exact hF) h1;rw[DL cs (c0.size) c1.size (by omega)]at k1;refine⟨(a0,a1),?_,?_⟩
 ·exact⟨by simpa using k0,(by simpa [ou,lG]using k1)⟩
 ·subst cS;simp only[Rows.uptoBulk,Be,dz.pair]
  have hs:(List.map Rows.uptoBulk (xs.map (·.1))).sum=Rows.uptoBulk xs[0].1+(Rows.uptoBulk xs[1].1):=by obtain⟨x0,x1,rfl⟩:=TX xs hxl;simp
  rw[hs];exact Nat.le_succ_of_le (qq b0 b1)
theorem TY{α:Type}(l:List α)(h:l.length=3):∃x0 x1 x2,l=[x0,x1,x2]:=by
 match l,h with
 |[x0,x1,x2],_=>exact⟨x0,x1,x2,rfl⟩
theorem Gy{F:Nat→Prop}{P:Program}{y9 za Dm:Type}{t:TypeId}{f0 f1 f2:Field}{c0:dz y9}{c1:dz za}{c2:dz Dm}(ht:P.underlying t=some (.struct #[f0,f1,f2]))(hz:P.cellsOf t=c0.size+c1.size+c2.size)(o0:f0.offset=0)(o1:f1.offset=c0.size)(o2:f2.offset=c0.size+c1.size)(z0:P.cellsOf f0.type=c0.size)(z1:P.cellsOf f1.type=c1.size)(z2:P.cellsOf f2.type=c2.size)(r0:fY (λm=>F (m+1)) P c0 f0.type) (r1:fY (λm=>F (m+1)) P c1 f1.type) (r2:fY (λm=>F (m+1)) P c2 f2.type):fY F P (c0.pair (c1.pair c2)) t:=by
 intro H enc w base spare held fuel cs x hF h;obtain⟨xs,m,jG,cS,hlen,hxl,hf⟩:=DataW.trod_struct ht h;rw[hz]at hlen;have hxl:xs.length=3:=hxl;have h0:=hf 0 f0 rfl;rw[o0,z0,cu (show 0<xs.length by omega)]at h0;obtain⟨a0,k0,b0⟩:=r0 (by subst jG;exact hF) h0;have h1:=hf 1 f1 rfl;rw[o1,z1,cu (show 1<xs.length by omega)]at h1;obtain⟨a1,k1,b1⟩:=r1 (by subst jG;exact hF) h1;have h2:=hf 2 f2 rfl;rw[o2,z2,cu (show 2<xs.length by omega)]at h2;obtain⟨a2,k2,b2⟩:=r2 (by subst jG;exact hF) h2;rw[DL cs (c0.size+c1.size) c2.size (by omega)]at k2;refine⟨(a0,(a1,a2)),?_,?_⟩
 ·exact⟨by simpa using k0,⟨by simpa [ou,lG]using k1,(by simpa [ou,lG]using k2)⟩⟩
 ·subst cS;simp only[Rows.uptoBulk,Be,dz.pair]
  have hs:(List.map Rows.uptoBulk (xs.map (·.1))).sum=Rows.uptoBulk xs[0].1+(Rows.uptoBulk xs[1].1+(Rows.uptoBulk xs[2].1)):=by obtain⟨x0,x1,x2,rfl⟩:=TY xs hxl;simp
  rw[hs];exact Nat.le_succ_of_le (qq b0 (qq b1 b2))
theorem TZ{α:Type}(l:List α)(h:l.length=4):∃x0 x1 x2 x3,l=[x0,x1,x2,x3]:=by
 match l,h with
 |[x0,x1,x2,x3],_=>exact⟨x0,x1,x2,x3,rfl⟩
theorem TG{F:Nat→Prop}{P:Program}{y9 za Dm KD:Type}{t:TypeId}{f0 f1 f2 f3:Field}{c0:dz y9}{c1:dz za}{c2:dz Dm}{c3:dz KD}(ht:P.underlying t=some (.struct #[f0,f1,f2,f3]))(hz:P.cellsOf t=c0.size+c1.size+c2.size+c3.size)(o0:f0.offset=0)(o1:f1.offset=c0.size)(o2:f2.offset=c0.size+c1.size)(o3:f3.offset=c0.size+c1.size+c2.size)(z0:P.cellsOf f0.type=c0.size)(z1:P.cellsOf f1.type=c1.size)(z2:P.cellsOf f2.type=c2.size)(z3:P.cellsOf f3.type=c3.size)(r0:fY (λm=>F (m+1)) P c0 f0.type) (r1:fY (λm=>F (m+1)) P c1 f1.type) (r2:fY (λm=>F (m+1)) P c2 f2.type) (r3:fY (λm=>F (m+1)) P c3 f3.type):fY F P (c0.pair (c1.pair (c2.pair c3))) t:=by
 intro H enc w base spare held fuel cs x hF h;obtain⟨xs,m,jG,cS,hlen,hxl,hf⟩:=DataW.trod_struct ht h;rw[hz]at hlen;have hxl:xs.length=4:=hxl;have h0:=hf 0 f0 rfl;rw[o0,z0,cu (show 0<xs.length by omega)]at h0;obtain⟨a0,k0,b0⟩:=r0 (by subst jG;exact hF) h0;have h1:=hf 1 f1 rfl;rw[o1,z1,cu (show 1<xs.length by omega)]at h1;obtain⟨a1,k1,b1⟩:=r1 (by subst jG;exact hF) h1;have h2:=hf 2 f2 rfl;rw[o2,z2,cu (show 2<xs.length by omega)]at h2;obtain⟨a2,k2,b2⟩:=r2 (by subst jG;exact hF) h2;have h3:=hf 3 f3 rfl;rw[o3,z3,cu (show 3<xs.length by omega)]at h3;obtain⟨a3,k3,b3⟩:=r3 (by subst jG;exact hF) h3;rw[DL cs (c0.size+c1.size+c2.size) c3.size (by omega)]at k3;refine⟨(a0,(a1,(a2,a3))),?_,?_⟩
 ·exact⟨by simpa using k0,⟨by simpa [ou,lG]using k1,⟨by simpa [ou,lG]using k2,(by simpa [ou,lG]using k3)⟩⟩⟩
 ·subst cS;simp only[Rows.uptoBulk,Be,dz.pair]
  have hs:(List.map Rows.uptoBulk (xs.map (·.1))).sum=Rows.uptoBulk xs[0].1+(Rows.uptoBulk xs[1].1+(Rows.uptoBulk xs[2].1+(Rows.uptoBulk xs[3].1))):=by obtain⟨x0,x1,x2,x3,rfl⟩:=TZ xs hxl;simp
  rw[hs];exact Nat.le_succ_of_le (qq b0 (qq b1 (qq b2 b3)))
theorem T4{α:Type}(l:List α)(h:l.length=7):∃x0 x1 x2 x3 x4 x5 x6,l=[x0,x1,x2,x3,x4,x5,x6]:=by
 match l,h with
 |[x0,x1,x2,x3,x4,x5,x6],_=>exact⟨x0,x1,x2,x3,x4,x5,x6,rfl⟩
theorem TH{F:Nat→Prop}{P:Program}{y9 za Dm KD α4 α5 α6:Type}{t:TypeId}{f0 f1 f2 f3 f4 f5 f6:Field}{c0:dz y9}{c1:dz za}{c2:dz Dm}{c3:dz KD}{c4:dz α4}{c5:dz α5}{c6:dz α6}(ht:P.underlying t=some (.struct #[f0,f1,f2,f3,f4,f5,f6]))(hz:P.cellsOf t=c0.size+c1.size+c2.size+c3.size+c4.size+c5.size+c6.size)(o0:f0.offset=0)(o1:f1.offset=c0.size)(o2:f2.offset=c0.size+c1.size)(o3:f3.offset=c0.size+c1.size+c2.size)(o4:f4.offset=c0.size+c1.size+c2.size+c3.size)(o5:f5.offset=c0.size+c1.size+c2.size+c3.size+c4.size)(o6:f6.offset=c0.size+c1.size+c2.size+c3.size+c4.size+c5.size)(z0:P.cellsOf f0.type=c0.size)(z1:P.cellsOf f1.type=c1.size)(z2:P.cellsOf f2.type=c2.size)(z3:P.cellsOf f3.type=c3.size)(z4:P.cellsOf f4.type=c4.size)(z5:P.cellsOf f5.type=c5.size)(z6:P.cellsOf f6.type=c6.size)(r0:fY (λm=>F (m+1)) P c0 f0.type) (r1:fY (λm=>F (m+1)) P c1 f1.type) (r2:fY (λm=>F (m+1)) P c2 f2.type) (r3:fY (λm=>F (m+1)) P c3 f3.type) (r4:fY (λm=>F (m+1)) P c4 f4.type) (r5:fY (λm=>F (m+1)) P c5 f5.type) (r6:fY (λm=>F (m+1)) P c6 f6.type):fY F P (c0.pair (c1.pair (c2.pair (c3.pair (c4.pair (c5.pair c6)))))) t:=by
 intro H enc w base spare held fuel cs x hF h;obtain⟨xs,m,jG,cS,hlen,hxl,hf⟩:=DataW.trod_struct ht h;rw[hz]at hlen;have hxl:xs.length=7:=hxl;have h0:=hf 0 f0 rfl;rw[o0,z0,cu (show 0<xs.length by omega)]at h0;obtain⟨a0,k0,b0⟩:=r0 (by subst jG;exact hF) h0;have h1:=hf 1 f1 rfl;rw[o1,z1,cu (show 1<xs.length by omega)]at h1;obtain⟨a1,k1,b1⟩:=r1 (by subst jG;exact hF) h1;have h2:=hf 2 f2 rfl;rw[o2,z2,cu (show 2<xs.length by omega)]at h2;obtain⟨a2,k2,b2⟩:=r2 (by subst jG;exact hF) h2;have h3:=hf 3 f3 rfl;rw[o3,z3,cu (show 3<xs.length by omega)]at h3;obtain⟨a3,k3,b3⟩:=r3 (by subst jG;exact hF) h3;have h4:=hf 4 f4 rfl;rw[o4,z4,cu (show 4<xs.length by omega)]at h4;obtain⟨a4,k4,b4⟩:=r4 (by subst jG;exact hF) h4;have h5:=hf 5 f5 rfl;rw[o5,z5,cu (show 5<xs.length by omega)]at h5;obtain⟨a5,k5,b5⟩:=r5 (by subst jG;exact hF) h5;have h6:=hf 6 f6 rfl;rw[o6,z6,cu (show 6<xs.length by omega)]at h6;obtain⟨a6,k6,b6⟩:=r6 (by subst jG;exact hF) h6;rw[DL cs (c0.size+c1.size+c2.size+c3.size+c4.size+c5.size) c6.size (by omega)]at k6;refine⟨(a0,(a1,(a2,(a3,(a4,(a5,a6)))))),?_,?_⟩
 ·exact⟨by simpa using k0,⟨by simpa [ou,lG]using k1,⟨by simpa [ou,lG]using k2,⟨by simpa [ou,lG]using k3,⟨by simpa [ou,lG]using k4,⟨by simpa [ou,lG]using k5,(by simpa [ou,lG]using k6)⟩⟩⟩⟩⟩⟩
 ·subst cS;simp only[Rows.uptoBulk,Be,dz.pair]
  have hs:(List.map Rows.uptoBulk (xs.map (·.1))).sum=Rows.uptoBulk xs[0].1+(Rows.uptoBulk xs[1].1+(Rows.uptoBulk xs[2].1+(Rows.uptoBulk xs[3].1+(Rows.uptoBulk xs[4].1+(Rows.uptoBulk xs[5].1+(Rows.uptoBulk xs[6].1)))))):=by obtain⟨x0,x1,x2,x3,x4,x5,x6,rfl⟩:=T4 xs hxl;simp
  rw[hs];exact Nat.le_succ_of_le (qq b0 (qq b1 (qq b2 (qq b3 (qq b4 (qq b5 b6))))))
end
section
open Go.RowKit Go.Deep
theorem fY.imp{F:Nat→Prop}{P:Program}{α β:Type}{c:dz α}{d:dz β}{t:TypeId}(h:fY F P c t)(k:∀w cs a,c.is w cs a→∃b,d.is w cs b∧d.dh b≤c.dh a):fY F P d t:=by intro H enc w base spare held fuel cs x hF h1;obtain⟨a,ha,hb⟩:=h hF h1;obtain⟨b,h2,h3⟩:=k _ _ _ ha;exact⟨b,h2,Nat.le_trans h3 hb⟩
theorem lp{α:Type}{cs a b:List α}{n:Nat}(h1:cs.take n=a)(h2:cs.drop n=b):cs=a++b:=by rw[←h1,←h2,List.take_append_drop]
def uq:dz jW where
 size:=3
 is:=λw cs x=>cs=[.int .i64 x.low,.int .i64 x.high,.string x.name]∧bp x.low∧bp x.high∧x.name.size≤maxLen
 len:=λh=>by obtain⟨rfl,_⟩:=h;rfl
 mono:=λh _=>h
 dh:=λx=>gO.dh x.low+(gO.dh x.high+(oH.dh x.name))
theorem Uq:Reads Try.prog uq 147:=
 (Gy (F:=λ_=>True) Try.underlying147 (c0:=gO) (c1:=gO) (c2:=oH) (by kernel_rfl) rfl rfl rfl (by kernel_rfl) (by kernel_rfl) (by kernel_rfl) (oT Try.underlying3) (oT Try.underlying3) (zJ Try.underlying9)).imp λw cs a h=>by obtain⟨a0,a1,a2⟩:=a;obtain⟨h0,h1,h2⟩:=h;obtain⟨e0,b0⟩:=h0;obtain⟨e1,b1⟩:=h1;obtain⟨e2,b2⟩:=h2;have uE:=lp e1 e2;have nv:=lp e0 uE;exact⟨⟨a0,a1,a2⟩,⟨by rw[nv];rfl,b0,b1,b2⟩,bU _⟩
theorem T9:Reads Try.prog (ff uq) 66:=zA Try.underlying66 (c:=uq) (by kernel_rfl) (by decide) Uq
def uo:dz dW where
 size:=7
 is:=λw cs x=>∃v0:Value,cs=[.string x.name,.int .i64 x.group,.int .i64 x.eA,.int .i64 x.dc,.int .i64 x.default,.bool x.snap,v0]∧x.name.size≤maxLen∧bp x.group∧bp x.eA∧bp x.dc∧bp x.default∧(ff uq).is w [v0] x.ranges
 len:=λh=>by obtain⟨v0,rfl,_⟩:=h;rfl
 mono:=λ{w w' cs x}h g=>by obtain⟨v0,e,h0,h1,h2,h3,h4,h5⟩:=h;exact⟨v0,e,h0,h1,h2,h3,h4,((ff uq)).mono h5 g⟩
 dh:=λx=>oH.dh x.name+(gO.dh x.group+(gO.dh x.eA+(gO.dh x.dc+(gO.dh x.default+(EX.dh x.snap+((ff uq).dh x.ranges))))))
theorem Uo:Reads Try.prog uo 68:=
 (TH (F:=λ_=>True) Try.underlying68 (c0:=oH) (c1:=gO) (c2:=gO) (c3:=gO) (c4:=gO) (c5:=EX) (c6:=(ff uq)) (by kernel_rfl) rfl rfl rfl rfl rfl rfl rfl (by kernel_rfl) (by kernel_rfl) (by kernel_rfl) (by kernel_rfl) (by kernel_rfl) (by kernel_rfl) (by kernel_rfl) (zJ Try.underlying9) (oT Try.underlying3) (oT Try.underlying3) (oT Try.underlying3) (oT Try.underlying3) (UY Try.underlying4) T9).imp λw cs a h=>by obtain⟨a0,a1,a2,a3,a4,a5,a6⟩:=a;obtain⟨h0,h1,h2,h3,h4,h5,h6⟩:=h;obtain⟨e0,b0⟩:=h0;obtain⟨e1,b1⟩:=h1;obtain⟨e2,b2⟩:=h2;obtain⟨e3,b3⟩:=h3;obtain⟨e4,b4⟩:=h4;have e5:=h5;simp only[EX]at e5;obtain⟨s6,e6⟩:=qV.1 (((ff uq)).len h6);rw[e6]at h6;have Zs:=lp e5 e6;have Zr:=lp e4 Zs;have Zq:=lp e3 Zr;have Ja:=lp e2 Zq;have uE:=lp e1 Ja;have nv:=lp e0 uE;exact⟨⟨a0,a1,a2,a3,a4,a5,a6⟩,⟨s6,by rw[nv];rfl,b0,b1,b2,b3,b4,h6⟩,bU _⟩
theorem T7:Reads Try.prog (ff uo) 93:=zA Try.underlying93 (c:=uo) (by kernel_rfl) (by decide) Uo
def ue:dz cm where
 size:=3
 is:=λw cs x=>∃v0:Value,cs=[.string x.name,.int .i64 x.size,v0]∧x.name.size≤maxLen∧bp x.size∧(ff uo).is w [v0] x.params
 len:=λh=>by obtain⟨v0,rfl,_⟩:=h;rfl
 mono:=λ{w w' cs x}h g=>by obtain⟨v0,e,h0,h1,h2⟩:=h;exact⟨v0,e,h0,h1,((ff uo)).mono h2 g⟩
 dh:=λx=>oH.dh x.name+(gO.dh x.size+((ff uo).dh x.params))
theorem TE:Reads Try.prog ue 95:=
 (Gy (F:=λ_=>True) Try.underlying95 (c0:=oH) (c1:=gO) (c2:=(ff uo)) (by kernel_rfl) rfl rfl rfl (by kernel_rfl) (by kernel_rfl) (by kernel_rfl) (zJ Try.underlying9) (oT Try.underlying3) T7).imp λw cs a h=>by obtain⟨a0,a1,a2⟩:=a;obtain⟨h0,h1,h2⟩:=h;obtain⟨e0,b0⟩:=h0;obtain⟨e1,b1⟩:=h1;obtain⟨s2,e2⟩:=qV.1 (((ff uo)).len h2);rw[e2]at h2;have uE:=lp e1 e2;have nv:=lp e0 uE;exact⟨⟨a0,a1,a2⟩,⟨s2,by rw[nv];rfl,b0,b1,h2⟩,bU _⟩
theorem Ts:Reads Try.prog (ff ue) 22:=zA Try.underlying22 (c:=ue) (by kernel_rfl) (by decide) TE
def uz:dz eM where
 size:=4
 is:=λw cs x=>cs=[.int .i64 x.aF,.string x.fB,.int .i64 x.univ,.int .i64 x.address]∧bp x.aF∧x.fB.size≤maxLen∧bp x.univ∧bp x.address
 len:=λh=>by obtain⟨rfl,_⟩:=h;rfl
 mono:=λh _=>h
 dh:=λx=>gO.dh x.aF+(oH.dh x.fB+(gO.dh x.univ+(gO.dh x.address)))
theorem UZ:Reads Try.prog uz 92:=
 (TG (F:=λ_=>True) Try.underlying92 (c0:=gO) (c1:=oH) (c2:=gO) (c3:=gO) (by kernel_rfl) rfl rfl rfl rfl (by kernel_rfl) (by kernel_rfl) (by kernel_rfl) (by kernel_rfl) (oT Try.underlying3) (zJ Try.underlying9) (oT Try.underlying3) (oT Try.underlying3)).imp λw cs a h=>by obtain⟨a0,a1,a2,a3⟩:=a;obtain⟨h0,h1,h2,h3⟩:=h;obtain⟨e0,b0⟩:=h0;obtain⟨e1,b1⟩:=h1;obtain⟨e2,b2⟩:=h2;obtain⟨e3,b3⟩:=h3;have Ja:=lp e2 e3;have uE:=lp e1 Ja;have nv:=lp e0 uE;exact⟨⟨a0,a1,a2,a3⟩,⟨by rw[nv];rfl,b0,b1,b2,b3⟩,bU _⟩
theorem Ur:Reads Try.prog (ff uz) 23:=zA Try.underlying23 (c:=uz) (by kernel_rfl) (by decide) UZ
def Qm:dz cN where
 size:=2
 is:=λw cs x=>∃v0 v1:Value,cs=[v0,v1]∧(ff ue).is w [v0] x.bQ∧(ff uz).is w [v1] x.fG
 len:=λh=>by obtain⟨v0,v1,rfl,_⟩:=h;rfl
 mono:=λ{w w' cs x}h g=>by obtain⟨v0,v1,e,h0,h1⟩:=h;exact⟨v0,v1,e,((ff ue)).mono h0 g,((ff uz)).mono h1 g⟩
 dh:=λx=>(ff ue).dh x.bQ+((ff uz).dh x.fG)
theorem VP:Reads Try.prog Qm 25:=
 (Gx (F:=λ_=>True) Try.underlying25 (c0:=(ff ue)) (c1:=(ff uz)) (by kernel_rfl) rfl rfl (by kernel_rfl) (by kernel_rfl) Ts Ur).imp λw cs a h=>by obtain⟨a0,a1⟩:=a;obtain⟨h0,h1⟩:=h;obtain⟨s0,e0⟩:=qV.1 (((ff ue)).len h0);rw[e0]at h0;obtain⟨s1,e1⟩:=qV.1 (((ff uz)).len h1);rw[e1]at h1;have nv:=lp e0 e1;exact⟨⟨a0,a1⟩,⟨s0,s1,by rw[nv];rfl,h0,h1⟩,bU _⟩
def Jn:dz bP where
 size:=2
 is:=λw cs x=>cs=[.int .i64 x.unit,.string x.param]∧bp x.unit∧x.param.size≤maxLen
 len:=λh=>by obtain⟨rfl,_⟩:=h;rfl
 mono:=λh _=>h
 dh:=λx=>gO.dh x.unit+(oH.dh x.param)
theorem VO:Reads Try.prog Jn 35:=
 (Gx (F:=λ_=>True) Try.underlying35 (c0:=gO) (c1:=oH) (by kernel_rfl) rfl rfl (by kernel_rfl) (by kernel_rfl) (oT Try.underlying3) (zJ Try.underlying9)).imp λw cs a h=>by obtain⟨a0,a1⟩:=a;obtain⟨h0,h1⟩:=h;obtain⟨e0,b0⟩:=h0;obtain⟨e1,b1⟩:=h1;have nv:=lp e0 e1;exact⟨⟨a0,a1⟩,⟨by rw[nv];rfl,b0,b1⟩,bU _⟩
def ug:dz aN where
 size:=3
 is:=λw cs x=>cs=[.int .i64 x.key.unit,.string x.key.param,.int .i64 x.level]∧bp x.key.unit∧x.key.param.size≤maxLen∧bp x.level
 len:=λh=>by obtain⟨rfl,_⟩:=h;rfl
 mono:=λh _=>h
 dh:=λx=>Jn.dh x.key+(gO.dh x.level)
theorem TF:Reads Try.prog ug 37:=
 (Gx (F:=λ_=>True) Try.underlying37 (c0:=Jn) (c1:=gO) (by kernel_rfl) rfl rfl (by kernel_rfl) (by kernel_rfl) VO (oT Try.underlying3)).imp λw cs a h=>by obtain⟨a0,a1⟩:=a;obtain⟨h0,h1⟩:=h;obtain⟨e0,b0⟩:=h0;obtain⟨Zf,Zg⟩:=b0;obtain⟨e1,b1⟩:=h1;have nv:=lp e0 e1;exact⟨⟨a0,a1⟩,⟨by rw[nv];rfl,Zf,Zg,b1⟩,bU _⟩
theorem La:Reads Try.prog (ff ug) 29:=zA Try.underlying29 (c:=ug) (by kernel_rfl) (by decide) TF
def EH:dz bn where
 size:=3
 is:=λw cs x=>∃v0:Value,cs=[.int .i64 x.aF,.string x.title,v0]∧bp x.aF∧x.title.size≤maxLen∧(ff ug).is w [v0] x.cL
 len:=λh=>by obtain⟨v0,rfl,_⟩:=h;rfl
 mono:=λ{w w' cs x}h g=>by obtain⟨v0,e,h0,h1,h2⟩:=h;exact⟨v0,e,h0,h1,((ff ug)).mono h2 g⟩
 dh:=λx=>gO.dh x.aF+(oH.dh x.title+((ff ug).dh x.cL))
theorem T8:Reads Try.prog EH 46:=
 (Gy (F:=λ_=>True) Try.underlying46 (c0:=gO) (c1:=oH) (c2:=(ff ug)) (by kernel_rfl) rfl rfl rfl (by kernel_rfl) (by kernel_rfl) (by kernel_rfl) (oT Try.underlying3) (zJ Try.underlying9) La).imp λw cs a h=>by obtain⟨a0,a1,a2⟩:=a;obtain⟨h0,h1,h2⟩:=h;obtain⟨e0,b0⟩:=h0;obtain⟨e1,b1⟩:=h1;obtain⟨s2,e2⟩:=qV.1 (((ff ug)).len h2);rw[e2]at h2;have uE:=lp e1 e2;have nv:=lp e0 uE;exact⟨⟨a0,a1,a2⟩,⟨s2,by rw[nv];rfl,b0,b1,h2⟩,bU _⟩
theorem TD:Reads Try.prog (ff EH) 40:=zA Try.underlying40 (c:=EH) (by kernel_rfl) (by decide) T8
end
section
open Go.RowKit Go.Deep
section
variable {c : RC}
theorem vL:aG c [] []:=by simp [aG]
theorem fN{a:AV}{v:Value}{l:aq}{vs:List Value}(h:ak c a v)(k:aG c l vs):aG c (a::l) (v::vs):=by simp only[aG];exact⟨v,vs,rfl,h,k⟩
theorem n9(k:IntKind)(n:Int):ak c (.int k n) (.int k n):=by simp [ak]
theorem NA(b:Bool):ak c (.bool b) (.bool b):=by simp [ak]
theorem xy(s:ByteArray):ak c (.str s) (.string s):=by simp [ak]
def RP{α:Type}(c:RC)(d:dz α)(e:α→aq)(ok:α→Prop):Prop:=∀cs x,d.is c.w cs x→aG c (e x) cs∧ok x∧(∀v∈cs,cG v=true)
theorem Nz:∀{l:aq}{vs:List Value},aG c l vs→l.length=vs.length
 |[],vs,h=>by simp only[aG]at h;subst h;rfl
 |a::l,vs,h=>by simp only[aG]at h;obtain⟨v,vs',rfl,_,h⟩:=h;simp [Nz h]
theorem Nx{b:Nat}:∀{l:aq}{vs:List Value}{off:Nat},aG c l vs→(∀v∈vs,cG v=true)→(∀j,j<vs.length→c.w.cell? ⟨b,off+j,none⟩=vs[j]?)→aZ c b off l
 |[],vs,off,h,_,_=>by simp [aZ]
 |a::l,vs,off,h,ho,hc=>by simp only[aG]at h;obtain⟨v,vs',rfl,h1,h2⟩:=h;simp only[aZ];refine⟨⟨v,by simpa using hc 0 (by simp),ho v (by simp),h1⟩,Nx h2 (λv hv=>ho v (by simp [hv])) λj hj=>?_⟩;have:=hc (j+1) (by simpa using hj);rw[show off+1+j=off+(j+1) by omega];simpa using this
theorem Ny{α:Type}{d:dz α}{e:α→aq}{ok:α→Prop}(H:RP c d e ok){b sz:Nat}(hsz:d.size=sz):∀{l:List α}{off:Nat},(∀(i:Nat)(x:α),l[i]? =some x→∃cs',(∀j,j<d.size→c.w.cell? ⟨b,off+(i*d.size+j),none⟩=cs'[j]?)∧d.is c.w cs' x)→bh c sz b off (l.map e)∧∀x∈l,ok x
 |[],off,h=>by simp [bh]
 |x::l,off,h=>by
  obtain⟨cs,h1,h2⟩:=h 0 x rfl;obtain⟨k1,k2,k3⟩:=H cs x h2;have hl:cs.length=d.size:=d.len h2
  obtain⟨r1,r2⟩:=Ny H hsz (l:=l) (off:=off+sz) (λi y hy=>by
   obtain⟨cs',q1,q2⟩:=h (i+1) y (by simpa using hy);refine⟨cs',λj hj=>?_,q2⟩;have:=q1 j hj;rw[←hsz]
   rwa[show off+d.size+(i*d.size+j)=off+((i+1)*d.size+j) by rw[Nat.succ_mul];omega])
  refine⟨?_,λy hy=>?_⟩
  ·simp only[fP,bh];refine⟨by rw[Nz k1,hl,hsz],Nx k1 k3 λj hj=>?_,r1⟩;have:=h1 j (by rw[←hl];exact hj);simpa using this
  ·rcases eu.1 hy with rfl|hy
   ·exact k2
   ·exact r2 y hy
theorem WT{w:World}{b off:Nat}{v:Value}(h:w.cell? ⟨b,off,none⟩=some v):b<w.heap.size:=by
 rcases Nat.lt_or_ge b w.heap.size with k|k
 ·exact k
 ·simp [World.cell?,Array.getElem?_eq_none k]at h
theorem xu{α:Type}{d:dz α}{e:α→aq}{ok:α→Prop}(hX:∀b,¬c.X b)(H:RP c d e ok){sz:Nat}(hsz:d.size=sz)(h0:0<sz){v:Value}{l:List α}(h:(ff d).is c.w [v] l):ak c (sl sz e l) v∧eY ok l∧cG v=true:=by
 rcases h with⟨h1,rfl⟩|⟨b,off,sp,cap,h1,h2,h3,h4⟩
 ·simp only[List.cons.injEq,and_true]at h1;subst h1;exact⟨by simp [sl,ak,h0],⟨by simp,by simp⟩,rfl⟩
 ·simp only[List.cons.injEq,and_true]at h1;subst h1
  have wM:sp=none∨l=[]:=by
   cases l with
   |nil=>exact .inr rfl
   |cons x l=>exact .inl (h4 0 (by simp)).1
  have hh:∀(i:Nat)(x:α),l[i]? =some x→∃cs',(∀j,j<d.size→c.w.cell? ⟨b,off+(i*d.size+j),none⟩=cs'[j]?)∧d.is c.w cs' x:=by intro i x hx;obtain⟨hi,hx⟩:=cq.1 hx;subst hx;exact(h4 i hi).2
  obtain⟨r1,r2⟩:=Ny H hsz hh;refine⟨?_,⟨by unfold maxLen at h3;unfold bX;omega,r2⟩,rfl⟩;simp only[sl,ak];refine⟨some ⟨b,off,sp⟩,cap,by simp,by simpa using h2,h0,?_⟩;rcases wM with rfl|rfl
  ·cases l with
   |nil=>exact .inl rfl
   |cons x l=>
    refine .inr ⟨b,off,rfl,?_,hX b,r1⟩;obtain⟨cs,q1,q2⟩:=hh 0 x rfl;have hl:cs.length=d.size:=d.len q2;have:=q1 0 (by omega);obtain⟨y,hy⟩:∃y,cs[0]? =some y:=⟨cs[0],cu (by omega)⟩
    rw[hy]at this;exact WT this
  ·exact .inl rfl
theorem xx:∀v∈([]:List Value),cG v=true:=by simp
theorem iw{v:Value}{vs:List Value}(h:cG v=true)(k:∀x∈vs,cG x=true):∀x∈v::vs,cG x=true:=by
 intro x hx;rcases eu.1 hx with rfl|hx
 ·exact h
 ·exact k x hx
theorem Wv:RP c uq gC Ij:=by rintro cs x ⟨rfl,h0,h1,h2⟩;exact⟨(fN (n9 _ _) (fN (n9 _ _) (fN (xy _) vL))),⟨h0,h1,(show eB _ by unfold eB bX;have:=h2;unfold maxLen at this;omega)⟩,(iw rfl (iw rfl (iw rfl xx)))⟩
theorem Wu(hX:∀b,¬c.X b):RP c uo b8 Ii:=by rintro cs x ⟨v0,rfl,h0,h1,h2,h3,h4,h6⟩;obtain⟨r6,o6,n6⟩:=xu hX Wv (sz:=3) rfl (by decide) h6;exact⟨(fN (xy _) (fN (n9 _ _) (fN (n9 _ _) (fN (n9 _ _) (fN (n9 _ _) (fN (NA _) (fN r6 vL))))))),⟨(show eB _ by unfold eB bX;have:=h0;unfold maxLen at this;omega),h1,h2,h3,h4,o6⟩,(iw rfl (iw rfl (iw rfl (iw rfl (iw rfl (iw rfl (iw n6 xx)))))))⟩
theorem U2(hX:∀b,¬c.X b):RP c ue cE xj:=by rintro cs x ⟨v0,rfl,h0,h1,h2⟩;obtain⟨r2,o2,n2⟩:=xu hX (Wu hX) (sz:=7) rfl (by decide) h2;exact⟨(fN (xy _) (fN (n9 _ _) (fN r2 vL))),⟨(show eB _ by unfold eB bX;have:=h0;unfold maxLen at this;omega),h1,o2⟩,(iw rfl (iw rfl (iw n2 xx)))⟩
theorem XK:RP c uz eF OT:=by rintro cs x ⟨rfl,h0,h1,h2,h3⟩;exact⟨(fN (n9 _ _) (fN (xy _) (fN (n9 _ _) (fN (n9 _ _) vL)))),⟨h0,(show eB _ by unfold eB bX;have:=h1;unfold maxLen at this;omega),h2,h3⟩,(iw rfl (iw rfl (iw rfl (iw rfl xx))))⟩
theorem YB(hX:∀b,¬c.X b):RP c Qm bW lF:=by rintro cs x ⟨v0,v1,rfl,h0,h1⟩;obtain⟨r0,o0,n0⟩:=xu hX (U2 hX) (sz:=3) rfl (by decide) h0;obtain⟨r1,o1,n1⟩:=xu hX XK (sz:=4) rfl (by decide) h1;exact⟨(fN r0 (fN r1 vL)),⟨o0,o1⟩,(iw n0 (iw n1 xx))⟩
theorem Mf:RP c ug aC Ht:=by rintro cs x ⟨rfl,h0,h1,h2⟩;exact⟨(fN (n9 _ _) (fN (xy _) (fN (n9 _ _) vL))),⟨⟨h0,(show eB _ by unfold eB bX;have:=h1;unfold maxLen at this;omega)⟩,h2⟩,(iw rfl (iw rfl (iw rfl xx)))⟩
theorem VQ(hX:∀b,¬c.X b):RP c EH aE vK:=by rintro cs x ⟨v0,rfl,h0,h1,h2⟩;obtain⟨r2,o2,n2⟩:=xu hX Mf (sz:=3) rfl (by decide) h2;exact⟨(fN (n9 _ _) (fN (xy _) (fN r2 vL))),⟨h0,(show eB _ by unfold eB bX;have:=h1;unfold maxLen at this;omega),o2⟩,(iw rfl (iw rfl (iw n2 xx)))⟩
theorem YC{α:Type}{d:dz α}{e:α→aq}{ok:α→Prop}(H:RP c d e ok){cs:Array Value}{x:α}(h:d.is c.w cs.toList x):ak c (.agg (e x)) (.agg cs)∧ok x:=by obtain⟨h1,h2,h3⟩:=H _ _ h;simp only[ak];exact⟨⟨cs,rfl,h1,h3⟩,h2⟩
end
end
section
open Go.RowKit
theorem Yx{s:ByteArray}(h:s.size≤maxLen):eB s:=by unfold eB bX;unfold maxLen at h;omega
noncomputable def base (W:World):RC:=ctx ⟨W,[],λ_=>False,aJ⟩ W [] b9
theorem EO(W:World):∀b,¬(base W).X b:=by
 rintro b (k|⟨p,hp,_⟩|⟨i,k⟩)
 ·exact k
 ·cases hp
 ·cases k
theorem Xo{n:FuncId}{m:aq→Heap→aB}{kg:aq}(hs:Sound Try.prog aJ n m)(hc:∀us w,(callFunc n us).run Try.prog w=.ok (.enter n us) w)(W:World)(vs:Array Value)(hr:aG (base W) kg vs.toList)(hm:m kg []=some (.bool true,[])):
  Calls Try.prog n vs W λe W'=>e=.returned (.bool true)∧Below W.heap.size W W':=by
 have AD:eS (ctx ⟨W,[],λ_=>False,aJ⟩ W [] b9) []:=by
  refine⟨rfl,λi j p q hp=>?_,λi p x hp=>?_⟩
  ·simp [ctx]at hp
  ·simp [ctx]at hp
 rcases hs _ _ _ _ hm with⟨g,h1,h2⟩|hv
 case inr=>
  obtain⟨v,w',E',k1,_⟩:=hv ⟨W,[],λ_=>False,aJ⟩ vs rfl (λb k=>k.elim) AD hr;rw[hc]at k1;injection k1 with k1
  cases k1
 have hg:g=n:=by
  have e1:=h1 #[] W;rw[hc #[] W]at e1;injection e1 with e1
  injection e1 with e1
  exact e1.symm
 subst hg
 have hh:eS (ctx ⟨W,[],λ_=>False,aJ⟩ W [] b9) []:=by
  refine⟨rfl,λi j p q hp=>?_,λi p x hp=>?_⟩
  ·simp [ctx]at hp
  ·simp [ctx]at hp
 refine(h2 ⟨W,[],λ_=>False,aJ⟩ vs rfl (λb k=>k.elim) hh hr).mono ?_;rintro e w' ⟨v,E',rfl,ho,_,hv⟩;simp only[ak]at hv;subst hv;exact⟨rfl,ho.os,ho.tape,ho.output,ho.size,λk hk=>ho.stay k hk (λp hp=>by cases hp)⟩
end
end Go.Proofs.Ytjjjjbgohkklnaa
