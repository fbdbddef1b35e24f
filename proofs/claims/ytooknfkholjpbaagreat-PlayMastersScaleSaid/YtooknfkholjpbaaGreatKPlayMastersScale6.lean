/- Parts of the proof of PlayMastersScale, in order. -/
import Derived.Orders
import Derived.Below
import Derived.WalkKit
import Derived.Laws.StructEq
import Derived.Laws.Append
import Derived.Laws.AppendOwn
import Derived.Test.YtooknfkholjpbaaGreatRows
import Derived.KernelRfl
import Derived.Lib.Bytealg
import Derived.Sort.Defs
import Derived.Lib.BitFns
import Derived.Test.YtooknfkholjpbaaGreatShelf
import Derived.Laws.Externs
import Derived.WalkSpells
import Derived.ProofKit
import Derived.OpenShut
import Derived.Deep.QuietTactic
import Derived.BigQuiet
import Derived.Lib.Hide
import Derived.IntWalk
import Derived.Deep.RegionHeld3
import Derived.Deep.Slices
import Derived.OwnWalk
import Derived.Laws.OwnMore
import Derived.Deep.OwnRows
import Derived.Deep.RegionHeld
import Derived.Deep.AppendLies
import Derived.Lib.Overlaps
import Derived.Sort.Statements
import Derived.Shelf.SlSortCmp.WholeK
import Derived.Shelf.SlSortCmp.NoneTotal
import Derived.Sort.AssemblyPlain
import Derived.Lib.Strings
import Derived.Lib.SmallJoins
import Derived.Test.YtooknfkholjpbaaGreatKPlayMastersScale5
namespace Go.Proofs.YtooknfkholjpbaaGreat
set_option linter.unusedVariables false
set_option linter.unusedSimpArgs false
set_option linter.unusedSectionVars false
section
set_option maxRecDepth 100000
open HP
structure Jv (s : iT) : Prop where
 jl:s.aZ.bg.length≤1000000
 par:∀p∈s.aZ.bg,p.params.length≤1000000∧∀q∈p.params,q.ranges.length≤1000000
 un:s.aZ.cW.length≤1000000
 pre:s.cA.length≤1000000∧∀p∈s.cA,p.lZ.length≤1000000
 Rk:s.cV.length≤1000000
 cZ:∀l∈s.cV,l.bU.length≤1000000∧∀c∈l.bU,c.eB.length≤1000000∧c.gP.ck.length≤1000000
 pl:s.cm.length≤1000000
theorem IM{α:Type}{c:α→aq}{sz most:Nat}{l:List α}{m:aq→Heap→aH}{r0:AV→Heap→aH}(hc:∀x,lC (c x))(hm:m=A.uc (A.wrap true [(.s sz)] .k (A.dP r0)))(hr:∀a σ,r0 a σ=(A.tH a .az).bind λx1=>A.cond x1 (some (.az,σ)) ((A.append sz most .ez a σ).bind λr2=>some (r2.1,r2.2))) (hl:l.length≤most) (σ:Heap):A.lz (.s sz) m [sl sz c l] σ=some (sl sz c l,σ):=by obtain⟨v,σ',e1,_,K⟩:=UH (B:=cS) (r:=λ_ _=>none) hm hr hl (λ_ _ _ _=>trivial) (LF σ);obtain⟨v',e2,e3⟩:=aoM hc K;unfold A.lz;rw[e1,aY];simp only;rw[e2,cC];simp only;rw[e3]
theorem arG{σ:Heap}{id:Nat}{b:aS}(h:σ[id]? =some b):σ.set id b=σ:=by obtain⟨hl,rfl⟩:=bQ.1 h;exact List.set_getElem_self hl
theorem ak7{W:Heap}{id g sz i o:Nat}{rows:List aq}{row new:aq}(h:W[id]? =some (.arr g sz rows))(hr:rows[i]? =some row)(hs:A.au o new row=some row):A.storeAt (.oe id g i o) new W=some W:=by simp only[A.storeAt,h,if_true,hr,aY,hs,cC];obtain⟨hl,rfl⟩:=bQ.1 hr;rw[List.set_getElem_self hl,arG h]
def Ap{α:Type}(c:α→aq)(sz:Nat)(W:Heap)(v:AV)(l:List α):Prop:=(l=[]∧(v=.az∨v=.ez))∨∃id g,v=.os id g sz 0 l.length∧W[id]? =some (.arr g sz (l.map c))
theorem Ly{α:Type}{c:α→aq}{sz:Nat}{B:aS→Prop}{aJ σ:Heap}{R:HP}{v:AV}{l:List α}(H:Hs B aJ σ (Sl (fl c) sz v l*R)):Ap c sz σ v l:=by
 rcases Bw H with⟨h1,h2,_⟩|⟨id,g,h1,K⟩
 ·exact .inl ⟨h1,h2⟩
 ·exact .inr ⟨id,g,h1,(kC K).2⟩
theorem Ap.len{α:Type}{c:α→aq}{sz:Nat}{W:Heap}{v:AV}{l:List α}(h:Ap c sz W v l):A.bY v=some (.ah (l.length:Int)):=by rcases h with⟨rfl,rfl|rfl⟩|⟨id,g,rfl,_⟩<;>rfl
theorem Ap.at{α:Type}{c:α→aq}{sz:Nat}{W:Heap}{v:AV}{l:List α}(h:Ap c sz W v l){i:Nat}{x:α}(hx:l[i]? =some x):∃id g,A.bh sz v (.ah (i:Int))=some (.oe id g i 0)∧(∀o,A.deref (.oe id g i o) W=some ((c x).drop o))∧∀o new,A.au o new (c x)=some (c x)→A.storeAt (.oe id g i o) new W=some W:=by
 have hi:=(bQ.1 hx).1;rcases h with⟨rfl,_⟩|⟨id,g,rfl,hg⟩
 ·simp at hx
 ·have hr:(l.map c)[i]? =some (c x):=by rw[qH,hx];rfl
  refine⟨id,g,?_,λo=>?_,λo new hs=>ak7 hg hr hs⟩
  ·have:((i:Int)<(l.length:Int)):=by omega
   simp [A.bh,A.idx,this]
  ·simp only[A.deref,hg,if_true,hr,cC]
theorem UN{α:Type}{c:α→aq}{sz:Nat}{B:aS→Prop}{aJ σ:Heap}{R:HP}{v:AV}{l:List α}(H:Hs B aJ σ (Sl (fl c) sz v l*R))(hc:∀x,lC (c x)){n:Nat}(hn:n≤aJ.length)(d:Nat):∃v',A.bM σ n (d+1) v=some v'∧((l=[]∧(v'=.az∨v'=.ez))∨v'=sl sz c l):=by
 rcases Bw H with⟨rfl,rfl|rfl,_⟩|⟨id,g,rfl,K⟩
 ·exact⟨.az,by simp [A.bM],.inl ⟨rfl,.inl rfl⟩⟩
 ·exact⟨.ez,by simp [A.bM],.inl ⟨rfl,.inr rfl⟩⟩
 ·obtain⟨h1,h2⟩:=kC K;exact⟨_,P7 hc h2 (by omega) d,.inr rfl⟩
def yS:aq→cG→HP:=λe x=>ex λvp=>pr (e=[.str x.name,.ah x.size,vp])*Sl (fl eX) 7 vp x.params
def yR:aq→kL→HP:=λe x=>ex λvc=>pr (e=[.ah x.aA,vc])*Sl (fl bA) 11 vc x.bU
section
variable {B : aS → Prop} {aJ σ : Heap} {R : HP} {e : aq}
theorem aeI{x:cG}:Hs B aJ σ (yS e x*R)↔∃vp,e=[.str x.name,.ah x.size,vp]∧Hs B aJ σ (Sl (fl eX) 7 vp x.params*R):=by
 unfold yS;rw[Qk];constructor
 ·rintro⟨vp,H⟩;rw[w8,qm]at H;exact⟨vp,H⟩
 ·rintro⟨vp,H⟩;exact⟨vp,by rw[w8,qm];exact H⟩
theorem aeG{x:kL}:Hs B aJ σ (yR e x*R)↔∃vc,e=[.ah x.aA,vc]∧Hs B aJ σ (Sl (fl bA) 11 vc x.bU*R):=by
 unfold yR;rw[Qk];constructor
 ·rintro⟨vp,H⟩;rw[w8,qm]at H;exact⟨vp,H⟩
 ·rintro⟨vp,H⟩;exact⟨vp,by rw[w8,qm];exact H⟩
abbrev Qt:List Sh:=vD
theorem aaH:∀{seg:List aq}{l:List cG}{R:HP},Hs B aJ σ (els yS seg l*R)→∀{n:Nat},n≤aJ.length→∀(d:Nat),∃xR,A.kZ σ n (d+1) seg=some xR∧xR.map (A.dr [.k,.k,(.e 7 Qt)])=l.map cI
 |[],[],R,H,n,hn,d=>⟨[],by simp [A.kZ],rfl⟩
 |[],_::_,R,H,n,hn,d=>(qm.1 H).1.elim
 |_::_,[],R,H,n,hn,d=>(qm.1 H).1.elim
 |e::seg,x::l,R,H,n,hn,d=>by
  rw[els,w8]at H;obtain⟨vp,he,K⟩:=aeI.1 H;obtain⟨v',h1,h2⟩:=UN K T0 hn d;obtain⟨xR,k1,k2⟩:=aaH (zX H) hn d;refine⟨[.str x.name,.ah x.size,v']::xR,?_,?_⟩
  ·rw[he];simp [A.kZ,A.gm,A.bM,h1,k1]
  ·have:A.nn (.e 7 Qt) v'=sl 7 eX x.params:=by
    rcases h2 with⟨h2,rfl|rfl⟩|rfl
    ·rw[h2];rfl
    ·rw[h2];rfl
    ·exact xO (λ_=>rfl) _
   rw[eY,k2,eY];congr 1;simp only[A.dr,kF,this];rfl
theorem aaG:∀{seg:List aq}{l:List kL}{R:HP},Hs B aJ σ (els yR seg l*R)→∀{n:Nat},n≤aJ.length→∀(d:Nat),∃xR,A.kZ σ n (d+1) seg=some xR∧xR.map (A.dr [.k,(.e 11 JA)])=l.map fD
 |[],[],R,H,n,hn,d=>⟨[],by simp [A.kZ],rfl⟩
 |[],_::_,R,H,n,hn,d=>(qm.1 H).1.elim
 |_::_,[],R,H,n,hn,d=>(qm.1 H).1.elim
 |e::seg,x::l,R,H,n,hn,d=>by
  rw[els,w8]at H;obtain⟨vp,he,K⟩:=aeG.1 H;obtain⟨v',h1,h2⟩:=UN K PK hn d;obtain⟨xR,k1,k2⟩:=aaG (zX H) hn d;refine⟨[.ah x.aA,v']::xR,?_,?_⟩
  ·rw[he];simp [A.kZ,A.gm,A.bM,h1,k1]
  ·have:A.nn (.e 11 JA) v'=sl 11 bA x.bU:=by
    rcases h2 with⟨h2,rfl|rfl⟩|rfl
    ·rw[h2];rfl
    ·rw[h2];rfl
    ·exact xO (λ_=>rfl) _
   rw[eY,k2,eY];congr 1;simp only[A.dr,kF,this];rfl
theorem anS{v:AV}{l:List cG}(H:Hs B aJ σ (Sl yS 3 v l*R)){n:Nat}(hn:n≤aJ.length)(d:Nat):∃v',A.bM σ n (d+2) v=some v'∧A.nn (.e 3 [.k,.k,(.e 7 Qt)]) v'=sl 3 cI l:=by
 rcases Cq H with⟨rfl,rfl|rfl,_⟩|⟨id,g,seg,rfl,hl,H⟩
 ·exact⟨.az,by simp [A.bM],rfl⟩
 ·exact⟨.ez,by simp [A.bM],rfl⟩
 ·obtain⟨h1,h2⟩:=kC H;obtain⟨xR,k1,k2⟩:=aaH (eu (show _=els yS seg l*(blk id (.arr g 3 seg)*R) by ac_rfl) H) hn d;refine⟨.sl 3 xR,?_,?_⟩
  ·simp only[A.bM,aK (show ¬id<n by omega),h2];rw[aO (by simp;omega),List.drop_zero,rS (by omega),IZ,k1];rfl
  ·simp only[A.nn,k2];rfl
theorem ans{v:AV}{l:List kL}(H:Hs B aJ σ (Sl yR 2 v l*R)){n:Nat}(hn:n≤aJ.length)(d:Nat):∃v',A.bM σ n (d+2) v=some v'∧A.nn (.e 2 [.k,(.e 11 JA)]) v'=sl 2 fD l:=by
 rcases Cq H with⟨rfl,rfl|rfl,_⟩|⟨id,g,seg,rfl,hl,H⟩
 ·exact⟨.az,by simp [A.bM],rfl⟩
 ·exact⟨.ez,by simp [A.bM],rfl⟩
 ·obtain⟨h1,h2⟩:=kC H;obtain⟨xR,k1,k2⟩:=aaG (eu (show _=els yR seg l*(blk id (.arr g 2 seg)*R) by ac_rfl) H) hn d;refine⟨.sl 2 xR,?_,?_⟩
  ·simp only[A.bM,aK (show ¬id<n by omega),h2];rw[aO (by simp;omega),List.drop_zero,rS (by omega),IZ,k1];rfl
  ·simp only[A.nn,k2];rfl
end
section
variable {aJ σ : Heap} {R : HP}
theorem Mi{α β A1 A2:Type}{X:Option α}{v:α}{f:α→Option β}{g:A1→A2→β}{Q:A1→A2→Prop}(e:X=some v)(k:∃a b,f v=some (g a b)∧Q a b):∃a b,X.bind f=some (g a b)∧Q a b:=by rw[e];exact k
theorem V4{α β A1:Type}{X:Option α}{v:α}{f:α→Option β}{g:A1→β}{Q:A1→Prop}(e:X=some v)(k:∃a,Q a∧f v=some (g a)):∃a,Q a∧X.bind f=some (g a):=by rw[e];exact k
theorem CL{α:Type}{E:aq→α→HP}{sz:Nat}{B:aS→Prop}{v:AV}{l:List α}(H:Hs B aJ σ (Sl E sz v l*R)):A.cell v=some v:=by rcases Cq H with⟨_,rfl|rfl,_⟩|⟨id,g,seg,rfl,_⟩<;>rfl
theorem aoA{W:Heap}{x:cG}{pv:AV}(hx:∀q∈x.params,q.ranges.length≤1000000)(hl:x.params.length≤1000000)(h:Ap eX 7 W pv x.params)(u0 u1 u2:AV):A.loop ((λv30 me=>
      (A.lss (aj v30 4) (AV.ah (x.params.length:Int))).bind λgu=>
      A.cond gu (
       ((A.lb (aj v30 3)).bind λ_=>some (2)).bind λBa=>
       ((A.lb (aj v30 3)).bind λjF=>A.ak Ba jF).bind λiK=>
       ((A.lb (aj v30 3)).bind λ_=>some (2)).bind λDB=>
       ((A.lb (aj v30 3)).bind λnG=>A.ak DB nG).bind λgH=>
       (A.bh 7 gH (aj v30 4)).bind λeA=>
       (A.aF 6 eA).bind λfF=>
       ((A.deref fF me).bind λmI=>A.ak 0 mI).bind λiy=>
       (A.quiet ((A.lz (.s 3) Ff) [iy] me) me).bind λgA=>
       (A.bh 7 iK (aj v30 4)).bind λfO=>
       (A.aF 6 fO).bind λiz=>
       ((A.cell gA).bind λv=>some [v]).bind λjH=>
       (A.storeAt iz jH me).bind λtv=>
       (A.add (aj v30 4) (AV.ah 1)).bind λgB=>
       some (AX.normal,[(aj v30 0),(aj v30 1),(aj v30 2),(aj v30 3),gB],tv)) (
       some (AX.exit 2,[(aj v30 0),(aj v30 1),(aj v30 2),(aj v30 3),(aj v30 4)],me)))) [u0,u1,u2,.lbx [.str x.name,.ah x.size,pv],.ah 0] W=some (.exit 2,[u0,u1,u2,.lbx [.str x.name,.ah x.size,pv],.ah (x.params.length:Int)],W):=by
 refine Du (pE (Q:=λq=>q=(.exit 2,[u0,u1,u2,.lbx [.str x.name,.ah x.size,pv],.ah (x.params.length:Int)],W)) (λz v w=>∃i:Nat,i≤x.params.length∧v=[u0,u1,u2,.lbx [.str x.name,.ah x.size,pv],.ah (i:Int)]∧w=W∧z=x.params.length-i) ?_ (n:=x.params.length) ⟨0,jQ _,rfl,rfl,rfl⟩);have hc:A.cell pv=some pv:=by rcases h with⟨_,rfl|rfl⟩|⟨id,g,rfl,_⟩<;>rfl
 rintro z v w ⟨i,hi,rfl,rfl,hz⟩;by_cases hlt:i<x.params.length
 ·have hq:x.params[i]? =some x.params[i]:=bR hlt;obtain⟨id,g,e1,e2,e3⟩:=h.at hq;refine .inl ⟨x.params.length-(i+1),_,_,by omega,?_,i+1,hlt,rfl,rfl,rfl⟩;simp only[bW,cQ];have hp2:A.ak 2 [.str x.name,.ah x.size,pv]=some pv:=hc;rw[lF hq,bS,dO];simp only[jI,bS,hp2,e1,show ∀o,A.aF o (.oe id g i 0)=some (.oe id g i o)from λo=>by simp [A.aF],e2];rw[show A.ak 0 ((eX x.params[i]).drop 6)=some (sl 3 pI x.params[i].ranges)from rfl,bS,fM (IM (most:=140737488355328 / 32) (m:=Ff) (r0:=RF) aaU rfl (λ_ _=>rfl) (by have:=hx _ (List.getElem_mem hlt);omega) w),bS,show((A.cell (sl 3 pI x.params[i].ranges)).bind λv=>some [v])=some [sl 3 pI x.params[i].ranges]from rfl,bS,e3 6 _ rfl,bS,iF hq (by unfold bu;omega),bS]
 ·have:i=x.params.length:=by omega
  subst this;refine .inr ⟨_,?_,by simp,rfl⟩;simp only[bW,cQ];rw[lR,bS,dw]
theorem aoB{W : Heap}{x : kL}{pv : AV}(hx : ∀ c ∈ x.bU, c.eB.length ≤ 1000000 ∧ c.gP.ck.length ≤ 1000000)(hl : x.bU.length ≤ 1000000)(h : Ap bA 11 W pv x.bU)(u0 u1 : AV) : A.loop ((λeM iI =>
        (A.lss (aj eM 3) (AV.ah (x.bU.length:Int))).bind λvA=>
        A.cond vA (
         ((A.lb (aj eM 2)).bind λ_=>some (1)).bind λC8=>
         ((A.lb (aj eM 2)).bind λn5=>A.ak C8 n5).bind λtc=>
         (A.bh 11 tc (aj eM 3)).bind λlB=>
         (A.aW lB).bind λvB=>
         (A.aF 10 vB).bind λvC=>
         ((A.deref vC iI).bind λmF=>A.ak 0 mF).bind λnT=>
         (A.quiet ((A.lz (.s 8) Fg) [nT] iI) iI).bind λqP=>
         (A.aW lB).bind λtd=>
         (A.aF 6 td).bind λnC=>
         (A.aF 1 nC).bind λoo=>
         ((A.deref oo iI).bind λn9=>A.ak 0 n9).bind λtg=>
         (A.quiet ((A.lz (.s 2) Fe) [tg] iI) iI).bind λoq=>
         (A.aW lB).bind λth=>
         (A.aF 10 th).bind λpQ=>
         ((A.cell qP).bind λv=>some [v]).bind λAv=>
         (A.storeAt pQ Av iI).bind λAw=>
         (A.aW lB).bind λxV=>
         (A.aF 6 xV).bind λAQ=>
         (A.aF 1 AQ).bind λpR=>
         ((A.cell oq).bind λv=>some [v]).bind λC2=>
         (A.storeAt pR C2 Aw).bind λC3=>
         (A.add (aj eM 3) (AV.ah 1)).bind λDg=>
         some (AX.normal,[(aj eM 0),(aj eM 1),(aj eM 2),Dg],C3)) (
         some (AX.exit 8,[(aj eM 0),(aj eM 1),(aj eM 2),(aj eM 3)],iI)))) [u0,u1,.lbx [.ah x.aA,pv],.ah 0] W=some (.exit 8,[u0,u1,.lbx [.ah x.aA,pv],.ah (x.bU.length:Int)],W):=by
 refine Du (pE (Q:=λq=>q=(.exit 8,[u0,u1,.lbx [.ah x.aA,pv],.ah (x.bU.length:Int)],W)) (λz v w=>∃i:Nat,i≤x.bU.length∧v=[u0,u1,.lbx [.ah x.aA,pv],.ah (i:Int)]∧w=W∧z=x.bU.length-i) ?_ (n:=x.bU.length) ⟨0,jQ _,rfl,rfl,rfl⟩);have hc:A.cell pv=some pv:=by rcases h with⟨_,rfl|rfl⟩|⟨id,g,rfl,_⟩<;>rfl
 rintro z v w ⟨i,hi,rfl,rfl,hz⟩;by_cases hlt:i<x.bU.length
 ·have hq:x.bU[i]? =some x.bU[i]:=bR hlt;obtain⟨id,g,e1,e2,e3⟩:=h.at hq;have hb:=hx _ (List.getElem_mem hlt);refine .inl ⟨x.bU.length-(i+1),_,_,by omega,?_,i+1,hlt,rfl,rfl,rfl⟩;simp only[bW,cQ];have hp2:A.ak 1 [.ah x.aA,pv]=some pv:=hc;rw[lF hq,bS,dO];simp only[jI,bS,hp2,e1,show A.aW (.oe id g i 0)=some (.oe id g i 0)from rfl,show ∀o,A.aF o (.oe id g i 0)=some (.oe id g i o)from λo=>by simp [A.aF],show A.aF 1 (.oe id g i 6)=some (.oe id g i 7)from rfl,e2];rw[show A.ak 0 ((bA x.bU[i]).drop 10)=some (sl 8 gZ x.bU[i].eB)from rfl,bS,fM (IM (most:=140737488355328 / 64) (m:=Fg) (r0:=RH) abV rfl (λ_ _=>rfl) (by omega) w),bS,show A.ak 0 ((bA x.bU[i]).drop 7)=some (sl 2 jB x.bU[i].gP.ck)from rfl,bS,fM (IM (most:=140737488355328 / 16) (m:=Fe) (r0:=RE) T3 rfl (λ_ _=>rfl) (by omega) w),bS,show((A.cell (sl 8 gZ x.bU[i].eB)).bind λv=>some [v])=some [sl 8 gZ x.bU[i].eB]from rfl,bS,e3 10 _ rfl,bS,show((A.cell (sl 2 jB x.bU[i].gP.ck)).bind λv=>some [v])=some [sl 2 jB x.bU[i].gP.ck]from rfl,bS,e3 7 _ rfl,bS,iF hq (by unfold bu;omega),bS]
 ·have:i=x.bU.length:=by omega
  subst this;refine .inr ⟨_,?_,by simp,rfl⟩;simp only[bW,cQ];rw[lR,bS,dw]
theorem PB{α:Type}{E:aq→α→HP}{sz most:Nat}{v:AV}{l:List α}{e:aq}{x:α}(hl:l.length+1≤most)(H:Hs cS aJ σ (Sl E sz v l*(E e x*R))):∃v' σ',A.append sz most v (.sl sz [e]) σ=some (v',σ')∧Hs cS aJ σ' (Sl E sz v' (l++[x])*R):=
 LG (ys:=[e]) (xs:=[x]) (eu (by rw[aoI]) H) (by simpa using hl) (λ_ _ _ _=>trivial)
theorem aqa{l:List fu}(hl:l.length≤1000000)(H:Hs cS aJ σ R):∃v σ',Il [sl 7 eX l] σ=some (v,σ')∧A.cell v=some v∧Hs cS aJ σ' (Sl (fl eX) 7 v l*R):=
 UH (most:=140737488355328 / 80) (r:=λ_ _=>none) rfl (λ_ _=>rfl) (by omega) (λ_ _ _ _=>trivial) H
theorem anX(n:ByteArray)(m:Int)(v:AV):(((A.cells 3 (.agg [.str n,.ah m,v])).bind λkQ=>(A.au 0 kQ [bB,(AV.ah 0),AV.az]).bind λkG=>some kG).bind λcs=>some (AV.sl 3 (gf 3 1 cs)))=some (.sl 3 [[.str n,.ah m,v]]):=rfl
theorem anW(n:Int)(v:AV):(((A.cells 2 (.agg [.ah n,v])).bind λkQ=>(A.au 0 kQ [(AV.ah 0),AV.az]).bind λkG=>some kG).bind λcs=>some (AV.sl 2 (gf 2 1 cs)))=some (.sl 2 [[.ah n,v]]):=rfl
theorem aq1{s:iT}(hb:Jv s)(H:Hs cS aJ σ R)(un pl u:AV):∃v W,A.loop ((λdz jJ=>
   (A.lss (aj dz 3) (AV.ah (s.aZ.bg.length:Int))).bind λcN=>
   A.cond cN (
    (A.bh 3 (sl 3 cI s.aZ.bg) (aj dz 3)).bind λey=>
    ((A.deref ey jJ).bind λjf=>A.aC 0 3 jf).bind λcO=>
    (A.cells 3 cO).bind λiM=>
    (A.au 0 iM [bB,(AV.ah 0),AV.az]).bind λfJ=>
    (A.ak 2 fJ).bind λx24=>
    (Il [x24] jJ).bind λnI=>
    ((A.cell nI.1).bind λv=>some [v]).bind λgK=>
    (A.au 2 gK fJ).bind λmH=>
    (A.ak 2 mH).bind λx28=>
    (A.bY x28).bind λx29=>
    (A.loop (λv30 me=>
      (A.lss (aj v30 4) x29).bind λgu=>
      A.cond gu (
       ((A.lb (aj v30 3)).bind λ_=>some (2)).bind λBa=>
       ((A.lb (aj v30 3)).bind λjF=>A.ak Ba jF).bind λiK=>
       ((A.lb (aj v30 3)).bind λ_=>some (2)).bind λDB=>
       ((A.lb (aj v30 3)).bind λnG=>A.ak DB nG).bind λgH=>
       (A.bh 7 gH (aj v30 4)).bind λeA=>
       (A.aF 6 eA).bind λfF=>
       ((A.deref fF me).bind λmI=>A.ak 0 mI).bind λiy=>
       (A.quiet ((A.lz (.s 3) Ff) [iy] me) me).bind λgA=>
       (A.bh 7 iK (aj v30 4)).bind λfO=>
       (A.aF 6 fO).bind λiz=>
       ((A.cell gA).bind λv=>some [v]).bind λjH=>
       (A.storeAt iz jH me).bind λtv=>
       (A.add (aj v30 4) (AV.ah 1)).bind λgB=>
       some (AX.normal,[(aj v30 0),(aj v30 1),(aj v30 2),(aj v30 3),gB],tv)) (
       some (AX.exit 2,[(aj v30 0),(aj v30 1),(aj v30 2),(aj v30 3),(aj v30 4)],me))) [(aj dz 0),(aj dz 1),(aj dz 2),(AV.lbx mH),(AV.ah 0)] nI.2).bind λew=>
    bif ew.1==AX.exit 2 then(
     ((A.lb (aj ew.2.1 2)).bind λ_=>some (0)).bind λHy=>
     ((A.lb (aj ew.2.1 2)).bind λ_=>some (Hy)).bind λHz=>
     ((A.lb (aj ew.2.1 2)).bind λqT=>A.ak Hz qT).bind λiR=>
     ((A.lb (aj ew.2.1 3)).bind λjV=>A.aC 0 3 jV).bind λgV=>
     (((A.cells 3 gV).bind λkQ=>(A.au 0 kQ [bB,(AV.ah 0),AV.az]).bind λkG=>some kG).bind λcs=>some (AV.sl 3 (gf 3 1 cs))).bind λgb=>
     (A.append 3 (140737488355328 / 48) iR gb ew.2.2).bind λBe=>
     ((A.lb (aj ew.2.1 2)).bind λ_=>some (0)).bind λHC=>
     ((A.lb (aj ew.2.1 2)).bind λ_=>some (HC)).bind λHF=>
     (A.lb (aj ew.2.1 2)).bind λvG=>
     ((A.cell Be.1).bind λv=>some [v]).bind λya=>
     (A.au HF ya vG).bind λtD=>
     (A.add (aj dz 3) (AV.ah 1)).bind λjc=>
     some (AX.normal,[(aj ew.2.1 0),(aj ew.2.1 1),(AV.lbx tD),jc],Be.2))else
    none) (
    some (AX.exit 0,[(aj dz 0),(aj dz 1),(aj dz 2),(aj dz 3)],jJ)))) [.lbx (bO s),u,.lbx [.az,un,.az,.az,pl],.ah 0] σ=some (.exit 0,[.lbx (bO s),u,.lbx [v,un,.az,.az,pl],.ah (s.aZ.bg.length:Int)],W)∧Hs cS aJ W (Sl yS 3 v s.aZ.bg*R):=by
 suffices h:∃q,A.loop ((λdz jJ=>
   (A.lss (aj dz 3) (AV.ah (s.aZ.bg.length:Int))).bind λcN=>
   A.cond cN (
    (A.bh 3 (sl 3 cI s.aZ.bg) (aj dz 3)).bind λey=>
    ((A.deref ey jJ).bind λjf=>A.aC 0 3 jf).bind λcO=>
    (A.cells 3 cO).bind λiM=>
    (A.au 0 iM [bB,(AV.ah 0),AV.az]).bind λfJ=>
    (A.ak 2 fJ).bind λx24=>
    (Il [x24] jJ).bind λnI=>
    ((A.cell nI.1).bind λv=>some [v]).bind λgK=>
    (A.au 2 gK fJ).bind λmH=>
    (A.ak 2 mH).bind λx28=>
    (A.bY x28).bind λx29=>
    (A.loop (λv30 me=>
      (A.lss (aj v30 4) x29).bind λgu=>
      A.cond gu (
       ((A.lb (aj v30 3)).bind λ_=>some (2)).bind λBa=>
       ((A.lb (aj v30 3)).bind λjF=>A.ak Ba jF).bind λiK=>
       ((A.lb (aj v30 3)).bind λ_=>some (2)).bind λDB=>
       ((A.lb (aj v30 3)).bind λnG=>A.ak DB nG).bind λgH=>
       (A.bh 7 gH (aj v30 4)).bind λeA=>
       (A.aF 6 eA).bind λfF=>
       ((A.deref fF me).bind λmI=>A.ak 0 mI).bind λiy=>
       (A.quiet ((A.lz (.s 3) Ff) [iy] me) me).bind λgA=>
       (A.bh 7 iK (aj v30 4)).bind λfO=>
       (A.aF 6 fO).bind λiz=>
       ((A.cell gA).bind λv=>some [v]).bind λjH=>
       (A.storeAt iz jH me).bind λtv=>
       (A.add (aj v30 4) (AV.ah 1)).bind λgB=>
       some (AX.normal,[(aj v30 0),(aj v30 1),(aj v30 2),(aj v30 3),gB],tv)) (
       some (AX.exit 2,[(aj v30 0),(aj v30 1),(aj v30 2),(aj v30 3),(aj v30 4)],me))) [(aj dz 0),(aj dz 1),(aj dz 2),(AV.lbx mH),(AV.ah 0)] nI.2).bind λew=>
    bif ew.1==AX.exit 2 then(
     ((A.lb (aj ew.2.1 2)).bind λ_=>some (0)).bind λHy=>
     ((A.lb (aj ew.2.1 2)).bind λ_=>some (Hy)).bind λHz=>
     ((A.lb (aj ew.2.1 2)).bind λqT=>A.ak Hz qT).bind λiR=>
     ((A.lb (aj ew.2.1 3)).bind λjV=>A.aC 0 3 jV).bind λgV=>
     (((A.cells 3 gV).bind λkQ=>(A.au 0 kQ [bB,(AV.ah 0),AV.az]).bind λkG=>some kG).bind λcs=>some (AV.sl 3 (gf 3 1 cs))).bind λgb=>
     (A.append 3 (140737488355328 / 48) iR gb ew.2.2).bind λBe=>
     ((A.lb (aj ew.2.1 2)).bind λ_=>some (0)).bind λHC=>
     ((A.lb (aj ew.2.1 2)).bind λ_=>some (HC)).bind λHF=>
     (A.lb (aj ew.2.1 2)).bind λvG=>
     ((A.cell Be.1).bind λv=>some [v]).bind λya=>
     (A.au HF ya vG).bind λtD=>
     (A.add (aj dz 3) (AV.ah 1)).bind λjc=>
     some (AX.normal,[(aj ew.2.1 0),(aj ew.2.1 1),(AV.lbx tD),jc],Be.2))else
    none) (
    some (AX.exit 0,[(aj dz 0),(aj dz 1),(aj dz 2),(aj dz 3)],jJ)))) [.lbx (bO s),u,.lbx [.az,un,.az,.az,pl],.ah 0] σ=some q∧∃v W,q=(.exit 0,[.lbx (bO s),u,.lbx [v,un,.az,.az,pl],.ah (s.aZ.bg.length:Int)],W)∧Hs cS aJ W (Sl yS 3 v s.aZ.bg*R) by
  obtain⟨q,e,v,W,rfl,K⟩:=h;exact⟨v,W,e,K⟩
 refine pE (λz v w=>∃(i:Nat)(vo:AV),i≤s.aZ.bg.length∧v=[.lbx (bO s),u,.lbx [vo,un,.az,.az,pl],.ah (i:Int)]∧z=s.aZ.bg.length-i∧Hs cS aJ w (Sl yS 3 vo (s.aZ.bg.take i)*R)) ?_ (n:=s.aZ.bg.length) ⟨0,.az,jQ _,rfl,rfl,uL H (.inl rfl)⟩;rintro z v w ⟨i,vo,hi,rfl,hz,K⟩;by_cases h:i<s.aZ.bg.length
 ·obtain⟨x,dG⟩:∃x,x=s.aZ.bg[i]:=⟨_,rfl⟩
  have hx:s.aZ.bg[i]? =some x:=by rw[dG];exact bR h
  have hpb:=hb.par x (dA hx);have hlb:=hb.jl
  have step:∃jm w',((λdz jJ=>
   (A.lss (aj dz 3) (AV.ah (s.aZ.bg.length:Int))).bind λcN=>
   A.cond cN (
    (A.bh 3 (sl 3 cI s.aZ.bg) (aj dz 3)).bind λey=>
    ((A.deref ey jJ).bind λjf=>A.aC 0 3 jf).bind λcO=>
    (A.cells 3 cO).bind λiM=>
    (A.au 0 iM [bB,(AV.ah 0),AV.az]).bind λfJ=>
    (A.ak 2 fJ).bind λx24=>
    (Il [x24] jJ).bind λnI=>
    ((A.cell nI.1).bind λv=>some [v]).bind λgK=>
    (A.au 2 gK fJ).bind λmH=>
    (A.ak 2 mH).bind λx28=>
    (A.bY x28).bind λx29=>
    (A.loop (λv30 me=>
      (A.lss (aj v30 4) x29).bind λgu=>
      A.cond gu (
       ((A.lb (aj v30 3)).bind λ_=>some (2)).bind λBa=>
       ((A.lb (aj v30 3)).bind λjF=>A.ak Ba jF).bind λiK=>
       ((A.lb (aj v30 3)).bind λ_=>some (2)).bind λDB=>
       ((A.lb (aj v30 3)).bind λnG=>A.ak DB nG).bind λgH=>
       (A.bh 7 gH (aj v30 4)).bind λeA=>
       (A.aF 6 eA).bind λfF=>
       ((A.deref fF me).bind λmI=>A.ak 0 mI).bind λiy=>
       (A.quiet ((A.lz (.s 3) Ff) [iy] me) me).bind λgA=>
       (A.bh 7 iK (aj v30 4)).bind λfO=>
       (A.aF 6 fO).bind λiz=>
       ((A.cell gA).bind λv=>some [v]).bind λjH=>
       (A.storeAt iz jH me).bind λtv=>
       (A.add (aj v30 4) (AV.ah 1)).bind λgB=>
       some (AX.normal,[(aj v30 0),(aj v30 1),(aj v30 2),(aj v30 3),gB],tv)) (
       some (AX.exit 2,[(aj v30 0),(aj v30 1),(aj v30 2),(aj v30 3),(aj v30 4)],me))) [(aj dz 0),(aj dz 1),(aj dz 2),(AV.lbx mH),(AV.ah 0)] nI.2).bind λew=>
    bif ew.1==AX.exit 2 then(
     ((A.lb (aj ew.2.1 2)).bind λ_=>some (0)).bind λHy=>
     ((A.lb (aj ew.2.1 2)).bind λ_=>some (Hy)).bind λHz=>
     ((A.lb (aj ew.2.1 2)).bind λqT=>A.ak Hz qT).bind λiR=>
     ((A.lb (aj ew.2.1 3)).bind λjV=>A.aC 0 3 jV).bind λgV=>
     (((A.cells 3 gV).bind λkQ=>(A.au 0 kQ [bB,(AV.ah 0),AV.az]).bind λkG=>some kG).bind λcs=>some (AV.sl 3 (gf 3 1 cs))).bind λgb=>
     (A.append 3 (140737488355328 / 48) iR gb ew.2.2).bind λBe=>
     ((A.lb (aj ew.2.1 2)).bind λ_=>some (0)).bind λHC=>
     ((A.lb (aj ew.2.1 2)).bind λ_=>some (HC)).bind λHF=>
     (A.lb (aj ew.2.1 2)).bind λvG=>
     ((A.cell Be.1).bind λv=>some [v]).bind λya=>
     (A.au HF ya vG).bind λtD=>
     (A.add (aj dz 3) (AV.ah 1)).bind λjc=>
     some (AX.normal,[(aj ew.2.1 0),(aj ew.2.1 1),(AV.lbx tD),jc],Be.2))else
    none) (
    some (AX.exit 0,[(aj dz 0),(aj dz 1),(aj dz 2),(aj dz 3)],jJ)))) [.lbx (bO s),u,.lbx [vo,un,.az,.az,pl],.ah (i:Int)] w=some (.normal,[.lbx (bO s),u,.lbx [jm,un,.az,.az,pl],.ah ((i+1:Nat):Int)],w')∧Hs cS aJ w' (Sl yS 3 jm (s.aZ.bg.take i++[x])*R):=by
   simp only[bW,cQ];rw[lF hx,bS,dO,kK hx,bS,qx,bS,show A.aC 0 3 (cI x)=some (.agg (cI x))from rfl,bS,show A.cells 3 (.agg (cI x))=some (cI x)from rfl,bS,show A.au 0 (cI x) [bB,(AV.ah 0),AV.az]=some (cI x)from rfl,bS,pg,bS];obtain⟨pv,w1,c1,c2,c3⟩:=aqa hpb.1 K;have A5:=Ly c3;rw[c1,bS];simp only;rw[show((A.cell pv).bind λv=>some [v])=some [pv]from by rw[c2];rfl,bS,show A.au 2 [pv] (cI x)=some [.str x.name,.ah x.size,pv]from rfl,bS,show A.ak 2 [.str x.name,.ah x.size,pv]=some pv from c2,bS,A5.len,bS];refine Mi (aoA hpb.2 hpb.1 A5 _ _ _) ?_;simp only[oT,bW,cQ,jI,bS];have ML:=CL K;rw[show A.ak 0 [vo,un,.az,.az,pl]=some vo from ML,bS,show A.aC 0 3 [.str x.name,.ah x.size,pv]=some (.agg [.str x.name,.ah x.size,pv])from rfl,bS,anX,bS];obtain⟨jm,w2,f1,f2⟩:=PB (most:=140737488355328 / 48) (E:=yS) (l:=s.aZ.bg.take i) (v:=vo) (e:=[.str x.name,.ah x.size,pv]) (x:=x) (R:=R) (by rw[oM];omega) (eu (by ac_rfl) (aeI.2 ⟨pv,rfl,c3⟩));rw[f1,bS];simp only;rw[show((A.cell jm).bind λv=>some [v])=some [jm]from by rw[CL f2];rfl,bS,show A.au 0 [jm] [vo,un,.az,.az,pl]=some [jm,un,.az,.az,pl]from rfl,bS,iF hx (by unfold bu;omega),bS];exact⟨jm,w2,rfl,f2⟩
  obtain⟨jm,w',s1,s2⟩:=step;refine .inl ⟨s.aZ.bg.length-(i+1),_,_,by omega,s1,i+1,jm,h,rfl,rfl,?_⟩;rw[List.take_add_one,hx];exact s2
 ·have:i=s.aZ.bg.length:=by omega
  subst this;rw[List.take_length]at K;refine .inr ⟨(.exit 0,[.lbx (bO s),u,.lbx [vo,un,.az,.az,pl],.ah (s.aZ.bg.length:Int)],w),?_,by simp,vo,w,rfl,K⟩;simp only[bW,cQ];rw[lR,bS,dw]
theorem aq2{s:iT}(hb:Jv s)(H:Hs cS aJ σ R)(vl un pl u:AV)(hvl:A.cell vl=some vl):∃v W,A.loop ((λv72 vX=>
    (A.lss (aj v72 3) (AV.ah (s.cA.length:Int))).bind λfG=>
    A.cond fG (
     (A.bh 3 (sl 3 fq s.cA) (aj v72 3)).bind λkq=>
     ((A.deref kq vX).bind λow=>A.aC 0 3 ow).bind λkW=>
     (A.cells 3 kW).bind λDq=>
     (A.au 0 Dq [(AV.ah 0),bB,AV.az]).bind λyc=>
     (A.ak 2 yc).bind λtU=>
     ((A.lz (.s 3) Ii) [tU] vX).bind λBf=>
     ((A.cell Bf.1).bind λv=>some [v]).bind λmJ=>
     (A.au 2 mJ yc).bind λkR=>
     ((A.lb (aj v72 2)).bind λ_=>some (2)).bind λHJ=>
     ((A.lb (aj v72 2)).bind λAY=>A.ak HJ AY).bind λoG=>
     (A.aC 0 3 kR).bind λjN=>
     (((A.cells 3 jN).bind λqW=>(A.au 0 qW [(AV.ah 0),bB,AV.az]).bind λqX=>some qX).bind λcs=>some (AV.sl 3 (gf 3 1 cs))).bind λx91=>
     (A.append 3 (140737488355328 / 48) oG x91 Bf.2).bind λBi=>
     ((A.lb (aj v72 2)).bind λ_=>some (2)).bind λHV=>
     (A.lb (aj v72 2)).bind λHe=>
     ((A.cell Bi.1).bind λv=>some [v]).bind λvJ=>
     (A.au HV vJ He).bind λlK=>
     (A.add (aj v72 3) (AV.ah 1)).bind λBn=>
     some (AX.normal,[(aj v72 0),(aj v72 1),(AV.lbx lK),Bn],Bi.2)) (
     some (AX.exit 4,[(aj v72 0),(aj v72 1),(aj v72 2),(aj v72 3)],vX)))) [.lbx (bO s),u,.lbx [vl,un,.az,.az,pl],.ah 0] σ=some (.exit 4,[.lbx (bO s),u,.lbx [vl,un,v,.az,pl],.ah (s.cA.length:Int)],W)∧Hs cS aJ W (Sl (fl fq) 3 v s.cA*R):=by
 suffices h:∃q,A.loop ((λv72 vX=>
    (A.lss (aj v72 3) (AV.ah (s.cA.length:Int))).bind λfG=>
    A.cond fG (
     (A.bh 3 (sl 3 fq s.cA) (aj v72 3)).bind λkq=>
     ((A.deref kq vX).bind λow=>A.aC 0 3 ow).bind λkW=>
     (A.cells 3 kW).bind λDq=>
     (A.au 0 Dq [(AV.ah 0),bB,AV.az]).bind λyc=>
     (A.ak 2 yc).bind λtU=>
     ((A.lz (.s 3) Ii) [tU] vX).bind λBf=>
     ((A.cell Bf.1).bind λv=>some [v]).bind λmJ=>
     (A.au 2 mJ yc).bind λkR=>
     ((A.lb (aj v72 2)).bind λ_=>some (2)).bind λHJ=>
     ((A.lb (aj v72 2)).bind λAY=>A.ak HJ AY).bind λoG=>
     (A.aC 0 3 kR).bind λjN=>
     (((A.cells 3 jN).bind λqW=>(A.au 0 qW [(AV.ah 0),bB,AV.az]).bind λqX=>some qX).bind λcs=>some (AV.sl 3 (gf 3 1 cs))).bind λx91=>
     (A.append 3 (140737488355328 / 48) oG x91 Bf.2).bind λBi=>
     ((A.lb (aj v72 2)).bind λ_=>some (2)).bind λHV=>
     (A.lb (aj v72 2)).bind λHe=>
     ((A.cell Bi.1).bind λv=>some [v]).bind λvJ=>
     (A.au HV vJ He).bind λlK=>
     (A.add (aj v72 3) (AV.ah 1)).bind λBn=>
     some (AX.normal,[(aj v72 0),(aj v72 1),(AV.lbx lK),Bn],Bi.2)) (
     some (AX.exit 4,[(aj v72 0),(aj v72 1),(aj v72 2),(aj v72 3)],vX)))) [.lbx (bO s),u,.lbx [vl,un,.az,.az,pl],.ah 0] σ=some q∧∃v W,q=(.exit 4,[.lbx (bO s),u,.lbx [vl,un,v,.az,pl],.ah (s.cA.length:Int)],W)∧Hs cS aJ W (Sl (fl fq) 3 v s.cA*R) by
  obtain⟨q,e,v,W,rfl,K⟩:=h;exact⟨v,W,e,K⟩
 refine pE (λz v w=>∃(i:Nat)(vo:AV),i≤s.cA.length∧v=[.lbx (bO s),u,.lbx [vl,un,vo,.az,pl],.ah (i:Int)]∧z=s.cA.length-i∧Hs cS aJ w (Sl (fl fq) 3 vo (s.cA.take i)*R)) ?_ (n:=s.cA.length) ⟨0,.az,jQ _,rfl,rfl,uL H (.inl rfl)⟩;rintro z v w ⟨i,vo,hi,rfl,hz,K⟩;by_cases h:i<s.cA.length
 ·obtain⟨x,dG⟩:∃x,x=s.cA[i]:=⟨_,rfl⟩
  have hx:s.cA[i]? =some x:=by rw[dG];exact bR h
  have hpb:=hb.pre.2 x (dA hx);have hlb:=hb.pre.1
  have step:∃jm w',((λv72 vX=>
    (A.lss (aj v72 3) (AV.ah (s.cA.length:Int))).bind λfG=>
    A.cond fG (
     (A.bh 3 (sl 3 fq s.cA) (aj v72 3)).bind λkq=>
     ((A.deref kq vX).bind λow=>A.aC 0 3 ow).bind λkW=>
     (A.cells 3 kW).bind λDq=>
     (A.au 0 Dq [(AV.ah 0),bB,AV.az]).bind λyc=>
     (A.ak 2 yc).bind λtU=>
     ((A.lz (.s 3) Ii) [tU] vX).bind λBf=>
     ((A.cell Bf.1).bind λv=>some [v]).bind λmJ=>
     (A.au 2 mJ yc).bind λkR=>
     ((A.lb (aj v72 2)).bind λ_=>some (2)).bind λHJ=>
     ((A.lb (aj v72 2)).bind λAY=>A.ak HJ AY).bind λoG=>
     (A.aC 0 3 kR).bind λjN=>
     (((A.cells 3 jN).bind λqW=>(A.au 0 qW [(AV.ah 0),bB,AV.az]).bind λqX=>some qX).bind λcs=>some (AV.sl 3 (gf 3 1 cs))).bind λx91=>
     (A.append 3 (140737488355328 / 48) oG x91 Bf.2).bind λBi=>
     ((A.lb (aj v72 2)).bind λ_=>some (2)).bind λHV=>
     (A.lb (aj v72 2)).bind λHe=>
     ((A.cell Bi.1).bind λv=>some [v]).bind λvJ=>
     (A.au HV vJ He).bind λlK=>
     (A.add (aj v72 3) (AV.ah 1)).bind λBn=>
     some (AX.normal,[(aj v72 0),(aj v72 1),(AV.lbx lK),Bn],Bi.2)) (
     some (AX.exit 4,[(aj v72 0),(aj v72 1),(aj v72 2),(aj v72 3)],vX)))) [.lbx (bO s),u,.lbx [vl,un,vo,.az,pl],.ah (i:Int)] w=some (.normal,[.lbx (bO s),u,.lbx [vl,un,jm,.az,pl],.ah ((i+1:Nat):Int)],w')∧Hs cS aJ w' (Sl (fl fq) 3 jm (s.cA.take i++[x])*R):=by
   simp only[bW,cQ];rw[lF hx,bS,dO,kK hx,bS,qx,bS,show A.aC 0 3 (fq x)=some (.agg (fq x))from rfl,bS,show A.cells 3 (.agg (fq x))=some (fq x)from rfl,bS,show A.au 0 (fq x) [(AV.ah 0),bB,AV.az]=some (fq x)from rfl,bS,show A.ak 2 (fq x)=some (sl 3 eo x.lZ)from rfl,bS,IM (most:=140737488355328 / 32) (m:=Ii) (r0:=RB) Zz rfl (λ_ _=>rfl) (by omega) w,bS];simp only[jI,bS];have ML:=CL K;rw[show((A.cell (sl 3 eo x.lZ)).bind λv=>some [v])=some [sl 3 eo x.lZ]from rfl,bS,show A.au 2 [sl 3 eo x.lZ] (fq x)=some (fq x)from rfl,bS,show A.ak 2 [vl,un,vo,.az,pl]=some vo from ML,bS,show A.aC 0 3 (fq x)=some (.agg (fq x))from rfl,bS,show(((A.cells 3 (.agg (fq x))).bind λkQ=>(A.au 0 kQ [(AV.ah 0),bB,AV.az]).bind λkG=>some kG).bind λcs=>some (AV.sl 3 (gf 3 1 cs)))=some (.sl 3 [fq x])from rfl,bS];obtain⟨jm,w2,f1,f2⟩:=PB (most:=140737488355328 / 48) (E:=fl fq) (l:=s.cA.take i) (v:=vo) (e:=fq x) (x:=x) (R:=R) (by rw[oM];omega) (eu (by ac_rfl) (qm.2 ⟨(rfl:fq x=fq x),K⟩));rw[f1,bS];simp only;rw[show((A.cell jm).bind λv=>some [v])=some [jm]from by rw[CL f2];rfl,bS,show A.au 2 [jm] [vl,un,vo,.az,pl]=some [vl,un,jm,.az,pl]from rfl,bS,iF hx (by unfold bu;omega),bS];exact⟨jm,w2,rfl,f2⟩
  obtain⟨jm,w',s1,s2⟩:=step;refine .inl ⟨s.cA.length-(i+1),_,_,by omega,s1,i+1,jm,h,rfl,rfl,?_⟩;rw[List.take_add_one,hx];exact s2
 ·have:i=s.cA.length:=by omega
  subst this;rw[List.take_length]at K;refine .inr ⟨(.exit 4,[.lbx (bO s),u,.lbx [vl,un,vo,.az,pl],.ah (s.cA.length:Int)],w),?_,by simp,vo,w,rfl,K⟩;simp only[bW,cQ];rw[lR,bS,dw]
theorem ap9{l:List bE}(hl:l.length≤1000000)(H:Hs cS aJ σ R):∃v σ',Fh [sl 11 bA l] σ=some (v,σ')∧A.cell v=some v∧Hs cS aJ σ' (Sl (fl bA) 11 v l*R):=asK (by omega) H
theorem aq3{s:iT}(hb:Jv s)(H:Hs cS aJ σ R)(vl un vp pl u:AV):∃v W,A.loop ((λkj vw=>
     (A.lss (aj kj 2) (AV.ah (s.cV.length:Int))).bind λqN=>
     A.cond qN (
      (A.bh 2 (sl 2 fD s.cV) (aj kj 2)).bind λoh=>
      ((A.deref oh vw).bind λGn=>A.aC 0 2 Gn).bind λqO=>
      (A.cells 2 qO).bind λAs=>
      (A.au 0 As [(AV.ah 0),AV.az]).bind λpM=>
      (A.ak 1 pM).bind λx112=>
      (Fh [x112] vw).bind λlU=>
      ((A.cell lU.1).bind λv=>some [v]).bind λGq=>
      (A.au 1 Gq pM).bind λxI=>
      (A.ak 1 xI).bind λAO=>
      (A.bY AO).bind λpP=>
      (A.loop (λeM iI=>
        (A.lss (aj eM 3) pP).bind λvA=>
        A.cond vA (
         ((A.lb (aj eM 2)).bind λ_=>some (1)).bind λC8=>
         ((A.lb (aj eM 2)).bind λn5=>A.ak C8 n5).bind λtc=>
         (A.bh 11 tc (aj eM 3)).bind λlB=>
         (A.aW lB).bind λvB=>
         (A.aF 10 vB).bind λvC=>
         ((A.deref vC iI).bind λmF=>A.ak 0 mF).bind λnT=>
         (A.quiet ((A.lz (.s 8) Fg) [nT] iI) iI).bind λqP=>
         (A.aW lB).bind λtd=>
         (A.aF 6 td).bind λnC=>
         (A.aF 1 nC).bind λoo=>
         ((A.deref oo iI).bind λn9=>A.ak 0 n9).bind λtg=>
         (A.quiet ((A.lz (.s 2) Fe) [tg] iI) iI).bind λoq=>
         (A.aW lB).bind λth=>
         (A.aF 10 th).bind λpQ=>
         ((A.cell qP).bind λv=>some [v]).bind λAv=>
         (A.storeAt pQ Av iI).bind λAw=>
         (A.aW lB).bind λxV=>
         (A.aF 6 xV).bind λAQ=>
         (A.aF 1 AQ).bind λpR=>
         ((A.cell oq).bind λv=>some [v]).bind λC2=>
         (A.storeAt pR C2 Aw).bind λC3=>
         (A.add (aj eM 3) (AV.ah 1)).bind λDg=>
         some (AX.normal,[(aj eM 0),(aj eM 1),(aj eM 2),Dg],C3)) (
         some (AX.exit 8,[(aj eM 0),(aj eM 1),(aj eM 2),(aj eM 3)],iI))) [(aj kj 0),(aj kj 1),(AV.lbx xI),(AV.ah 0)] lU.2).bind λkg=>
      bif kg.1==AX.exit 8 then(
       ((A.lb (aj kg.2.1 1)).bind λ_=>some (3)).bind λGJ=>
       ((A.lb (aj kg.2.1 1)).bind λAx=>A.ak GJ Ax).bind λx150=>
       ((A.lb (aj kg.2.1 2)).bind λAy=>A.aC 0 2 Ay).bind λx152=>
       (((A.cells 2 x152).bind λxL=>(A.au 0 xL [(AV.ah 0),AV.az]).bind λGt=>some Gt).bind λcs=>some (AV.sl 2 (gf 2 1 cs))).bind λDh=>
       (A.append 2 (140737488355328 / 32) x150 Dh kg.2.2).bind λAN=>
       ((A.lb (aj kg.2.1 1)).bind λ_=>some (3)).bind λGK=>
       (A.lb (aj kg.2.1 1)).bind λAA=>
       ((A.cell AN.1).bind λv=>some [v]).bind λwF=>
       (A.au GK wF AA).bind λAz=>
       (A.add (aj kj 2) (AV.ah 1)).bind λGP=>
       some (AX.normal,[(aj kg.2.1 0),(AV.lbx Az),GP],AN.2))else
      none) (
      some (AX.exit 6,[(aj kj 0),(aj kj 1),(aj kj 2)],vw)))) [u,.lbx [vl,un,vp,.az,pl],.ah 0] σ=some (.exit 6,[u,.lbx [vl,un,vp,v,pl],.ah (s.cV.length:Int)],W)∧Hs cS aJ W (Sl yR 2 v s.cV*R):=by
 suffices h:∃q,A.loop ((λkj vw=>
     (A.lss (aj kj 2) (AV.ah (s.cV.length:Int))).bind λqN=>
     A.cond qN (
      (A.bh 2 (sl 2 fD s.cV) (aj kj 2)).bind λoh=>
      ((A.deref oh vw).bind λGn=>A.aC 0 2 Gn).bind λqO=>
      (A.cells 2 qO).bind λAs=>
      (A.au 0 As [(AV.ah 0),AV.az]).bind λpM=>
      (A.ak 1 pM).bind λx112=>
      (Fh [x112] vw).bind λlU=>
      ((A.cell lU.1).bind λv=>some [v]).bind λGq=>
      (A.au 1 Gq pM).bind λxI=>
      (A.ak 1 xI).bind λAO=>
      (A.bY AO).bind λpP=>
      (A.loop (λeM iI=>
        (A.lss (aj eM 3) pP).bind λvA=>
        A.cond vA (
         ((A.lb (aj eM 2)).bind λ_=>some (1)).bind λC8=>
         ((A.lb (aj eM 2)).bind λn5=>A.ak C8 n5).bind λtc=>
         (A.bh 11 tc (aj eM 3)).bind λlB=>
         (A.aW lB).bind λvB=>
         (A.aF 10 vB).bind λvC=>
         ((A.deref vC iI).bind λmF=>A.ak 0 mF).bind λnT=>
         (A.quiet ((A.lz (.s 8) Fg) [nT] iI) iI).bind λqP=>
         (A.aW lB).bind λtd=>
         (A.aF 6 td).bind λnC=>
         (A.aF 1 nC).bind λoo=>
         ((A.deref oo iI).bind λn9=>A.ak 0 n9).bind λtg=>
         (A.quiet ((A.lz (.s 2) Fe) [tg] iI) iI).bind λoq=>
         (A.aW lB).bind λth=>
         (A.aF 10 th).bind λpQ=>
         ((A.cell qP).bind λv=>some [v]).bind λAv=>
         (A.storeAt pQ Av iI).bind λAw=>
         (A.aW lB).bind λxV=>
         (A.aF 6 xV).bind λAQ=>
         (A.aF 1 AQ).bind λpR=>
         ((A.cell oq).bind λv=>some [v]).bind λC2=>
         (A.storeAt pR C2 Aw).bind λC3=>
         (A.add (aj eM 3) (AV.ah 1)).bind λDg=>
         some (AX.normal,[(aj eM 0),(aj eM 1),(aj eM 2),Dg],C3)) (
         some (AX.exit 8,[(aj eM 0),(aj eM 1),(aj eM 2),(aj eM 3)],iI))) [(aj kj 0),(aj kj 1),(AV.lbx xI),(AV.ah 0)] lU.2).bind λkg=>
      bif kg.1==AX.exit 8 then(
       ((A.lb (aj kg.2.1 1)).bind λ_=>some (3)).bind λGJ=>
       ((A.lb (aj kg.2.1 1)).bind λAx=>A.ak GJ Ax).bind λx150=>
       ((A.lb (aj kg.2.1 2)).bind λAy=>A.aC 0 2 Ay).bind λx152=>
       (((A.cells 2 x152).bind λxL=>(A.au 0 xL [(AV.ah 0),AV.az]).bind λGt=>some Gt).bind λcs=>some (AV.sl 2 (gf 2 1 cs))).bind λDh=>
       (A.append 2 (140737488355328 / 32) x150 Dh kg.2.2).bind λAN=>
       ((A.lb (aj kg.2.1 1)).bind λ_=>some (3)).bind λGK=>
       (A.lb (aj kg.2.1 1)).bind λAA=>
       ((A.cell AN.1).bind λv=>some [v]).bind λwF=>
       (A.au GK wF AA).bind λAz=>
       (A.add (aj kj 2) (AV.ah 1)).bind λGP=>
       some (AX.normal,[(aj kg.2.1 0),(AV.lbx Az),GP],AN.2))else
      none) (
      some (AX.exit 6,[(aj kj 0),(aj kj 1),(aj kj 2)],vw)))) [u,.lbx [vl,un,vp,.az,pl],.ah 0] σ=some q∧∃v W,q=(.exit 6,[u,.lbx [vl,un,vp,v,pl],.ah (s.cV.length:Int)],W)∧Hs cS aJ W (Sl yR 2 v s.cV*R) by
  obtain⟨q,e,v,W,rfl,K⟩:=h;exact⟨v,W,e,K⟩
 refine pE (λz v w=>∃(i:Nat)(vo:AV),i≤s.cV.length∧v=[u,.lbx [vl,un,vp,vo,pl],.ah (i:Int)]∧z=s.cV.length-i∧Hs cS aJ w (Sl yR 2 vo (s.cV.take i)*R)) ?_ (n:=s.cV.length) ⟨0,.az,jQ _,rfl,rfl,uL H (.inl rfl)⟩;rintro z v w ⟨i,vo,hi,rfl,hz,K⟩;by_cases h:i<s.cV.length
 ·obtain⟨x,dG⟩:∃x,x=s.cV[i]:=⟨_,rfl⟩
  have hx:s.cV[i]? =some x:=by rw[dG];exact bR h
  have hpb:=hb.cZ x (dA hx);have hlb:=hb.Rk
  have step:∃jm w',((λkj vw=>
     (A.lss (aj kj 2) (AV.ah (s.cV.length:Int))).bind λqN=>
     A.cond qN (
      (A.bh 2 (sl 2 fD s.cV) (aj kj 2)).bind λoh=>
      ((A.deref oh vw).bind λGn=>A.aC 0 2 Gn).bind λqO=>
      (A.cells 2 qO).bind λAs=>
      (A.au 0 As [(AV.ah 0),AV.az]).bind λpM=>
      (A.ak 1 pM).bind λx112=>
      (Fh [x112] vw).bind λlU=>
      ((A.cell lU.1).bind λv=>some [v]).bind λGq=>
      (A.au 1 Gq pM).bind λxI=>
      (A.ak 1 xI).bind λAO=>
      (A.bY AO).bind λpP=>
      (A.loop (λeM iI=>
        (A.lss (aj eM 3) pP).bind λvA=>
        A.cond vA (
         ((A.lb (aj eM 2)).bind λ_=>some (1)).bind λC8=>
         ((A.lb (aj eM 2)).bind λn5=>A.ak C8 n5).bind λtc=>
         (A.bh 11 tc (aj eM 3)).bind λlB=>
         (A.aW lB).bind λvB=>
         (A.aF 10 vB).bind λvC=>
         ((A.deref vC iI).bind λmF=>A.ak 0 mF).bind λnT=>
         (A.quiet ((A.lz (.s 8) Fg) [nT] iI) iI).bind λqP=>
         (A.aW lB).bind λtd=>
         (A.aF 6 td).bind λnC=>
         (A.aF 1 nC).bind λoo=>
         ((A.deref oo iI).bind λn9=>A.ak 0 n9).bind λtg=>
         (A.quiet ((A.lz (.s 2) Fe) [tg] iI) iI).bind λoq=>
         (A.aW lB).bind λth=>
         (A.aF 10 th).bind λpQ=>
         ((A.cell qP).bind λv=>some [v]).bind λAv=>
         (A.storeAt pQ Av iI).bind λAw=>
         (A.aW lB).bind λxV=>
         (A.aF 6 xV).bind λAQ=>
         (A.aF 1 AQ).bind λpR=>
         ((A.cell oq).bind λv=>some [v]).bind λC2=>
         (A.storeAt pR C2 Aw).bind λC3=>
         (A.add (aj eM 3) (AV.ah 1)).bind λDg=>
         some (AX.normal,[(aj eM 0),(aj eM 1),(aj eM 2),Dg],C3)) (
         some (AX.exit 8,[(aj eM 0),(aj eM 1),(aj eM 2),(aj eM 3)],iI))) [(aj kj 0),(aj kj 1),(AV.lbx xI),(AV.ah 0)] lU.2).bind λkg=>
      bif kg.1==AX.exit 8 then(
       ((A.lb (aj kg.2.1 1)).bind λ_=>some (3)).bind λGJ=>
       ((A.lb (aj kg.2.1 1)).bind λAx=>A.ak GJ Ax).bind λx150=>
       ((A.lb (aj kg.2.1 2)).bind λAy=>A.aC 0 2 Ay).bind λx152=>
       (((A.cells 2 x152).bind λxL=>(A.au 0 xL [(AV.ah 0),AV.az]).bind λGt=>some Gt).bind λcs=>some (AV.sl 2 (gf 2 1 cs))).bind λDh=>
       (A.append 2 (140737488355328 / 32) x150 Dh kg.2.2).bind λAN=>
       ((A.lb (aj kg.2.1 1)).bind λ_=>some (3)).bind λGK=>
       (A.lb (aj kg.2.1 1)).bind λAA=>
       ((A.cell AN.1).bind λv=>some [v]).bind λwF=>
       (A.au GK wF AA).bind λAz=>
       (A.add (aj kj 2) (AV.ah 1)).bind λGP=>
       some (AX.normal,[(aj kg.2.1 0),(AV.lbx Az),GP],AN.2))else
      none) (
      some (AX.exit 6,[(aj kj 0),(aj kj 1),(aj kj 2)],vw)))) [u,.lbx [vl,un,vp,vo,pl],.ah (i:Int)] w=some (.normal,[u,.lbx [vl,un,vp,jm,pl],.ah ((i+1:Nat):Int)],w')∧Hs cS aJ w' (Sl yR 2 jm (s.cV.take i++[x])*R):=by
   simp only[bW,cQ];rw[lF hx,bS,dO,kK hx,bS,qx,bS,show A.aC 0 2 (fD x)=some (.agg (fD x))from rfl,bS,show A.cells 2 (.agg (fD x))=some (fD x)from rfl,bS,show A.au 0 (fD x) [(AV.ah 0),AV.az]=some (fD x)from rfl,bS,TF,bS];obtain⟨pv,w1,c1,c2,c3⟩:=ap9 hpb.1 K;have A5:=Ly c3;rw[c1,bS];simp only;rw[show((A.cell pv).bind λv=>some [v])=some [pv]from by rw[c2];rfl,bS,show A.au 1 [pv] (fD x)=some [.ah x.aA,pv]from rfl,bS,show A.ak 1 [.ah x.aA,pv]=some pv from c2,bS,A5.len,bS];refine Mi (aoB hpb.2 hpb.1 A5 _ _) ?_;simp only[oT,bW,cQ,jI,bS];have ML:=CL K;rw[show A.ak 3 [vl,un,vp,vo,pl]=some vo from ML,bS,show A.aC 0 2 [.ah x.aA,pv]=some (.agg [.ah x.aA,pv])from rfl,bS,anW,bS];obtain⟨jm,w2,f1,f2⟩:=PB (most:=140737488355328 / 32) (E:=yR) (l:=s.cV.take i) (v:=vo) (e:=[.ah x.aA,pv]) (x:=x) (R:=R) (by rw[oM];omega) (eu (by ac_rfl) (aeG.2 ⟨pv,rfl,c3⟩));rw[f1,bS];simp only;rw[show((A.cell jm).bind λv=>some [v])=some [jm]from by rw[CL f2];rfl,bS,show A.au 3 [jm] [vl,un,vp,vo,pl]=some [vl,un,vp,jm,pl]from rfl,bS,iF hx (by unfold bu;omega),bS];exact⟨jm,w2,rfl,f2⟩
  obtain⟨jm,w',s1,s2⟩:=step;refine .inl ⟨s.cV.length-(i+1),_,_,by omega,s1,i+1,jm,h,rfl,rfl,?_⟩;rw[List.take_add_one,hx];exact s2
 ·have:i=s.cV.length:=by omega
  subst this;rw[List.take_length]at K;refine .inr ⟨(.exit 6,[u,.lbx [vl,un,vp,vo,pl],.ah (s.cV.length:Int)],w),?_,by simp,vo,w,rfl,K⟩;simp only[bW,cQ];rw[lR,bS,dw]
end
theorem amH{s:iT}(hb:Jv s)(σ:Heap):Ol [.agg (bO s)] σ=some (.agg (bO s),σ):=by
 suffices h:∃v,A.nn (.a [(.e 3 [.k,.k,(.e 7 vD)]),(.s 4),(.e 3 [.k,.k,(.s 3)]),(.e 2 [.k,(.e 11 xW)]),(.s 3)]) v=.agg (bO s)∧SM (.agg (bO s)) σ=some (v,σ) by obtain⟨v,h1,h2⟩:=h;exact I8 rfl (kM (uv rfl) rfl) h1 h2
 unfold SM;have hu:=hb.un;have hpl:=hb.pl;rw[show A.cells 5 (.agg (bO s))=some (bO s)from rfl,bS,show A.ak 4 (bO s)=some (sl 3 dI s.cm)from rfl,bS,IM (most:=140737488355328 / 24) (m:=Rz) (r0:=RA) SO rfl (λ_ _=>rfl) (by omega) σ,bS];simp only;rw[show((((A.cell (sl 3 dI s.cm)).bind λv=>some [v]).bind λc4=>(A.au 4 c4 CR).bind λc5=>some c5).bind λcs=>some (AV.agg cs))=some (.agg [AV.az,AV.az,AV.az,AV.az,sl 3 dI s.cm])from rfl,bS,show A.cells 5 (.agg [AV.az,AV.az,AV.az,AV.az,sl 3 dI s.cm])=some [AV.az,AV.az,AV.az,AV.az,sl 3 dI s.cm]from rfl,bS,show A.au 0 [AV.az,AV.az,AV.az,AV.az,sl 3 dI s.cm] CR=some [AV.az,AV.az,AV.az,AV.az,sl 3 dI s.cm]from rfl,bS,show A.ak 1 (bO s)=some (sl 4 dg s.aZ.cW)from rfl,bS,IM (most:=140737488355328 / 40) (m:=RG) (r0:=RJ) Uq rfl (λ_ _=>rfl) (by omega) σ,bS];simp only;rw[show((A.cell (sl 4 dg s.aZ.cW)).bind λv=>some [v])=some [sl 4 dg s.aZ.cW]from rfl,bS,show A.au 1 [sl 4 dg s.aZ.cW] [AV.az,AV.az,AV.az,AV.az,sl 3 dI s.cm]=some [AV.az,sl 4 dg s.aZ.cW,AV.az,AV.az,sl 3 dI s.cm]from rfl,bS,ZH,bS,iS,bS];obtain⟨v1,W1,l1,K1⟩:=aq1 hb (R:=emp) (LF (B:=cS) σ) (sl 4 dg s.aZ.cW) (sl 3 dI s.cm) (.lbx CR);refine V4 l1 ?_;simp only[oT,bW,cQ,jI,bS];rw[show A.ak 2 (bO s)=some (sl 3 fq s.cA)from rfl,bS,iS,bS];obtain⟨v2,W2,l2,K2⟩:=aq2 hb K1 v1 (sl 4 dg s.aZ.cW) (sl 3 dI s.cm) (.lbx CR) (CL K1);refine V4 l2 ?_;simp only[oT,bW,cQ,jI,bS];rw[show A.ak 3 (bO s)=some (sl 2 fD s.cV)from rfl,bS,iS,bS];obtain⟨v3,W3,l3,K3⟩:=aq3 hb K2 v1 (sl 4 dg s.aZ.cW) v2 (sl 3 dI s.cm) (.lbx CR);refine V4 l3 ?_;simp only[oT,bW,cQ,jI,bS];rw[show A.aC 0 5 [v1,sl 4 dg s.aZ.cW,v2,v3,sl 3 dI s.cm]=some (.agg [v1,sl 4 dg s.aZ.cW,v2,v3,sl 3 dI s.cm])from rfl,bS,show A.cells 5 (.agg [v1,sl 4 dg s.aZ.cW,v2,v3,sl 3 dI s.cm])=some [v1,sl 4 dg s.aZ.cW,v2,v3,sl 3 dI s.cm]from rfl,bS,show A.au 0 [v1,sl 4 dg s.aZ.cW,v2,v3,sl 3 dI s.cm] CR=some [v1,sl 4 dg s.aZ.cW,v2,v3,sl 3 dI s.cm]from rfl,bS,show A.aC 0 5 [v1,sl 4 dg s.aZ.cW,v2,v3,sl 3 dI s.cm]=some (.agg [v1,sl 4 dg s.aZ.cW,v2,v3,sl 3 dI s.cm])from rfl,bS];have J1:=eu (show _=Sl yS 3 v1 s.aZ.bg*(Sl yR 2 v3 s.cV*(Sl (fl fq) 3 v2 s.cA*emp)) by ac_rfl) K3;have J2:=eu (show _=Sl (fl fq) 3 v2 s.cA*(Sl yR 2 v3 s.cV*(Sl yS 3 v1 s.aZ.bg*emp)) by ac_rfl) K3;obtain⟨v1',a1,a2⟩:=anS J1 (aQ _) 6;obtain⟨v2',b1,b2⟩:=UN J2 Z3 (aQ _) 7;obtain⟨v3',c1,c2⟩:=ans K3 (aQ _) 6;refine⟨.agg [v1',sl 4 dg s.aZ.cW,v2',v3',sl 3 dI s.cm],?_,P6 K3 ?_ ?_⟩
 ·have Nc:A.nn (.e 3 [.k,.k,(.s 3)]) v2'=sl 3 fq s.cA:=by
   rcases b2 with⟨h,rfl|rfl⟩|rfl
   ·rw[h];rfl
   ·rw[h];rfl
   ·exact xO (λ_=>rfl) _
  show AV.agg (A.dr [(.e 3 [.k,.k,(.e 7 Qt)]),(.s 4),(.e 3 [.k,.k,(.s 3)]),(.e 2 [.k,(.e 11 JA)]),(.s 3)] _)=_;simp only[A.dr,a2,Nc,c2];rfl
 ·simp only[A.bM,A.gm,a1,b1,c1,sF Uq _ W3 σ.length 8,sF SO _ W3 σ.length 8,aY,cC]
 ·intro e
  have n1:v1'=v1:=by
   rcases Cq J1 with⟨_,rfl|rfl,_⟩|⟨id,g,seg,rfl,hl,K⟩
   ·simp [A.bM]at a1;exact a1.symm
   ·simp [A.bM]at a1;exact a1.symm
   ·obtain⟨k1,k2⟩:=kC K;have:=(bQ.1 k2).1;subst e;omega
  have n2:v2'=v2:=by
   rcases Cq J2 with⟨_,rfl|rfl,_⟩|⟨id,g,seg,rfl,hl,K⟩
   ·simp [A.bM]at b1;exact b1.symm
   ·simp [A.bM]at b1;exact b1.symm
   ·obtain⟨k1,k2⟩:=kC K;have:=(bQ.1 k2).1;subst e;omega
  have n3:v3'=v3:=by
   rcases Cq K3 with⟨_,rfl|rfl,_⟩|⟨id,g,seg,rfl,hl,K⟩
   ·simp [A.bM]at c1;exact c1.symm
   ·simp [A.bM]at c1;exact c1.symm
   ·obtain⟨k1,k2⟩:=kC K;have:=(bQ.1 k2).1;subst e;omega
  rw[n1,n2,n3]
end
section
set_option maxRecDepth 100000
open HP
theorem akG{l:List rM}(h:Cy l=0):l.length≤30:=by
 unfold Cy at h;split at h
 ·cases h
 ·omega
theorem acE(size:Int):∀(l pre:List fu),BR size pre l=0→∀x∈l,(0≤x.default∧x.default≤65535)∧x.ranges.length≤30
 |[],pre,h,x,hx=>by simp at hx
 |y::l,pre,h,x,hx=>by
  rw[aly]at h;by_cases h0:Mg size pre y=0;case neg=>rw[aK h0]at h;exact absurd h h0
  rw[aO h0]at h;rcases jt.1 hx with rfl|hx
  ·unfold Mg at h0;split at h0
   ·cases h0
   split at h0
   ·cases h0
   split at h0
   ·cases h0
   split at h0
   ·cases h0
   rename_i h4;split at h0
   ·cases h0
   refine⟨?_,akG h0⟩;cases q:bf x.default 0 65535
   ·exact absurd (.inr (.inr q)) h4
   ·exact sL q
  ·exact acE size l _ h x hx
theorem ac9{p:cG}(h:su p=0):p.params.length≤40∧∀x∈p.params,(0≤x.default∧x.default≤65535)∧x.ranges.length≤30:=by
 refine⟨YM h,?_⟩;unfold su at h;split at h
 ·cases h
 split at h
 ·cases h
 split at h
 ·cases h
 split at h
 ·cases h
 exact acE _ _ _ h
structure Jw (s : iT) : Prop where
 ok:Cw s
 aZ:jT s.aZ=0
 pre:uS s.aZ s.cA=0
 Rk:s.cV.length≤30
 lok:∀l∈s.cV,uj l.bU=0
 pl:s.cm.length≤40
 fnd:∀p∈s.cm,(wu s.cV p.list).2=true
theorem aeK{s:iT}(hs:Cw s)(h:Ep s=0):Jw s:=by
 unfold Ep at h;by_cases h1:uS s.aZ s.cA=0;case neg=>rw[aO h1]at h;exact absurd h h1
 rw[aK (λq=>q h1)]at h;split at h
 ·cases h
 rename_i h2;by_cases h3:j0 (F8 s) s.cV 0=0;case neg=>rw[aO h3]at h;exact absurd h h3
 rw[aK (λq=>q h3)]at h;split at h
 ·cases h
 rename_i h4;refine⟨hs,SV h1,h1,by omega,λl hl=>?_,by omega,λp hp=>?_⟩
 ·obtain⟨i,hi,e⟩:=List.getElem_of_mem hl;have:=(Bv s.cV 0).1 h3 i l (by rw[←e];exact bR hi);unfold F8 at this;split at this
  ·cases this
  split at this
  ·cases this
  unfold Qn at this;rw[aK (λq=>q h1)]at this;by_cases h5:uj l.bU=0
  ·exact h5
  ·rw[aO h5]at this;exact absurd this h5
 ·obtain⟨i,hi,e⟩:=List.getElem_of_mem hp;have:=(Bv s.cm 0).1 h i p (by rw[←e];exact bR hi);unfold Qp at this;split at this
  ·cases this
  split at this
  ·cases this
  split at this
  ·cases this
  rename_i q;simpa using q
theorem acf{r:gC}{cA:List mj}(h:uS r cA=0):cA.length≤200∧∀p∈cA,p.lZ.length≤2000∧∀x∈p.lZ,0≤x.level∧x.level≤65535:=by
 have hr:=SV h;unfold uS at h;rw[aK (λq=>q hr)]at h;split at h
 ·cases h
 refine⟨by omega,λp hp=>?_⟩;obtain⟨i,hi,e⟩:=List.getElem_of_mem hp;have h2:=(Bv cA 0).1 h i p (by rw[←e];exact bR hi);unfold PT at h2;split at h2
 ·cases h2
 split at h2
 ·cases h2
 split at h2
 ·cases h2
 split at h2
 ·cases h2
 refine⟨by omega,λx hx=>?_⟩;obtain⟨j,hj,e⟩:=List.getElem_of_mem hx;have h3:=(Bv p.lZ 0).1 h2 j x (by rw[←e];exact bR hj);unfold Qs at h3;split at h3
 ·cases h3
 split at h3
 ·cases h3
 rename_i q;exact sL (by simpa using q)
theorem aqo{r:gC}{cA:List mj}(h:uS r cA=0)(k:aG)(v:oI):0≤(zY cA k v).1∧(zY cA k v).1≤65535:=by
 unfold zY;split
 ·simp
 split
 ·simp
 rename_i h2;split
 ·exact sL (by simpa using h2)
 split
 ·simp
 rename_i p hp;split
 ·simp
 rename_i x hx;exact((acf h).2 p (An hp)).2 x (An hx)
theorem Jw.bd{s:iT}(h:Jw s):Jv s:=by
 have hl:=Lj h.aZ;have hp:=acf h.pre;refine⟨?_,λp hp=>?_,?_,⟨by omega,λp q=>by have:=(hp.2 p q).1;omega⟩,by have:=h.Rk;omega,λl hl=>?_,by have:=h.pl;omega⟩
 ·unfold zc at hl;split at hl
  ·cases hl
  ·omega
 ·have:=ac9 (OI hl p hp);exact⟨by omega,λq hq=>by have:=(this.2 q hq).2;omega⟩
 ·have hr:=h.aZ;unfold jT at hr;rw[aO hl]at hr;split at hr
  ·cases hr
  ·omega
 ·have hg:=UO (h.lok l hl);exact⟨by have:=hg.len;omega,λc hc=>⟨by have:=(hg.mv c hc).1;omega,by have:=hg.pts c hc;omega⟩⟩
def nw(l:List cG):List (ByteArray×cG):=l.foldl (λm p=>eH p.name p m) []
def Ex(lm:List (ByteArray×cG))(u:iG):List fu:=match dh u.gW lm with
 |none=>[]
 |some p=>p.params
def JB(lm:List (ByteArray×cG))(m:List (aG×fu))(u:iG):List (aG×fu):=(Ex lm u).foldl (λm x=>eH ⟨u.aA,x.name⟩ x m) m
def wJ(r:gC):List (aG×fu):=r.cW.foldl (JB (nw r.bg)) []
def nA(s:iT)(p:nY):bC:=⟨⟨0,0,false⟩,p.aA,p.ku,(wu s.cV p.list).1.bU,-1,65535,-1,none⟩
def nB(s:iT):bJ:=⟨⟨s.cm.map (nA s),0,65535,false⟩,s,ql s.aZ,some (wJ s.aZ),[]⟩
theorem UA{κ ν:Type}[DecidableEq κ]{P:ν→Prop}{k:κ}{v:ν}(hv:P v):∀{l:List (κ×ν)},(∀p∈l,P p.2)→∀p∈eH k v l,P p.2
 |[],_,p,hp=>by simp [eH]at hp;rw[hp];exact hv
 |(k',v')::r,h,p,hp=>by
  rw[eH]at hp;split at hp
  ·rcases jt.1 hp with rfl|hp
   ·exact hv
   ·exact h p (by simp [hp])
  ·rcases jt.1 hp with rfl|hp
   ·exact h _ (by simp)
   ·exact UA hv (λp hp=>h p (by simp [hp])) p hp
theorem OU{α β:Type}{P:β→Prop}{f:β→α→β}:∀(l:List α)(b:β),P b→(∀b,P b→∀x∈l,P (f b x))→P (l.foldl f b)
 |[],b,h,_=>h
 |x::l,b,h,k=>OU l (f b x) (k b h x (by simp)) λb hb y hy=>k b hb y (by simp [hy])
theorem ab1{P:cG→Prop}{l:List cG}(h:∀p∈l,P p):∀p∈nw l,P p.2:=by unfold nw;exact OU (P:=λm:List (ByteArray×cG)=>∀p∈m,P p.2) l [] (by simp) λm hm x hx=>UA (h x hx) hm
theorem anL{P:fu→Prop}{r:gC}(h:∀p∈r.bg,∀x∈p.params,P x):∀p∈wJ r,P p.2:=by
 unfold wJ;refine OU (P:=λm:List (aG×fu)=>∀p∈m,P p.2) r.cW [] (by simp) λm hm u hu=>?_
 unfold JB;refine OU (P:=λm:List (aG×fu)=>∀p∈m,P p.2) _ m hm λm hm x hx=>UA ?_ hm
 unfold Ex at hx;cases hf:dh u.gW (nw r.bg)with
 |none=>rw[hf]at hx;simp at hx
 |some p=>rw[hf]at hx;exact ab1 (P:=λp=>∀x∈p.params,P x) h _ (LQ hf) x hx
theorem aki{l:List kL}{n:Int}(h:(wu l n).2=true):(wu l n).1∈l:=by
 unfold wu at h ⊢;cases hf:l.find? (λx=>decide (x.aA=n))with
 |none=>rw[hf]at h;cases h
 |some x=>exact An hf
theorem anG{s:iT}(h:Jw s):yZ (nB s):=by
 obtain⟨hr,hp,hl,hb⟩:=h.ok;refine⟨⟨hp,aqo h.pre,λk=>?_⟩,⟨⟨Int.le_refl _,by show(0:Int)≤_;decide⟩,?_,λb hb=>?_,by show(0:Int)≤65535∧(65535:Int)≤65535;decide⟩,?_,by show 0≤5000;decide,rfl⟩
 ·unfold eR;cases hf:dh k ((nB s).params.getD [])with
  |none=>simp
  |some x=>exact anL (P:=λx=>0≤x.default∧x.default≤65535) (λp hp x hx=>((ac9 (OI (Lj h.aZ) p hp)).2 x hx).1) _ (LQ hf)
 ·show(s.cm.map (nA s)).length≤40;rw[List.length_map];exact h.pl
 ·obtain⟨p,hp,rfl⟩:=ia.1 hb;have hm:=aki (h.fnd p hp);refine{uI:=(hl.2 _ hm).2,eD:=h.lok _ hm,can:=λl e=>?_,runs:=λk r q=>?_,kY:=?_,tG:=?_,cZ:=?_,EW:=?_}
  ·simp [nA]at e
  ·simp [nA]at q
  ·show(0:Int)≤65535∧(65535:Int)≤65535;decide
  ·show(0:Int)≤0∧(0:Int)≤0∧(0:Int)≤0;decide
  ·show(-1:Int)≤-1∧(-1:Int)<(((wu s.cV p.list).1.bU.length:Nat):Int);omega
  ·left;show(-1:Int)<0;decide
 ·show(s.cm.map (nA s)).map (·.aA)=_;rw[List.map_map];rfl
theorem al4{s:iT}(h:Jw s):(nB s).keys.length≤1000000:=by have:=Us h.aZ;show(ql s.aZ).length≤_;omega
section
variable {aJ σ : Heap} {R : HP}
section
variable {κ ν : Type} [DecidableEq κ] {ek : A.EK} {eK : κ → AV} {eV : ν → AV} {B : aS → Prop} {id : Nat} {l : List (κ × ν)}
theorem aeS(hq:∀a b,A.fN ek (eK a) (eK b)=some (decide (a=b))){x:κ}(hok:A.lG ek (eK x)=true)(v:ν)(H:Hs cS aJ σ (blk id (.map (l.map λp=>(eK p.1,eV p.2)))*R)):∃σ',A.fS ek (.om id) (eK x) (eV v) σ=some σ'∧Hs cS aJ σ' (blk id (.map ((eH x v l).map λp=>(eK p.1,eV p.2)))*R):=by refine⟨σ.set id (.map ((eH x v l).map λp=>(eK p.1,eV p.2))),?_,CC H trivial⟩;simp only[A.fS,hok,cq,(kC H).2,Gg hq,cC]
theorem aqS(hq:∀a b,A.fN ek (eK a) (eK b)=some (decide (a=b))){x:κ}(hok:A.lG ek (eK x)=true)(z:AV)(H:Hs B aJ σ (blk id (.map (l.map λp=>(eK p.1,eV p.2)))*R)):A.look ek (.om id) (eK x) z σ=some (((dh x l).map eV).getD z):=by simp only[A.look,hok,cq,A.entries,(kC H).2,aY,Ek hq,cC]
end
def zb(p:ByteArray×cG):AV×AV:=(.str p.1,.agg (cI p.2))
theorem arz{s:iT}(hl:s.aZ.bg.length≤1000000){oU:Nat}(H:Hs cS aJ σ (blk oU (.map (([]:List (ByteArray×cG)).map zb))*R)):∃W,A.loop ((λv31 vV=>
    (A.lss (aj v31 1) (AV.ah (s.aZ.bg.length:Int))).bind λx34=>
    A.cond x34 (
     (A.bh 3 (sl 3 cI s.aZ.bg) (aj v31 1)).bind λiY=>
     ((A.deref iY vV).bind λjG=>A.aC 0 3 jG).bind λcU=>
     (A.cells 3 cU).bind λnG=>
     (A.au 0 nG [bB,(AV.ah 0),AV.az]).bind λoQ=>
     (A.ak 0 oQ).bind λeA=>
     (A.aC 0 3 oQ).bind λfF=>
     (A.fS .z (AV.om oU) eA fF vV).bind λMQ=>
     (A.add (aj v31 1) (AV.ah 1)).bind λiy=>
     some (AX.normal,[(aj v31 0),iy],MQ)) (
     some (AX.exit 0,[(aj v31 0),(aj v31 1)],vV)))) [.lbx (bO s),.ah 0] σ=some (.exit 0,[.lbx (bO s),.ah (s.aZ.bg.length:Int)],W)∧Hs cS aJ W (blk oU (.map ((nw s.aZ.bg).map zb))*R):=by
 suffices h:∃q,A.loop ((λv31 vV=>
    (A.lss (aj v31 1) (AV.ah (s.aZ.bg.length:Int))).bind λx34=>
    A.cond x34 (
     (A.bh 3 (sl 3 cI s.aZ.bg) (aj v31 1)).bind λiY=>
     ((A.deref iY vV).bind λjG=>A.aC 0 3 jG).bind λcU=>
     (A.cells 3 cU).bind λnG=>
     (A.au 0 nG [bB,(AV.ah 0),AV.az]).bind λoQ=>
     (A.ak 0 oQ).bind λeA=>
     (A.aC 0 3 oQ).bind λfF=>
     (A.fS .z (AV.om oU) eA fF vV).bind λMQ=>
     (A.add (aj v31 1) (AV.ah 1)).bind λiy=>
     some (AX.normal,[(aj v31 0),iy],MQ)) (
     some (AX.exit 0,[(aj v31 0),(aj v31 1)],vV)))) [.lbx (bO s),.ah 0] σ=some q∧∃W,q=(.exit 0,[.lbx (bO s),.ah (s.aZ.bg.length:Int)],W)∧Hs cS aJ W (blk oU (.map ((nw s.aZ.bg).map zb))*R) by
  obtain⟨q,e,W,rfl,K⟩:=h;exact⟨W,e,K⟩
 refine pE (λz v w=>∃(i:Nat)(m:List (ByteArray×cG)),i≤s.aZ.bg.length∧v=[.lbx (bO s),.ah (i:Int)]∧z=s.aZ.bg.length-i∧(s.aZ.bg.drop i).foldl (λm p=>eH p.name p m) m=nw s.aZ.bg∧Hs cS aJ w (blk oU (.map (m.map zb))*R)) ?_ (n:=s.aZ.bg.length) ⟨0,[],jQ _,rfl,rfl,rfl,H⟩;rintro z v w ⟨i,m,hi,rfl,hz,hT,K⟩;by_cases h:i<s.aZ.bg.length
 ·obtain⟨x,dG⟩:∃x,x=s.aZ.bg[i]:=⟨_,rfl⟩
  have hx:s.aZ.bg[i]? =some x:=by rw[dG];exact bR h
  rw[List.drop_eq_getElem_cons h,←dG]at hT;obtain⟨w',u1,u2⟩:=aeS (ek:=.z) (eK:=λb:ByteArray=>AV.str b) (eV:=λp:cG=>AV.agg (cI p)) (l:=m) acJ (x:=x.name) rfl x K;refine .inl ⟨s.aZ.bg.length-(i+1),_,w',by omega,?_,i+1,eH x.name x m,h,rfl,rfl,hT,u2⟩;simp only[bW,cQ];rw[lF hx,bS,dO,kK hx,bS,qx,bS,show A.aC 0 3 (cI x)=some (.agg (cI x))from rfl,bS,show A.cells 3 (.agg (cI x))=some (cI x)from rfl,bS,show A.au 0 (cI x) [bB,(AV.ah 0),AV.az]=some (cI x)from rfl,bS,pe,bS,show A.aC 0 3 (cI x)=some (.agg (cI x))from rfl,bS,u1,bS,iF hx (by unfold bu;omega),bS]
 ·have:i=s.aZ.bg.length:=by omega
  subst this;rw[List.drop_length]at hT;simp only[List.foldl_nil]at hT;rw[hT]at K;refine .inr ⟨(.exit 0,[.lbx (bO s),.ah (s.aZ.bg.length:Int)],w),?_,by simp,w,rfl,K⟩;simp only[bW,cQ];rw[lR,bS,dw]
theorem ao9(n:Int)(b:ByteArray):((((A.cell (.ah n)).bind λv=>some [v]).bind λpW=>(A.au 0 pW [(AV.ah 0),bB]).bind λnH=>((A.cell (.str b)).bind λv=>some [v]).bind λmJ=>(A.au 1 mJ nH).bind λkR=>some kR).bind λcs=>some (AV.agg cs))=some (.agg (aX ⟨n,b⟩)):=rfl
theorem aqr{s : iT}{u : iG}{ps : List fu}(hl : ps.length ≤ 1000000){id br : Nat}{cs : aq}(hc : cs[10]? = some (.om br))(m : List (aG × fu))(H : Hs cS aJ σ (blk br (.map (m.map jv)) * (blk id (.box cs) * R))) : ∃ W, A.loop ((λv64 iX =>
        (A.lss (aj v64 2) (AV.ah (ps.length:Int))).bind λmg=>
        A.cond mg (
         (A.bh 7 (sl 7 eX ps) (aj v64 2)).bind λjK=>
         ((A.deref jK iX).bind λpV=>A.aC 0 7 pV).bind λgM=>
         (A.cells 7 gM).bind λnU=>
         (A.au 0 nU [bB,(AV.ah 0),(AV.ah 0),(AV.ah 0),(AV.ah 0),aR,AV.az]).bind λlV=>
         (A.aW (AV.op id 0)).bind λjL=>
         (A.aF 10 jL).bind λjq=>
         ((A.deref jq iX).bind λtE=>A.ak 0 tE).bind λkq=>
         ((A.lb (aj v64 1)).bind λ_=>some (0)).bind λvR=>
         ((A.lb (aj v64 1)).bind λqV=>A.ak vR qV).bind λlP=>
         (A.ak 0 lV).bind λiA=>
         ((((A.cell lP).bind λv=>some [v]).bind λpW=>(A.au 0 pW [(AV.ah 0),bB]).bind λnH=>((A.cell iA).bind λv=>some [v]).bind λmJ=>(A.au 1 mJ nH).bind λkR=>some kR).bind λcs=>some (AV.agg cs)).bind λjM=>
         (A.aC 0 7 lV).bind λkX=>
         (A.fS (.s [0,2]) kq jM kX iX).bind λyh=>
         (A.add (aj v64 2) (AV.ah 1)).bind λjN=>
         some (AX.normal,[(aj v64 0),(aj v64 1),jN],yh)) (
         some (AX.exit 4,[(aj v64 0),(aj v64 1),(aj v64 2)],iX)))) [.lbx (bO s),.lbx (dg u),.ah 0] σ=some (.exit 4,[.lbx (bO s),.lbx (dg u),.ah (ps.length:Int)],W)∧Hs cS aJ W (blk br (.map ((ps.foldl (λm x=>eH ⟨u.aA,x.name⟩ x m) m).map jv))*(blk id (.box cs)*R)):=by
 suffices h:∃q,A.loop ((λv64 iX=>
        (A.lss (aj v64 2) (AV.ah (ps.length:Int))).bind λmg=>
        A.cond mg (
         (A.bh 7 (sl 7 eX ps) (aj v64 2)).bind λjK=>
         ((A.deref jK iX).bind λpV=>A.aC 0 7 pV).bind λgM=>
         (A.cells 7 gM).bind λnU=>
         (A.au 0 nU [bB,(AV.ah 0),(AV.ah 0),(AV.ah 0),(AV.ah 0),aR,AV.az]).bind λlV=>
         (A.aW (AV.op id 0)).bind λjL=>
         (A.aF 10 jL).bind λjq=>
         ((A.deref jq iX).bind λtE=>A.ak 0 tE).bind λkq=>
         ((A.lb (aj v64 1)).bind λ_=>some (0)).bind λvR=>
         ((A.lb (aj v64 1)).bind λqV=>A.ak vR qV).bind λlP=>
         (A.ak 0 lV).bind λiA=>
         ((((A.cell lP).bind λv=>some [v]).bind λpW=>(A.au 0 pW [(AV.ah 0),bB]).bind λnH=>((A.cell iA).bind λv=>some [v]).bind λmJ=>(A.au 1 mJ nH).bind λkR=>some kR).bind λcs=>some (AV.agg cs)).bind λjM=>
         (A.aC 0 7 lV).bind λkX=>
         (A.fS (.s [0,2]) kq jM kX iX).bind λyh=>
         (A.add (aj v64 2) (AV.ah 1)).bind λjN=>
         some (AX.normal,[(aj v64 0),(aj v64 1),jN],yh)) (
         some (AX.exit 4,[(aj v64 0),(aj v64 1),(aj v64 2)],iX)))) [.lbx (bO s),.lbx (dg u),.ah 0] σ=some q∧∃W,q=(.exit 4,[.lbx (bO s),.lbx (dg u),.ah (ps.length:Int)],W)∧Hs cS aJ W (blk br (.map ((ps.foldl (λm x=>eH ⟨u.aA,x.name⟩ x m) m).map jv))*(blk id (.box cs)*R)) by
  obtain⟨q,e,W,rfl,K⟩:=h;exact⟨W,e,K⟩
 obtain⟨fm,hfm⟩:∃fm,fm=ps.foldl (λm x=>eH (⟨u.aA,x.name⟩:aG) x m) m:=⟨_,rfl⟩
 rw[←hfm];refine pE (λz v w=>∃(i:Nat)(m:List (aG×fu)),i≤ps.length∧v=[.lbx (bO s),.lbx (dg u),.ah (i:Int)]∧z=ps.length-i∧(ps.drop i).foldl (λm x=>eH ⟨u.aA,x.name⟩ x m) m=fm∧Hs cS aJ w (blk br (.map (m.map jv))*(blk id (.box cs)*R))) ?_ (n:=ps.length) ⟨0,m,jQ _,rfl,rfl,hfm.symm,H⟩;rintro z v w ⟨i,m,hi,rfl,hz,hT,K⟩;by_cases h:i<ps.length
 ·obtain⟨x,dG⟩:∃x,x=ps[i]:=⟨_,rfl⟩
  have hx:ps[i]? =some x:=by rw[dG];exact bR h
  rw[List.drop_eq_getElem_cons h,←dG]at hT;obtain⟨w',u1,u2⟩:=aeS (ek:=.s [0,2]) (eK:=λk:aG=>AV.agg (aX k)) (eV:=λp:fu=>AV.agg (eX p)) (l:=m) tZ (x:=⟨u.aA,x.name⟩) rfl x K;have hb:=(kC (eu (show _=blk id (.box cs)*(blk br (.map (m.map jv))*R) by ac_rfl) K)).2;refine .inl ⟨ps.length-(i+1),_,w',by omega,?_,i+1,_,h,rfl,rfl,hT,u2⟩;simp only[bW,cQ];rw[lF hx,bS,dO,kK hx,bS,qx,bS,show A.aC 0 7 (eX x)=some (.agg (eX x))from rfl,bS,show A.cells 7 (.agg (eX x))=some (eX x)from rfl,bS,show A.au 0 (eX x) [bB,(AV.ah 0),(AV.ah 0),(AV.ah 0),(AV.ah 0),aR,AV.az]=some (eX x)from rfl,bS,show A.aW (.op id 0)=some (.op id 0)from rfl,bS,show A.aF 10 (.op id 0)=some (.op id 10)from by simp [A.aF],bS,show((A.deref (.op id 10) w).bind λtE=>A.ak 0 tE)=some (.om br)from by simp only[A.deref,hb,aY,A.ak,List.getElem?_drop,Nat.add_zero,hc];rfl,bS,jI,bS,bS,bS,show A.ak 0 (dg u)=some (.ah u.aA)from rfl,bS,DV,bS,ao9,bS,show A.aC 0 7 (eX x)=some (.agg (eX x))from rfl,bS,u1,bS,iF hx (by unfold bu;omega),bS]
 ·have:i=ps.length:=by omega
  subst this;rw[List.drop_length]at hT;simp only[List.foldl_nil]at hT;rw[hT]at K;refine .inr ⟨(.exit 4,[.lbx (bO s),.lbx (dg u),.ah (ps.length:Int)],w),?_,by simp,w,rfl,K⟩;simp only[bW,cQ];rw[lR,bS,dw]
theorem ab4{f:aq→Heap→Option LS}{v:aq}{σ:Heap}{r:LS}(h:f v σ=some r)(hr:r.1≠.normal):A.loop f v σ=some r:=by obtain⟨n,hn⟩:=yF h hr;exact Fu hn
theorem arR{rz uP yz zJ β:Type}{X:Option rz}{f:rz→Option uP}{g:rz→uP→Option yz}{h:rz→uP→yz→Option zJ}{v:zJ}{k:rz→uP→yz→zJ→Option β}{k':zJ→Option β}{r:Option β}(e:(X.bind λx=>(f x).bind λy=>(g x y).bind λz=>h x y z)=some v) (hk:k' v=r) (hkk:k=λ_ _ _=>k':=by rfl):(X.bind λx=>(f x).bind λy=>(g x y).bind λz=>(h x y z).bind (k x y z))=r:=by subst hkk;obtain⟨x,hx,e⟩:=bN.1 e;obtain⟨y,hy,e⟩:=bN.1 e;obtain⟨z,hz,e⟩:=bN.1 e;rw[hx,aY,hy,aY,hz,aY,e,aY];exact hk
theorem arA{s:iT}(hb:Jv s){id br oU:Nat}{cs:aq}(hc:cs[10]? =some (.om br))(H:Hs cS aJ σ (blk br (.map (([]:List (aG×fu)).map jv))*(blk id (.box cs)*(blk oU (.map ((nw s.aZ.bg).map zb))*R)))):∃W,A.loop ((λv50 wX=>
     (A.lss (aj v50 1) (AV.ah (s.aZ.cW.length:Int))).bind λjX=>
     A.cond jX (
      (A.bh 4 (sl 4 dg s.aZ.cW) (aj v50 1)).bind λiR=>
      ((A.deref iR wX).bind λjV=>A.aC 0 4 jV).bind λgV=>
      (A.cells 4 gV).bind λkQ=>
      (A.au 0 kQ [(AV.ah 0),bB,(AV.ah 0),(AV.ah 0)]).bind λkG=>
      (A.ak 1 kG).bind λgb=>
      (A.look .z (AV.om oU) gb (AV.agg [bB,(AV.ah 0),AV.az]) wX).bind λji=>
      ((A.cells 3 ji).bind λqU=>A.ak 2 qU).bind λfL=>
      (A.bY fL).bind λgL=>
      (A.loop (λv64 iX=>
        (A.lss (aj v64 2) gL).bind λmg=>
        A.cond mg (
         (A.bh 7 fL (aj v64 2)).bind λjK=>
         ((A.deref jK iX).bind λpV=>A.aC 0 7 pV).bind λgM=>
         (A.cells 7 gM).bind λnU=>
         (A.au 0 nU [bB,(AV.ah 0),(AV.ah 0),(AV.ah 0),(AV.ah 0),aR,AV.az]).bind λlV=>
         (A.aW (AV.op id 0)).bind λjL=>
         (A.aF 10 jL).bind λjq=>
         ((A.deref jq iX).bind λtE=>A.ak 0 tE).bind λkq=>
         ((A.lb (aj v64 1)).bind λ_=>some (0)).bind λvR=>
         ((A.lb (aj v64 1)).bind λqV=>A.ak vR qV).bind λlP=>
         (A.ak 0 lV).bind λiA=>
         ((((A.cell lP).bind λv=>some [v]).bind λpW=>(A.au 0 pW [(AV.ah 0),bB]).bind λnH=>((A.cell iA).bind λv=>some [v]).bind λmJ=>(A.au 1 mJ nH).bind λkR=>some kR).bind λcs=>some (AV.agg cs)).bind λjM=>
         (A.aC 0 7 lV).bind λkX=>
         (A.fS (.s [0,2]) kq jM kX iX).bind λyh=>
         (A.add (aj v64 2) (AV.ah 1)).bind λjN=>
         some (AX.normal,[(aj v64 0),(aj v64 1),jN],yh)) (
         some (AX.exit 4,[(aj v64 0),(aj v64 1),(aj v64 2)],iX))) [(aj v50 0),(AV.lbx kG),(AV.ah 0)] wX).bind λBh=>
      bif Bh.1==AX.exit 4 then(
       (A.add (aj v50 1) (AV.ah 1)).bind λx90=>
       some (AX.normal,[(aj Bh.2.1 0),x90],Bh.2.2))else
      none) (
      some (AX.exit 2,[(aj v50 0),(aj v50 1)],wX)))) [.lbx (bO s),.ah 0] σ=some (.exit 2,[.lbx (bO s),.ah (s.aZ.cW.length:Int)],W)∧Hs cS aJ W (blk br (.map ((wJ s.aZ).map jv))*(blk id (.box cs)*(blk oU (.map ((nw s.aZ.bg).map zb))*R))):=by
 suffices h:∃q,A.loop ((λv50 wX=>
     (A.lss (aj v50 1) (AV.ah (s.aZ.cW.length:Int))).bind λjX=>
     A.cond jX (
      (A.bh 4 (sl 4 dg s.aZ.cW) (aj v50 1)).bind λiR=>
      ((A.deref iR wX).bind λjV=>A.aC 0 4 jV).bind λgV=>
      (A.cells 4 gV).bind λkQ=>
      (A.au 0 kQ [(AV.ah 0),bB,(AV.ah 0),(AV.ah 0)]).bind λkG=>
      (A.ak 1 kG).bind λgb=>
      (A.look .z (AV.om oU) gb (AV.agg [bB,(AV.ah 0),AV.az]) wX).bind λji=>
      ((A.cells 3 ji).bind λqU=>A.ak 2 qU).bind λfL=>
      (A.bY fL).bind λgL=>
      (A.loop (λv64 iX=>
        (A.lss (aj v64 2) gL).bind λmg=>
        A.cond mg (
         (A.bh 7 fL (aj v64 2)).bind λjK=>
         ((A.deref jK iX).bind λpV=>A.aC 0 7 pV).bind λgM=>
         (A.cells 7 gM).bind λnU=>
         (A.au 0 nU [bB,(AV.ah 0),(AV.ah 0),(AV.ah 0),(AV.ah 0),aR,AV.az]).bind λlV=>
         (A.aW (AV.op id 0)).bind λjL=>
         (A.aF 10 jL).bind λjq=>
         ((A.deref jq iX).bind λtE=>A.ak 0 tE).bind λkq=>
         ((A.lb (aj v64 1)).bind λ_=>some (0)).bind λvR=>
         ((A.lb (aj v64 1)).bind λqV=>A.ak vR qV).bind λlP=>
         (A.ak 0 lV).bind λiA=>
         ((((A.cell lP).bind λv=>some [v]).bind λpW=>(A.au 0 pW [(AV.ah 0),bB]).bind λnH=>((A.cell iA).bind λv=>some [v]).bind λmJ=>(A.au 1 mJ nH).bind λkR=>some kR).bind λcs=>some (AV.agg cs)).bind λjM=>
         (A.aC 0 7 lV).bind λkX=>
         (A.fS (.s [0,2]) kq jM kX iX).bind λyh=>
         (A.add (aj v64 2) (AV.ah 1)).bind λjN=>
         some (AX.normal,[(aj v64 0),(aj v64 1),jN],yh)) (
         some (AX.exit 4,[(aj v64 0),(aj v64 1),(aj v64 2)],iX))) [(aj v50 0),(AV.lbx kG),(AV.ah 0)] wX).bind λBh=>
      bif Bh.1==AX.exit 4 then(
       (A.add (aj v50 1) (AV.ah 1)).bind λx90=>
       some (AX.normal,[(aj Bh.2.1 0),x90],Bh.2.2))else
      none) (
      some (AX.exit 2,[(aj v50 0),(aj v50 1)],wX)))) [.lbx (bO s),.ah 0] σ=some q∧∃W,q=(.exit 2,[.lbx (bO s),.ah (s.aZ.cW.length:Int)],W)∧Hs cS aJ W (blk br (.map ((wJ s.aZ).map jv))*(blk id (.box cs)*(blk oU (.map ((nw s.aZ.bg).map zb))*R))) by
  obtain⟨q,e,W,rfl,K⟩:=h;exact⟨W,e,K⟩
 have hun:=hb.un;refine pE (λz v w=>∃(i:Nat)(m:List (aG×fu)),i≤s.aZ.cW.length∧v=[.lbx (bO s),.ah (i:Int)]∧z=s.aZ.cW.length-i∧(s.aZ.cW.drop i).foldl (JB (nw s.aZ.bg)) m=wJ s.aZ∧Hs cS aJ w (blk br (.map (m.map jv))*(blk id (.box cs)*(blk oU (.map ((nw s.aZ.bg).map zb))*R)))) ?_ (n:=s.aZ.cW.length) ⟨0,[],jQ _,rfl,rfl,rfl,H⟩;rintro z v w ⟨i,m,hi,rfl,hz,hT,K⟩;by_cases h:i<s.aZ.cW.length
 ·obtain⟨x,dG⟩:∃x,x=s.aZ.cW[i]:=⟨_,rfl⟩
  have hx:s.aZ.cW[i]? =some x:=by rw[dG];exact bR h
  rw[List.drop_eq_getElem_cons h,←dG]at hT
  have hpl:(Ex (nw s.aZ.bg) x).length≤1000000:=by
   unfold Ex;cases hf:dh x.gW (nw s.aZ.bg)with
   |none=>simp
   |some p=>exact ab1 (P:=λp=>p.params.length≤1000000) (λp hp=>(hb.par p hp).1) _ (LQ hf)
  obtain⟨w',l1,l2⟩:=aqr (s:=s) (u:=x) hpl hc m K
  have hlk:((A.look .z (AV.om oU) (.str x.gW) (AV.agg [bB,(AV.ah 0),AV.az]) w).bind λji=>((A.cells 3 ji).bind λqU=>A.ak 2 qU).bind λfL=>(A.bY fL).bind λgL=>(A.loop ((λv64 iX=>
        (A.lss (aj v64 2) gL).bind λmg=>
        A.cond mg (
         (A.bh 7 fL (aj v64 2)).bind λjK=>
         ((A.deref jK iX).bind λpV=>A.aC 0 7 pV).bind λgM=>
         (A.cells 7 gM).bind λnU=>
         (A.au 0 nU [bB,(AV.ah 0),(AV.ah 0),(AV.ah 0),(AV.ah 0),aR,AV.az]).bind λlV=>
         (A.aW (AV.op id 0)).bind λjL=>
         (A.aF 10 jL).bind λjq=>
         ((A.deref jq iX).bind λtE=>A.ak 0 tE).bind λkq=>
         ((A.lb (aj v64 1)).bind λ_=>some (0)).bind λvR=>
         ((A.lb (aj v64 1)).bind λqV=>A.ak vR qV).bind λlP=>
         (A.ak 0 lV).bind λiA=>
         ((((A.cell lP).bind λv=>some [v]).bind λpW=>(A.au 0 pW [(AV.ah 0),bB]).bind λnH=>((A.cell iA).bind λv=>some [v]).bind λmJ=>(A.au 1 mJ nH).bind λkR=>some kR).bind λcs=>some (AV.agg cs)).bind λjM=>
         (A.aC 0 7 lV).bind λkX=>
         (A.fS (.s [0,2]) kq jM kX iX).bind λyh=>
         (A.add (aj v64 2) (AV.ah 1)).bind λjN=>
         some (AX.normal,[(aj v64 0),(aj v64 1),jN],yh)) (
         some (AX.exit 4,[(aj v64 0),(aj v64 1),(aj v64 2)],iX)))) [.lbx (bO s),.lbx (dg x),.ah 0] w))=some (.exit 4,[.lbx (bO s),.lbx (dg x),.ah ((Ex (nw s.aZ.bg) x).length:Int)],w'):=by
   rw[aqS (ek:=.z) (eK:=λb:ByteArray=>AV.str b) (eV:=λp:cG=>AV.agg (cI p)) (l:=nw s.aZ.bg) acJ (x:=x.gW) rfl _ (eu (show _=blk oU (.map ((nw s.aZ.bg).map zb))*(blk br (.map (m.map jv))*(blk id (.box cs)*R)) by ac_rfl) K),bS];unfold Ex at l1 ⊢;cases hf:dh x.gW (nw s.aZ.bg)with
   |none=>
    rw[hf]at l1;simp only[Option.map_none,Option.getD_none];rw[show((A.cells 3 (AV.agg [bB,(AV.ah 0),AV.az])).bind λqU=>A.ak 2 qU)=some .az from rfl,bS,show A.bY .az=some (.ah 0)from rfl,bS]
    have hw:w'=w:=by
     have e0:A.loop ((λv64 iX=>
        (A.lss (aj v64 2) (AV.ah ((([]:List fu).length:Nat):Int))).bind λmg=>
        A.cond mg (
         (A.bh 7 (sl 7 eX ([]:List fu)) (aj v64 2)).bind λjK=>
         ((A.deref jK iX).bind λpV=>A.aC 0 7 pV).bind λgM=>
         (A.cells 7 gM).bind λnU=>
         (A.au 0 nU [bB,(AV.ah 0),(AV.ah 0),(AV.ah 0),(AV.ah 0),aR,AV.az]).bind λlV=>
         (A.aW (AV.op id 0)).bind λjL=>
         (A.aF 10 jL).bind λjq=>
         ((A.deref jq iX).bind λtE=>A.ak 0 tE).bind λkq=>
         ((A.lb (aj v64 1)).bind λ_=>some (0)).bind λvR=>
         ((A.lb (aj v64 1)).bind λqV=>A.ak vR qV).bind λlP=>
         (A.ak 0 lV).bind λiA=>
         ((((A.cell lP).bind λv=>some [v]).bind λpW=>(A.au 0 pW [(AV.ah 0),bB]).bind λnH=>((A.cell iA).bind λv=>some [v]).bind λmJ=>(A.au 1 mJ nH).bind λkR=>some kR).bind λcs=>some (AV.agg cs)).bind λjM=>
         (A.aC 0 7 lV).bind λkX=>
         (A.fS (.s [0,2]) kq jM kX iX).bind λyh=>
         (A.add (aj v64 2) (AV.ah 1)).bind λjN=>
         some (AX.normal,[(aj v64 0),(aj v64 1),jN],yh)) (
         some (AX.exit 4,[(aj v64 0),(aj v64 1),(aj v64 2)],iX)))) [.lbx (bO s),.lbx (dg x),.ah 0] w=some (.exit 4,[.lbx (bO s),.lbx (dg x),.ah 0],w):=
      ab4 rfl (by simp)
     have l1:=e0.symm.trans l1;injection l1 with l1
     exact(congrArg (λz:LS=>z.2.2) l1).symm
    rw[hw];exact ab4 rfl (by simp)
   |some p=>rw[hf]at l1;simp only[cC,Option.getD_some];rw[show((A.cells 3 (AV.agg (cI p))).bind λqU=>A.ak 2 qU)=some (sl 7 eX p.params)from rfl,bS,iS,bS];exact l1
  refine .inl ⟨s.aZ.cW.length-(i+1),_,w',by omega,?_,i+1,_,h,rfl,rfl,hT,l2⟩;simp only[bW,cQ];rw[lF hx,bS,dO,kK hx,bS,qx,bS,show A.aC 0 4 (dg x)=some (.agg (dg x))from rfl,bS,show A.cells 4 (.agg (dg x))=some (dg x)from rfl,bS,show A.au 0 (dg x) [(AV.ah 0),bB,(AV.ah 0),(AV.ah 0)]=some (dg x)from rfl,bS,show A.ak 1 (dg x)=some (.str x.gW)from rfl,bS];refine arR hlk ?_;simp only[oT,bW,cQ];rw[iF hx (by unfold bu;omega),bS]
 ·have:i=s.aZ.cW.length:=by omega
  subst this;rw[List.drop_length]at hT;simp only[List.foldl_nil]at hT;rw[hT]at K;refine .inr ⟨(.exit 2,[.lbx (bO s),.ah (s.aZ.cW.length:Int)],w),?_,by simp,w,rfl,K⟩;simp only[bW,cQ];rw[lR,bS,dw]
end
end
section
set_option maxRecDepth 100000
open HP
section
variable {aJ σ : Heap} {R : HP}
theorem ao8(s:iT)(p:nY):((((A.cell (.ah p.aA)).bind λv=>some [v]).bind λsQ=>(A.au 3 sQ [(AV.ah 0),(AV.ah 0),aR,(AV.ah 0),(AV.ah 0),AV.az,(AV.ah 0),(AV.ah 0),(AV.ah 0),AV.nm]).bind λCU=>((A.cell (.ah p.ku)).bind λv=>some [v]).bind λn5=>(A.au 4 n5 CU).bind λCV=>((A.cell (sl 11 bA (wu s.cV p.list).1.bU)).bind λv=>some [v]).bind λAu=>(A.au 5 Au CV).bind λxK=>((A.cell (AV.ah (-1))).bind λv=>some [v]).bind λur=>(A.au 6 ur xK).bind λmF=>((A.cell (AV.ah 65535)).bind λv=>some [v]).bind λCW=>(A.au 7 CW mF).bind λCX=>((A.cell (AV.ah (-1))).bind λv=>some [v]).bind λCY=>(A.au 8 CY CX).bind λCZ=>some CZ).bind λcs=>some (AV.agg cs))=some (.agg (aV (nA s p))):=rfl
theorem apE(b:bC):(((A.cells 10 (.agg (aV b))).bind λn9=>(A.au 0 n9 [(AV.ah 0),(AV.ah 0),aR,(AV.ah 0),(AV.ah 0),AV.az,(AV.ah 0),(AV.ah 0),(AV.ah 0),AV.nm]).bind λC0=>some C0).bind λcs=>some (AV.sl 10 (gf 10 1 cs)))=some (.sl 10 [aV b]):=rfl
theorem adf(a:fk):A.au 0 (bX a) [(AV.ah 0),(AV.ah 0),(AV.ah 0),(AV.ah 0),(AV.ah 0)]=some (bX a):=rfl
theorem arB{s:iT}(hs:Jw s){id br:Nat}(H:Hs cS aJ σ (blk id (.box (iU .az br .az (nB s)))*R)):∃vb W,A.loop ((λlN vY=>
      (A.lss (aj lN 1) (AV.ah (s.cm.length:Int))).bind λx99=>
      A.cond x99 (
       (A.bh 3 (sl 3 dI s.cm) (aj lN 1)).bind λqM=>
       ((A.deref qM vY).bind λsP=>A.aC 0 3 sP).bind λx102=>
       (A.cells 3 x102).bind λAr=>
       (A.au 0 Ar [(AV.ah 0),(AV.ah 0),(AV.ah 0)]).bind λvk=>
       ((A.lb (aj lN 0)).bind λCT=>A.aC 0 5 CT).bind λqN=>
       (A.ak 1 vk).bind λoh=>
       (DU [qN,oh] vY).bind λqL=>
       (A.ext 0 qL.1).bind λqO=>
       (A.ext 1 qL.1).bind λDc=>
       (A.cells 2 qO).bind λpM=>
       (A.au 0 pM [(AV.ah 0),AV.az]).bind λGp=>
       (A.aW (AV.op id 0)).bind λx113=>
       (A.aF 0 x113).bind λx114=>
       (A.aF 0 x114).bind λx115=>
       ((A.deref x115 qL.2).bind λxJ=>A.ak 0 xJ).bind λpP=>
       (A.ak 0 vk).bind λAP=>
       (A.ak 2 vk).bind λxT=>
       (A.ak 1 Gp).bind λxU=>
       ((((A.cell AP).bind λv=>some [v]).bind λsQ=>(A.au 3 sQ [(AV.ah 0),(AV.ah 0),aR,(AV.ah 0),(AV.ah 0),AV.az,(AV.ah 0),(AV.ah 0),(AV.ah 0),AV.nm]).bind λCU=>((A.cell xT).bind λv=>some [v]).bind λn5=>(A.au 4 n5 CU).bind λCV=>((A.cell xU).bind λv=>some [v]).bind λAu=>(A.au 5 Au CV).bind λxK=>((A.cell (AV.ah (-1))).bind λv=>some [v]).bind λur=>(A.au 6 ur xK).bind λmF=>((A.cell (AV.ah 65535)).bind λv=>some [v]).bind λCW=>(A.au 7 CW mF).bind λCX=>((A.cell (AV.ah (-1))).bind λv=>some [v]).bind λCY=>(A.au 8 CY CX).bind λCZ=>some CZ).bind λcs=>some (AV.agg cs)).bind λoo=>
       (((A.cells 10 oo).bind λn9=>(A.au 0 n9 [(AV.ah 0),(AV.ah 0),aR,(AV.ah 0),(AV.ah 0),AV.az,(AV.ah 0),(AV.ah 0),(AV.ah 0),AV.nm]).bind λC0=>some C0).bind λcs=>some (AV.sl 10 (gf 10 1 cs))).bind λoq=>
       (A.append 10 (140737488355328 / 96) pP oq qL.2).bind λAM=>
       (A.aW (AV.op id 0)).bind λpQ=>
       (A.aF 0 pQ).bind λDe=>
       (A.aF 0 De).bind λDf=>
       ((A.cell AM.1).bind λv=>some [v]).bind λGs=>
       (A.storeAt Df Gs AM.2).bind λC1=>
       (A.add (aj lN 1) (AV.ah 1)).bind λpR=>
       some (AX.normal,[(aj lN 0),pR],C1)) (
       some (AX.exit 6,[(aj lN 0),(aj lN 1)],vY)))) [.lbx (bO s),.ah 0] σ=some (.exit 6,[.lbx (bO s),.ah (s.cm.length:Int)],W)∧Hs cS aJ W (blk id (.box (iU vb br .az (nB s)))*(Sl (fl aV) 10 vb (s.cm.map (nA s))*R)):=by
 suffices h:∃q,A.loop ((λlN vY=>
      (A.lss (aj lN 1) (AV.ah (s.cm.length:Int))).bind λx99=>
      A.cond x99 (
       (A.bh 3 (sl 3 dI s.cm) (aj lN 1)).bind λqM=>
       ((A.deref qM vY).bind λsP=>A.aC 0 3 sP).bind λx102=>
       (A.cells 3 x102).bind λAr=>
       (A.au 0 Ar [(AV.ah 0),(AV.ah 0),(AV.ah 0)]).bind λvk=>
       ((A.lb (aj lN 0)).bind λCT=>A.aC 0 5 CT).bind λqN=>
       (A.ak 1 vk).bind λoh=>
       (DU [qN,oh] vY).bind λqL=>
       (A.ext 0 qL.1).bind λqO=>
       (A.ext 1 qL.1).bind λDc=>
       (A.cells 2 qO).bind λpM=>
       (A.au 0 pM [(AV.ah 0),AV.az]).bind λGp=>
       (A.aW (AV.op id 0)).bind λx113=>
       (A.aF 0 x113).bind λx114=>
       (A.aF 0 x114).bind λx115=>
       ((A.deref x115 qL.2).bind λxJ=>A.ak 0 xJ).bind λpP=>
       (A.ak 0 vk).bind λAP=>
       (A.ak 2 vk).bind λxT=>
       (A.ak 1 Gp).bind λxU=>
       ((((A.cell AP).bind λv=>some [v]).bind λsQ=>(A.au 3 sQ [(AV.ah 0),(AV.ah 0),aR,(AV.ah 0),(AV.ah 0),AV.az,(AV.ah 0),(AV.ah 0),(AV.ah 0),AV.nm]).bind λCU=>((A.cell xT).bind λv=>some [v]).bind λn5=>(A.au 4 n5 CU).bind λCV=>((A.cell xU).bind λv=>some [v]).bind λAu=>(A.au 5 Au CV).bind λxK=>((A.cell (AV.ah (-1))).bind λv=>some [v]).bind λur=>(A.au 6 ur xK).bind λmF=>((A.cell (AV.ah 65535)).bind λv=>some [v]).bind λCW=>(A.au 7 CW mF).bind λCX=>((A.cell (AV.ah (-1))).bind λv=>some [v]).bind λCY=>(A.au 8 CY CX).bind λCZ=>some CZ).bind λcs=>some (AV.agg cs)).bind λoo=>
       (((A.cells 10 oo).bind λn9=>(A.au 0 n9 [(AV.ah 0),(AV.ah 0),aR,(AV.ah 0),(AV.ah 0),AV.az,(AV.ah 0),(AV.ah 0),(AV.ah 0),AV.nm]).bind λC0=>some C0).bind λcs=>some (AV.sl 10 (gf 10 1 cs))).bind λoq=>
       (A.append 10 (140737488355328 / 96) pP oq qL.2).bind λAM=>
       (A.aW (AV.op id 0)).bind λpQ=>
       (A.aF 0 pQ).bind λDe=>
       (A.aF 0 De).bind λDf=>
       ((A.cell AM.1).bind λv=>some [v]).bind λGs=>
       (A.storeAt Df Gs AM.2).bind λC1=>
       (A.add (aj lN 1) (AV.ah 1)).bind λpR=>
       some (AX.normal,[(aj lN 0),pR],C1)) (
       some (AX.exit 6,[(aj lN 0),(aj lN 1)],vY)))) [.lbx (bO s),.ah 0] σ=some q∧∃vb W,q=(.exit 6,[.lbx (bO s),.ah (s.cm.length:Int)],W)∧Hs cS aJ W (blk id (.box (iU vb br .az (nB s)))*(Sl (fl aV) 10 vb (s.cm.map (nA s))*R)) by
  obtain⟨q,e,vb,W,rfl,K⟩:=h;exact⟨vb,W,e,K⟩
 have hpl:=hs.pl;have Dx:s.cV.length≤bu:=by have:=hs.Rk;unfold bu;omega
 refine pE (λz v w=>∃(i:Nat)(vb:AV),i≤s.cm.length∧v=[.lbx (bO s),.ah (i:Int)]∧z=s.cm.length-i∧Hs cS aJ w (blk id (.box (iU vb br .az (nB s)))*(Sl (fl aV) 10 vb ((s.cm.take i).map (nA s))*R))) ?_ (n:=s.cm.length) ⟨0,.az,jQ _,rfl,rfl,eu (by ac_rfl) (uL (v:=.az) (E:=fl aV) (sz:=10) H (.inl rfl))⟩;rintro z v w ⟨i,vb,hi,rfl,hz,K⟩;by_cases h:i<s.cm.length
 ·obtain⟨x,dG⟩:∃x,x=s.cm[i]:=⟨_,rfl⟩
  have hx:s.cm[i]? =some x:=by rw[dG];exact bR h
  have hb:=(kC K).2
  have step:∃uM w',((λlN vY=>
      (A.lss (aj lN 1) (AV.ah (s.cm.length:Int))).bind λx99=>
      A.cond x99 (
       (A.bh 3 (sl 3 dI s.cm) (aj lN 1)).bind λqM=>
       ((A.deref qM vY).bind λsP=>A.aC 0 3 sP).bind λx102=>
       (A.cells 3 x102).bind λAr=>
       (A.au 0 Ar [(AV.ah 0),(AV.ah 0),(AV.ah 0)]).bind λvk=>
       ((A.lb (aj lN 0)).bind λCT=>A.aC 0 5 CT).bind λqN=>
       (A.ak 1 vk).bind λoh=>
       (DU [qN,oh] vY).bind λqL=>
       (A.ext 0 qL.1).bind λqO=>
       (A.ext 1 qL.1).bind λDc=>
       (A.cells 2 qO).bind λpM=>
       (A.au 0 pM [(AV.ah 0),AV.az]).bind λGp=>
       (A.aW (AV.op id 0)).bind λx113=>
       (A.aF 0 x113).bind λx114=>
       (A.aF 0 x114).bind λx115=>
       ((A.deref x115 qL.2).bind λxJ=>A.ak 0 xJ).bind λpP=>
       (A.ak 0 vk).bind λAP=>
       (A.ak 2 vk).bind λxT=>
       (A.ak 1 Gp).bind λxU=>
       ((((A.cell AP).bind λv=>some [v]).bind λsQ=>(A.au 3 sQ [(AV.ah 0),(AV.ah 0),aR,(AV.ah 0),(AV.ah 0),AV.az,(AV.ah 0),(AV.ah 0),(AV.ah 0),AV.nm]).bind λCU=>((A.cell xT).bind λv=>some [v]).bind λn5=>(A.au 4 n5 CU).bind λCV=>((A.cell xU).bind λv=>some [v]).bind λAu=>(A.au 5 Au CV).bind λxK=>((A.cell (AV.ah (-1))).bind λv=>some [v]).bind λur=>(A.au 6 ur xK).bind λmF=>((A.cell (AV.ah 65535)).bind λv=>some [v]).bind λCW=>(A.au 7 CW mF).bind λCX=>((A.cell (AV.ah (-1))).bind λv=>some [v]).bind λCY=>(A.au 8 CY CX).bind λCZ=>some CZ).bind λcs=>some (AV.agg cs)).bind λoo=>
       (((A.cells 10 oo).bind λn9=>(A.au 0 n9 [(AV.ah 0),(AV.ah 0),aR,(AV.ah 0),(AV.ah 0),AV.az,(AV.ah 0),(AV.ah 0),(AV.ah 0),AV.nm]).bind λC0=>some C0).bind λcs=>some (AV.sl 10 (gf 10 1 cs))).bind λoq=>
       (A.append 10 (140737488355328 / 96) pP oq qL.2).bind λAM=>
       (A.aW (AV.op id 0)).bind λpQ=>
       (A.aF 0 pQ).bind λDe=>
       (A.aF 0 De).bind λDf=>
       ((A.cell AM.1).bind λv=>some [v]).bind λGs=>
       (A.storeAt Df Gs AM.2).bind λC1=>
       (A.add (aj lN 1) (AV.ah 1)).bind λpR=>
       some (AX.normal,[(aj lN 0),pR],C1)) (
       some (AX.exit 6,[(aj lN 0),(aj lN 1)],vY)))) [.lbx (bO s),.ah (i:Int)] w=some (.normal,[.lbx (bO s),.ah ((i+1:Nat):Int)],w')∧Hs cS aJ w' (blk id (.box (iU uM br .az (nB s)))*(Sl (fl aV) 10 uM ((s.cm.take i).map (nA s)++[nA s x])*R)):=by
   have K1:=eu (show _=Sl (fl aV) 10 vb ((s.cm.take i).map (nA s))*(blk id (.box (iU vb br .az (nB s)))*R) by ac_rfl) K;have cvb:=CL K1;simp only[bW,cQ];rw[lF hx,bS,dO,kK hx,bS,qx,bS,show A.aC 0 3 (dI x)=some (.agg (dI x))from rfl,bS,show A.cells 3 (.agg (dI x))=some (dI x)from rfl,bS,show A.au 0 (dI x) [(AV.ah 0),(AV.ah 0),(AV.ah 0)]=some (dI x)from rfl,bS,jI,bS,show A.aC 0 5 (bO s)=some (.agg (bO s))from rfl,bS,show A.ak 1 (dI x)=some (.ah x.list)from rfl,bS,ZA (adS s Dx x.list),bS];simp only;rw[mo,bS,ext1,bS,show A.cells 2 (.agg (fD (wu s.cV x.list).1))=some (fD (wu s.cV x.list).1)from rfl,bS,show A.au 0 (fD (wu s.cV x.list).1) [(AV.ah 0),AV.az]=some (fD (wu s.cV x.list).1)from rfl,bS];simp only[show A.aW (.op id 0)=some (.op id 0)from rfl,bS,show A.aF 0 (.op id 0)=some (.op id 0)from rfl];rw[show((A.deref (.op id 0) w).bind λxJ=>A.ak 0 xJ)=some vb from by simp only[A.deref,hb];exact cvb,bS,show A.ak 0 (dI x)=some (.ah x.aA)from rfl,bS,show A.ak 2 (dI x)=some (.ah x.ku)from rfl,bS,TF,bS,ao8,bS,apE,bS];obtain⟨uM,w2,f1,f2⟩:=PB (most:=140737488355328 / 96) (E:=fl aV) (l:=(s.cm.take i).map (nA s)) (v:=vb) (e:=aV (nA s x)) (x:=nA s x) (R:=blk id (.box (iU vb br .az (nB s)))*R) (by rw[List.length_map,oM];omega) (eu (by rw[show fl aV (aV (nA s x)) (nA s x)=pr (aV (nA s x)=aV (nA s x))from rfl];ac_rfl) (qm.2 ⟨(rfl:aV (nA s x)=aV (nA s x)),K1⟩));rw[f1,bS];simp only;have f3:=eu (show _=blk id (.box (iU vb br .az (nB s)))*(Sl (fl aV) 10 uM ((s.cm.take i).map (nA s)++[nA s x])*R) by ac_rfl) f2;have nV:=(kC f3).2;have f4:=CC (b':=.box (iU uM br .az (nB s))) f3 trivial;rw[show((A.cell uM).bind λv=>some [v])=some [uM]from by rw[CL f2];rfl,bS,show A.storeAt (.op id 0) [uM] w2=some (w2.set id (.box (iU uM br .az (nB s))))from by simp only[A.storeAt,nV];rfl,bS,iF hx (by unfold bu;omega),bS];exact⟨uM,_,rfl,f4⟩
  obtain⟨uM,w',s1,s2⟩:=step;refine .inl ⟨s.cm.length-(i+1),_,_,by omega,s1,i+1,uM,h,rfl,rfl,?_⟩;rw[List.take_add_one,hx,Option.toList_some,List.map_append,eY,List.map_nil];exact s2
 ·have:i=s.cm.length:=by omega
  subst this;rw[List.take_length]at K;refine .inr ⟨(.exit 6,[.lbx (bO s),.ah (s.cm.length:Int)],w),?_,by simp,vb,w,rfl,K⟩;simp only[bW,cQ];rw[lR,bS,dw]
theorem adp{gD:List Sh}{r:AV→Heap→aH}{x v:AV}{σ σ':Heap}(ho:A.own x=false)(e1:A.dr gD [x]=[x])(e:r x σ=some (v,σ')):A.wrap true gD .k (A.dP r) [x] σ=some (v,σ'):=by have e2:A.dP r [x] σ=some (v,σ'):=e;simp only[A.wrap,List.any_cons,ho,List.any_nil,Bool.or_self,Bool.and_false,bG,e1,e2,cC,kF]
theorem apX{s:iT}(hs:Cw s)(h:¬Ep s=0)(σ:Heap):KT [.agg (bO s)] σ=some (.aL [.np,.ah (Ep s)],σ):=by refine adp rfl (kM (uv rfl) rfl) ?_;unfold KW;rw[show A.cells 5 (.agg (bO s))=some (bO s)from rfl,bS,show A.aC 0 5 (bO s)=some (.agg (bO s))from rfl,bS,YA (Y7 s hs),bS];simp only;rw[fW,bS,ct h,dO]
theorem aqW{s:iT}(hs:Cw s)(h:Ep s=0)(H:Hs cS aJ σ R):∃id σ',KT [.agg (bO s)] σ=some (.aL [.op id 0,.ah 0],σ')∧Hs cS aJ σ' (nu (.op id 0) (nB s)*R):=by
 suffices hh:∃id σ',KW (.agg (bO s)) σ=some (.aL [.op id 0,.ah 0],σ')∧Hs cS aJ σ' (nu (.op id 0) (nB s)*R) by obtain⟨id,σ',e,K⟩:=hh;exact⟨id,σ',adp rfl (kM (uv rfl) rfl) e,K⟩
 have hO:=aeK hs h;have hB:=hO.bd;unfold KW;rw[show A.cells 5 (.agg (bO s))=some (bO s)from rfl,bS,show A.aC 0 5 (bO s)=some (.agg (bO s))from rfl,bS,YA (Y7 s hs),bS];simp only;rw[fW,bS,bZ (λq=>q h),dw,bS,amH hB,bS];simp only;rw[show A.cells 5 (.agg (bO s))=some (bO s)from rfl,bS,show A.au 0 (bO s) (bO s)=some (bO s)from rfl,bS,show A.aC 0 5 (bO s)=some (.agg (bO s))from rfl,bS];obtain⟨br,ae7⟩:∃br,br=σ.length:=⟨_,rfl⟩
 obtain⟨id,hid⟩:∃id,id=(σ++[aS.map []]).length:=⟨_,rfl⟩
 rw[←ae7,←hid];rw[show(((A.cells 5 (.agg (bO s))).bind λfQ=>(A.au 4 fQ [AV.az,(AV.ah 0),(AV.ah 0),aR,AV.az,AV.az,AV.az,AV.az,AV.az,AV.az,AV.nm,AV.az]).bind λiJ=>((A.cell (AV.om br)).bind λv=>some [v]).bind λfE=>(A.au 10 fE iJ).bind λlI=>some lI).bind λcs=>some (AV.agg cs))=some (.agg [AV.az,(AV.ah 0),(AV.ah 0),aR,sl 3 cI s.aZ.bg,sl 4 dg s.aZ.cW,sl 3 fq s.cA,sl 2 fD s.cV,sl 3 dI s.cm,AV.az,.om br,AV.az])from rfl,bS];rw[show A.cells 12 (.agg [AV.az,(AV.ah 0),(AV.ah 0),aR,sl 3 cI s.aZ.bg,sl 4 dg s.aZ.cW,sl 3 fq s.cA,sl 2 fD s.cV,sl 3 dI s.cm,AV.az,.om br,AV.az])=some [AV.az,(AV.ah 0),(AV.ah 0),aR,sl 3 cI s.aZ.bg,sl 4 dg s.aZ.cW,sl 3 fq s.cA,sl 2 fD s.cV,sl 3 dI s.cm,AV.az,.om br,AV.az]from rfl,bS];have K0:=Jn (b:=aS.map (([]:List (aG×fu)).map jv)) H trivial;rw[←ae7]at K0;have K1:=Jn (b:=aS.box [AV.az,(AV.ah 0),(AV.ah 0),aR,sl 3 cI s.aZ.bg,sl 4 dg s.aZ.cW,sl 3 fq s.cA,sl 2 fD s.cV,sl 3 dI s.cm,AV.az,.om br,AV.az]) K0 trivial;rw[show(σ++[aS.map (([]:List (aG×fu)).map jv)]).length=id from hid.symm]at K1;have tJ:=(kC K1).2;have K2:=CC (b':=.box [AV.az,(AV.ah 0),(AV.ah 65535),aR,sl 3 cI s.aZ.bg,sl 4 dg s.aZ.cW,sl 3 fq s.cA,sl 2 fD s.cV,sl 3 dI s.cm,AV.az,.om br,AV.az]) K1 trivial;rw[List.map_nil]at tJ K2;simp only[show A.aW (.op id 0)=some (.op id 0)from rfl,bS,show A.aF 0 (.op id 0)=some (.op id 0)from rfl,show A.aF 2 (.op id 0)=some (.op id 2)from by simp [A.aF],sE];rw[show A.storeAt (.op id 2) [.ah 65535] ((σ++[aS.map []])++[aS.box [AV.az,(AV.ah 0),(AV.ah 0),aR,sl 3 cI s.aZ.bg,sl 4 dg s.aZ.cW,sl 3 fq s.cA,sl 2 fD s.cV,sl 3 dI s.cm,AV.az,.om br,AV.az]])=some (((σ++[aS.map []])++[aS.box [AV.az,(AV.ah 0),(AV.ah 0),aR,sl 3 cI s.aZ.bg,sl 4 dg s.aZ.cW,sl 3 fq s.cA,sl 2 fD s.cV,sl 3 dI s.cm,AV.az,.om br,AV.az]]).set id (.box [AV.az,(AV.ah 0),(AV.ah 65535),aR,sl 3 cI s.aZ.bg,sl 4 dg s.aZ.cW,sl 3 fq s.cA,sl 2 fD s.cV,sl 3 dI s.cm,AV.az,.om br,AV.az]))from by simp only[A.storeAt,tJ];rfl,bS];generalize (((σ++[aS.map []])++[aS.box [AV.az,(AV.ah 0),(AV.ah 0),aR,sl 3 cI s.aZ.bg,sl 4 dg s.aZ.cW,sl 3 fq s.cA,sl 2 fD s.cV,sl 3 dI s.cm,AV.az,.om br,AV.az]]).set id (.box [AV.az,(AV.ah 0),(AV.ah 65535),aR,sl 3 cI s.aZ.bg,sl 4 dg s.aZ.cW,sl 3 fq s.cA,sl 2 fD s.cV,sl 3 dI s.cm,AV.az,.om br,AV.az]))=W2 at K2 ⊢;rw[show A.aC 0 2 (bO s)=some (.agg (kE s.aZ))from rfl,bS,UD s.aZ hs.1,bS,aO hO.aZ];simp only;rw[mo,bS,ext1,bS];have nV:=(kC K2).2;have K3:=CC (b':=.box (iU .az br .az (nB s))) K2 trivial;simp only[show A.aF 9 (.op id 0)=some (.op id 9)from by simp [A.aF],bS];rw[show((A.cell (sl 2 aX (ql s.aZ))).bind λv=>some [v])=some [sl 2 aX (ql s.aZ)]from rfl,bS,show A.storeAt (.op id 9) [sl 2 aX (ql s.aZ)] W2=some (W2.set id (.box (iU .az br .az (nB s))))from by simp only[A.storeAt,nV];rfl,bS];generalize W2.set id (.box (iU .az br .az (nB s)))=W3 at K3 ⊢;rw[ZH,bS,iS,bS];obtain⟨oU,as9⟩:∃oU,oU=W3.length:=⟨_,rfl⟩
 have K4:=Jn (b:=aS.map (([]:List (ByteArray×cG)).map zb)) K3 trivial;rw[←as9]at K4 ⊢;rw[List.map_nil]at K4;obtain⟨W4,l1,K5⟩:=arz (s:=s) hB.jl K4;refine Mi l1 ?_;simp only[oT,bW,cQ,jI,bS];rw[show A.ak (0+1) (bO s)=some (sl 4 dg s.aZ.cW)from rfl,bS,iS,bS];obtain⟨W5,l2,K6⟩:=arA (s:=s) hB (id:=id) (br:=br) (oU:=oU) (cs:=iU .az br .az (nB s)) (R:=R) rfl (eu (by ac_rfl) K5);refine Mi l2 ?_;simp only[oT,bW,cQ,jI,bS];rw[show A.ak 4 (bO s)=some (sl 3 dI s.cm)from rfl,bS,iS,bS];obtain⟨vb,W6,l3,K7⟩:=arB (s:=s) hO (id:=id) (br:=br) (R:=blk br (.map ((wJ s.aZ).map jv))*(blk oU (.map ((nw s.aZ.bg).map zb))*R)) (eu (by ac_rfl) K6);refine Mi l3 ?_;simp only[oT];refine⟨id,W6,rfl,FW (vb:=vb) (br:=br) (va:=.az) rfl ?_⟩;have K8:=zX (eu (show _=blk oU (.map ((nw s.aZ.bg).map zb))*(blk id (.box (iU vb br .az (nB s)))*(Sl (fl aV) 10 vb (s.cm.map (nA s))*(blk br (.map ((wJ s.aZ).map jv))*R))) by ac_rfl) K7);have K9:=uL (v:=.az) (E:=fl bX) (sz:=5) K8 (.inl rfl);exact eu (show _=kD id vb br .az (nB s)*R by unfold kD;show _=blk id (.box (iU vb br .az (nB s)))*(Sl (fl aV) 10 vb (s.cm.map (nA s))*(blk br (.map ((wJ s.aZ).map jv))*Sl (fl bX) 5 .az []))*R;ac_rfl) K9
theorem am1(d:bJ)(a:fk):(kH d a).1.setup=d.setup∧(kH d a).1.keys=d.keys∧(kH d a).1.params=d.params:=by
 unfold kH;split
 ·exact⟨rfl,rfl,rfl⟩
 split<;>exact⟨rfl,rfl,rfl⟩
theorem am0(d:bJ)(a:fk):((kH d a).2=0∧(kH d a).1.bV=d.bV++[a])∨(kH d a).1=d:=by
 unfold kH;split
 ·exact .inr rfl
 split
 ·exact .inr rfl
 ·exact .inl ⟨rfl,rfl⟩
end
end
theorem ZX(size:Int):∀(l pre:List fu),BR size pre l=0→(∀x∈l,jS x.name (pre.map (·.name))=false)∧(l.map (·.name)).Nodup
 |[],pre,h=>⟨by simp,by simp⟩
 |x::l,pre,h=>by
  rw[BR]at h;split at h
  ·simp at h
  split at h
  ·simp at h
  rename_i h2;split at h
  ·simp at h
  split at h
  ·simp at h
  split at h
  ·simp at h
  split at h;case isFalse=>rename_i h6;exact absurd h h6
  obtain⟨q1,q2⟩:=ZX size l _ h;refine⟨λy hy=>?_,?_⟩
  ·simp only[jt]at hy;rcases hy with rfl|hy
   ·simpa using h2
   ·have:=q1 y hy;cases hc:jS y.name (pre.map (·.name))
    ·rfl
    ·rw[I4]at hc;have h3:jS y.name ((pre++[x]).map (·.name))=true:=I4.2 (by rw[List.map_append];exact jP.2 (.inl hc));rw[this]at h3;cases h3
  ·rw[eY,qt];refine⟨λhx=>?_,q2⟩;obtain⟨y,hy,e⟩:=ia.1 hx;have:=q1 y hy;have h3:jS y.name ((pre++[x]).map (·.name))=true:=I4.2 (by rw[List.map_append];exact jP.2 (.inr (by simp [e])));rw[this]at h3;cases h3
theorem ajp{r:gC}(h:jT r=0)(nm:ByteArray):((iZ nm r.bg).1.params.map (·.name)).Nodup:=by
 rw[DW];cases hf:r.bg.find? (λx:cG=>decide (x.name=nm))with
 |none=>exact List.nodup_nil
 |some p=>
  have:=OI (Lj h) p (An hf);unfold su at this
  repeat' split at this
  all_goals first|(simp at this;done)|exact(ZX _ _ _ this).2
theorem TY{α κ ν:Type}[DecidableEq κ]{f:α→κ}{g:α→ν}{k:κ}:∀(l:List α)(m:List (κ×ν)),(l.map f).Nodup→dh k (l.foldl (λm x=>eH (f x) (g x) m) m)=((l.find? (λx=>decide (f x=k))).map g).or (dh k m)
 |[],m,_=>by simp
 |x::l,m,h=>by
  rw[eY,qt]at h;rw[List.foldl_cons,TY l _ h.2,TP,List.find?_cons];by_cases e:f x=k
  ·have hn:l.find? (λx=>decide (f x=k))=none:=by rw[List.find?_eq_none];intro y hy q;exact h.1 (ia.2 ⟨y,hy,by rw[e];simpa using q⟩)
   rw[hn,aO e.symm,ct e];rfl
  ·rw[aK (λq=>e q.symm),bZ e]
theorem ZU:∀(l pre:List cG),BQ pre l=0→(∀x∈l,jS x.name (pre.map (·.name))=false)∧(l.map (·.name)).Nodup
 |[],pre,h=>⟨by simp,by simp⟩
 |x::l,pre,h=>by
  rw[BQ]at h;split at h;case isFalse=>rename_i h6;exact absurd h h6
  split at h
  ·cases h
  rename_i h2;obtain⟨q1,q2⟩:=ZU l _ h;refine⟨λy hy=>?_,?_⟩
  ·simp only[jt]at hy;rcases hy with rfl|hy
   ·simpa using h2
   ·have:=q1 y hy;rw[IP]at this ⊢;intro q;exact this (by rw[List.map_append];exact List.mem_append_left _ q)
  ·rw[eY,qt];refine⟨λq=>?_,q2⟩;obtain⟨y,hy,e⟩:=ia.1 q;have:=q1 y hy;rw[IP]at this;exact this (by rw[List.map_append,e];simp)
theorem alc{r:gC}(h:jT r=0)(u:iG):Ex (nw r.bg) u=(iZ u.gW r.bg).1.params:=by
 have hl:=Lj h
 have hn:(r.bg.map (·.name)).Nodup:=by
  unfold zc at hl;split at hl
  ·cases hl
  ·exact(ZU _ _ hl).2
 unfold Ex
 have:dh u.gW (nw r.bg)=r.bg.find? (λx:cG=>decide (x.name=u.gW)):=by unfold nw;rw[TY (f:=λp:cG=>p.name) (g:=λp:cG=>p) r.bg [] hn];cases r.bg.find? (λx:cG=>decide (x.name=u.gW))<;>rfl
 rw[this,DW];cases r.bg.find? (λx:cG=>decide (x.name=u.gW))<;>rfl
theorem alb{r:gC}(h:jT r=0)(u:iG)(m:List (aG×fu))(k:aG):dh k (JB (nw r.bg) m u)=(if u.aA=k.unit then(iZ u.gW r.bg).1.params.find? (λx=>decide (x.name=k.param))else none).or (dh k m):=by
 unfold JB;rw[alc h]
 have hn:((iZ u.gW r.bg).1.params.map (λx=>(⟨u.aA,x.name⟩:aG))).Nodup:=by have:=ajp h u.gW;exact List.pairwise_map.2 ((List.pairwise_map.1 this).imp λ{a b}q e=>q (by injection e))
 rw[TY (f:=λx:fu=>(⟨u.aA,x.name⟩:aG)) (g:=λx:fu=>x) _ m hn];congr 1;by_cases e:u.aA=k.unit
 ·rw[aO e,Option.map_id'];congr 1;funext x;refine decide_eq_decide.2 ⟨λq=>by rw[←q],λq=>?_⟩;obtain⟨a,b⟩:=k;simp only at e q;rw[e,q]
 ·rw[aK e]
  have:(iZ u.gW r.bg).1.params.find? (λx=>decide ((⟨u.aA,x.name⟩:aG)=k))=none:=by
   rw[List.find?_eq_none];intro x _ q;have q:(⟨u.aA,x.name⟩:aG)=k:=by simpa using q
   exact e (by rw[←q])
  rw[this];rfl
theorem abe{r:gC}(h:jT r=0)(k:aG):∀(l:List iG)(m:List (aG×fu)),(l.map (·.aA)).Nodup→dh k (l.foldl (JB (nw r.bg)) m)=((l.find? (λu=>decide (u.aA=k.unit))).bind λu=>(iZ u.gW r.bg).1.params.find? (λx=>decide (x.name=k.param))).or (dh k m)
 |[],m,_=>by simp
 |u::l,m,hn=>by
  rw[eY,qt]at hn;rw[List.foldl_cons,abe h k l _ hn.2,alb h,List.find?_cons];by_cases e:u.aA=k.unit
  ·have hf:l.find? (λu=>decide (u.aA=k.unit))=none:=by rw[List.find?_eq_none];intro y hy q;exact hn.1 (ia.2 ⟨y,hy,by rw[e];simpa using q⟩)
   rw[hf,aO e,ct e];rfl
  ·rw[aK e,bZ e];rfl
theorem ame{r:gC}(h:jT r=0)(k:aG):dh k (wJ r)=if(nr r k).2=true then some (nr r k).1 else none:=by
 have hs:(r.cW.map (·.aA)).Nodup:=(ZJ h).imp λq=>by omega
 unfold wJ;rw[abe h k _ _ hs]
 have key:∀(o:Option iG)(q:iG→Option fu),((o.bind q).or (dh k ([]:List (aG×fu))))=if(o.elim (CI,false) λu=>(q u).elim (CI,false) λx=>(x,true)).2=true then some (o.elim (CI,false) λu=>(q u).elim (CI,false) λx=>(x,true)).1 else none:=by
  intro o q;cases o with
  |none=>rfl
  |some u=>
   show((q u).or none)=if((q u).elim (CI,false) λx=>(x,true)).2=true then some ((q u).elim (CI,false) λx=>(x,true)).1 else none
   cases q u<;>rfl
 exact key _ _
theorem anK{d:bJ}{r:gC}(h:jT r=0)(hp:d.params=some (wJ r))(k:aG):eR d k=if(nr r k).2=true then((nr r k).1.group,(nr r k).1.default,(nr r k).1.snap)else(0,0,false):=by
 unfold eR;rw[hp,Option.getD_some,ame h];by_cases e:(nr r k).2=true
 ·rw[aO e,aO e]
 ·rw[aK e,aK e]
section
set_option maxRecDepth 100000
open HP
section
variable {aJ σ : Heap} {R R2 : HP}
end
theorem Qh(b:Bool){aJ σ:Heap}{R:HP}(H:Hs cS aJ σ R):A.fin aJ (.bool b) σ=some (.bool b,aJ):=P6 H (by simp [A.bM]) (λ_=>rfl)
theorem aqR{s:List Sh}{r:AV→AV→AV→Heap→aH}{x y z v:AV}{σ:Heap}(h:[x,y,z].any A.own=false)(e1:A.dr s [x,y,z]=[x,y,z])(e:r x y z σ=some (v,σ)):A.wrap true s .k (A.nE r) [x,y,z] σ=some (v,σ):=by refine wrap_eq h ?_ (kF _);rw[e1];exact e
end
section
set_option maxRecDepth 100000
open HP
theorem an3{a:Int}(h:0≤a∧a≤65535):tO a 65535=a:=by unfold tO;omega
end
section
set_option maxRecDepth 100000
theorem aa1{d d':bJ}{t:Int}{s s':cE}(hb:s'.aD=s.aD)(h:qn d t s=none):qn d' t s'=none:=by
 unfold qn at h ⊢;rw[hb];by_cases q:(sR t s.aD 0 (-1,0)).1<0
 ·rw[aO q]
 rw[aK q]at h ⊢;cases e:s.aD[(sR t s.aD 0 (-1,0)).1.toNat]? with
 |none=>rfl
 |some b=>
  rw[e]at h;simp only[aY]at h ⊢;cases e2:b.bU[(b.cZ+1).toNat]? with
  |none=>rfl
  |some x=>rw[e2]at h;cases h
theorem aaA{d:bJ}{t:Int}{s:cE}(h:qn d t s=none):jr d s t=s:=by
 unfold jr;cases xB s.aD with
 |zero=>rfl
 |succ n=>unfold rN;rw[h]
theorem ZN{d:bJ}(hd:sN d){t:Int}(h2:t≤36000000):∀(n:Nat){s:cE}{N:Int},jE N s→N≤t→xB s.aD≤n→qn d t (rN d t n s)=none
 |0,s,N,hs,h1,hn=>by
  rcases Lu hd hs h1 h2 with⟨_,e,_⟩|⟨f,b,x,to,tm,_,_,_,_,_,_,_,_,_,_,hl⟩
  ·exact e
  ·omega
 |n+1,s,N,hs,h1,hn=>by
  rcases Lu hd hs h1 h2 with⟨_,e,h⟩|⟨f,b,x,to,tm,_,_,_,_,_,k,_,_,e,h,hl⟩
  ·have:rN d t (n+1) s=s:=by unfold rN;rw[e]
   rw[this];exact e
  ·have:rN d t (n+1) s=rN d t n {s with aA:=IntKind.i64.wrap (s.aA+1),aD:=s.aD.set f (mX d {s with aA:=IntKind.i64.wrap (s.aA+1)} b x (to:Int) tm)}:=by
    conv=>lhs;unfold rN
    rw[e]
   rw[this];exact ZN hd h2 n h k (by show xB (s.aD.set f _)≤n;omega)
theorem aln{d:bJ}(hd:sN d){s:cE}{N t:Int}(hs:jE N s)(h1:N≤t)(h2:t≤36000000):qn d t (jr d s t)=none:=ZN hd h2 _ hs h1 (aQ _)
abbrev F3(s s':cE):Prop:=s'.l5=s.l5∧s'.black=s.black
theorem api{d:bJ}{t:Int}{s s':cE}(h:qn d t s=some s'):F3 s s':=by
 unfold qn at h;split at h
 ·cases h
 obtain⟨b,_,h⟩:=bN.1 h;obtain⟨x,_,rfl⟩:=eG.1 h;exact⟨rfl,rfl⟩
theorem aaz{d:bJ}{t:Int}:∀(n:Nat)(s:cE),F3 s (rN d t n s)
 |0,s=>⟨rfl,rfl⟩
 |n+1,s=>by
  unfold rN;split
  ·exact⟨rfl,rfl⟩
  ·rename_i s' h;have h1:=api h;have h2:=aaz (d:=d) (t:=t) n s';exact⟨h2.1.trans h1.1,h2.2.trans h1.2⟩
theorem aby(d:bJ)(s:cE)(t:Int):F3 s (jr d s t):=aaz _ s
theorem Vb(d:bJ)(s:cE)(i:Nat)(b:bC)(to t:Int):F3 s (wP d s i b to t).1:=by unfold wP;split<;>exact⟨rfl,rfl⟩
theorem ap1(d:bJ)(s:cE){a:fk}(h8:¬a.kind=8)(h9:¬a.kind=9):F3 s (kN d s a).1:=by
 unfold kN;rw[aK h8,aK h9];split
 ·exact⟨rfl,rfl⟩
 unfold Gl;split
 ·split
  ·exact⟨rfl,rfl⟩
  ·exact Vb _ _ _ _ _ _
 split
 ·split
  ·exact⟨rfl,rfl⟩
  ·exact Vb _ _ _ _ _ _
 split
 ·split
  ·exact⟨rfl,rfl⟩
  ·exact Vb _ _ _ _ _ _
 split
 ·split<;>exact⟨rfl,rfl⟩
 split
 ·split<;>exact⟨rfl,rfl⟩
 split
 ·split<;>exact⟨rfl,rfl⟩
 exact⟨rfl,rfl⟩
theorem aq5(d:bJ){a:fk}(h8:¬a.kind=8)(h9:¬a.kind=9):F3 d.state (kH d a).1.state:=by
 unfold kH;split
 ·exact⟨rfl,rfl⟩
 split
 ·exact⟨rfl,rfl⟩
 ·have h1:=aby d d.state a.time;have h2:=ap1 d (jr d d.state a.time) h8 h9;exact⟨h2.1.trans h1.1,h2.2.trans h1.2⟩
noncomputable def runM (d:bJ) (l:List fk):bJ:=l.foldl (λd a=>if a.kind=8∨a.kind=9 then d else(kH d a).1) d
theorem an2{d:bJ}(h:yZ d)(l:List fk):yZ (runM d l):=by
 unfold runM;induction l generalizing d with
 |nil=>exact h
 |cons a l ih=>
  rw[List.foldl_cons];refine ih ?_;split
  ·exact h
  ·exact P3 h a
theorem amt(d:bJ)(l:List fk):((runM d l).setup=d.setup∧(runM d l).keys=d.keys∧(runM d l).params=d.params)∧F3 d.state (runM d l).state:=by
 unfold runM;induction l generalizing d with
 |nil=>exact⟨⟨rfl,rfl,rfl⟩,rfl,rfl⟩
 |cons a l ih=>
  rw[List.foldl_cons];obtain⟨⟨h1,h2,h3⟩,h4,h5⟩:=ih (if a.kind=8∨a.kind=9 then d else(kH d a).1);by_cases q:a.kind=8∨a.kind=9
  ·rw[aO q]at h1 h2 h3 h4 h5 ⊢;exact⟨⟨h1,h2,h3⟩,h4,h5⟩
  ·rw[aK q]at h1 h2 h3 h4 h5 ⊢;obtain⟨k1,k2,k3⟩:=am1 d a;obtain⟨k4,k5⟩:=aq5 d (λe=>q (.inl e)) (λe=>q (.inr e));exact⟨⟨h1.trans k1,h2.trans k2,h3.trans k3⟩,h4.trans k4,h5.trans k5⟩
theorem asL{d:bJ}{a:fk}(hk:a.kind=8)(h:(kH d a).2=0):wN d a=0∧(kH d a).1={d with state:={jr d d.state a.time with aA:=IntKind.i64.wrap ((jr d d.state a.time).aA+1),l5:=a.level},bV:=d.bV++[a]}:=by
 unfold kH at h ⊢;have e:kN d (jr d d.state a.time) a=({jr d d.state a.time with aA:=IntKind.i64.wrap ((jr d d.state a.time).aA+1),l5:=a.level},0):=aO hk;by_cases h0:wN d a=0
 ·rw[aK (λq=>q h0),e];refine⟨h0,?_⟩;show(if ¬(0:Int)=0 then _ else _:bJ×Int).1=_;rw[aK (λq=>q rfl)]
 ·rw[aO h0]at h;exact absurd h h0
theorem asM{d:bJ}{a:fk}(hk:a.kind=9):(wN d a=0→(kH d a)=({d with state:={jr d d.state a.time with aA:=IntKind.i64.wrap ((jr d d.state a.time).aA+1),black:=decide (a.level=1)},bV:=d.bV++[a]},0))∧((kH d a).2=0→wN d a=0):=by
 unfold kH
 have e:kN d (jr d d.state a.time) a=({jr d d.state a.time with aA:=IntKind.i64.wrap ((jr d d.state a.time).aA+1),black:=decide (a.level=1)},0):=by unfold kN;rw[aK (by omega),aO hk]
 refine⟨λh0=>?_,λh=>?_⟩
 ·rw[aK (λq=>q h0),e];exact aK (λq=>q rfl)
 ·by_cases h0:wN d a=0
  ·exact h0
  ·rw[aO h0]at h;exact absurd h h0
theorem aop{d:bJ}{t:Int}(h1:0≤t∧t≤36000000)(h2:nN d.bV≤t)(h:¬(d.bV.length:Int)=5000):wN d ⟨t,9,0,0,1⟩=0:=by
 have f:D9 ⟨t,9,0,0,1⟩=0:=by unfold D9 DN;simp [bf]
 have g:ER d.setup ⟨t,9,0,0,1⟩=0:=by unfold ER DO;simp [bf]
 unfold wN;rw[f,g];have w:bf t 0 36000000=true:=DJ h1.1 h1.2;simp only[w,bZ h,bZ (show ¬t<nN d.bV by omega)];rfl
theorem adR{d:bJ}{t:Int}(h:wB d.bV t=0)(hn:qn d t d.state=none):AK d t=(d.keys.map (λk=>⟨k,iH d d.state k t⟩),0):=by unfold AK;rw[aK (λq=>q h),aaA hn]
theorem anD{d d1 d2:bJ}(hI:sN d)(hp1:d1.params=d.params)(hp2:d2.params=d.params){t m:Int}{s s1 s2:cE}(hs:jE t s)(tJ:s1.aD=s.aD)(nV:s2.aD=s.aD)(g0:s.l5=65535∧s.black=false)(g1:s1.l5=m∧s1.black=false)(g2:s2.black=true)(k:aG):
  (0≤iH d s k t∧iH d s k t≤65535)∧
  ((eR d k).1=1→iH d1 s1 k t=tO (iH d s k t) m∧iH d2 s2 k t=0)∧
  (¬(eR d k).1=1→iH d1 s1 k t=iH d s k t∧iH d2 s2 k t=iH d s k t):=by
 have e1:eR d1 k=eR d k:=by unfold eR;rw[hp1]
 have e2:eR d2 k=eR d k:=by unfold eR;rw[hp2]
 have hbd:=Vf hI (k:=k) (t:=t) (bs:=s.aD) (λb hb=>(hs.bs b hb).ok (Int.le_refl _) hs.n.2);have m1:oV d1 s1.aD k t=oV d s.aD k t:=by unfold oV;rw[tJ,e1]
 have m2:oV d2 s2.aD k t=oV d s.aD k t:=by unfold oV;rw[nV,e2]
 have h0:iH d s k t=(oV d s.aD k t).out:=by
  unfold iH;rw[g0.1,g0.2];split
  ·rfl
  ·rw[aK (by decide)];exact an3 hbd
 refine⟨by rw[h0];exact hbd,λhg=>?_,λhg=>?_⟩
 ·rw[h0];unfold iH;rw[e1,e2,m1,m2,g1.1,g1.2,g2,aK (c:=¬(eR d k).1=1) (λq=>q hg),aK (c:=¬(eR d k).1=1) (λq=>q hg),aK (show ¬(false=true) by decide),aO rfl];exact⟨rfl,rfl⟩
 ·rw[h0];unfold iH;rw[e1,e2,m1,m2,aO hg,aO hg];exact⟨rfl,rfl⟩
theorem aqH{a b:Int}(h1:0≤a)(h2:0≤b):((Mx a.toNat b.toNat:Nat):Int)=tO a b:=by obtain⟨x,rfl⟩:=Int.eq_ofNat_of_zero_le h1;obtain⟨y,rfl⟩:=Int.eq_ofNat_of_zero_le h2;unfold Mx tO;simp only[Int.toNat_natCast];rw[←Int.natCast_mul];generalize x*y=z;omega
theorem amf{d:bJ}{r:gC}(h:jT r=0)(hp:d.params=some (wJ r))(k:aG):(nr r k).1.group=(eR d k).1:=by
 rw[anK h hp];by_cases e:(nr r k).2=true
 ·rw[aO e]
 ·rw[aK e]
  have:(nr r k).1=CI:=by
   unfold nr at e ⊢;cases q:r.cW.find? (λu=>decide (u.aA=k.unit))with
   |none=>rfl
   |some u=>
    rw[q]at e;simp only[Option.elim_some]at e ⊢;unfold Ac at e ⊢;cases q2:(iZ u.gW r.bg).1.params.find? (λx=>decide (x.name=k.param))with
    |none=>rfl
    |some x=>rw[q2]at e;simp at e
  rw[this];rfl
end
section
set_option maxRecDepth 100000
open HP
theorem aqy{d:bJ}{a:fk}(h1:d.state.aD.length=1)(hk:a.kind=4)(h:(kH d a).2=0):∃b,(kH d a).1.state.aD=[b]∧b.aM.mD=true∧(kH d a).1.bV=d.bV++[a]:=by
 unfold kH at h ⊢;by_cases h0:wN d a=0;case neg=>rw[aO h0]at h;exact absurd h h0
 rw[aK (λq=>q h0)]at h ⊢;by_cases hr:(kN d (jr d d.state a.time) a).2=0;case neg=>rw[aO hr]at h;exact absurd h hr
 rw[aK (λq=>q hr)];obtain⟨s,hs⟩:∃s,s=jr d d.state a.time:=⟨_,rfl⟩
 have hl:s.aD.length=1:=by have:=congrArg List.length (Ts d d.state a.time);rw[List.length_map,List.length_map,←hs]at this;omega
 rw[←hs]at hr ⊢
 obtain⟨b,hb⟩:∃b,s.aD=[b]:=by
  cases hq:s.aD with
  |nil=>rw[hq]at hl;cases hl
  |cons b r=>
   cases r with
   |nil=>exact⟨b,rfl⟩
   |cons c r=>rw[hq]at hl;simp at hl
 have hi:(lH (λb:bC=>decide (b.aA=a.kr)) s.aD).toNat=0:=by
  rcases Bs (λb:bC=>decide (b.aA=a.kr)) s.aD with⟨q,_,_⟩|⟨k,x,q1,_,q2,_,_⟩
  ·rw[q];rfl
  ·have:=(bQ.1 q1).1;rw[q2];omega
 have hA:kN d s a=Gl d s a 0 b:=by unfold kN;rw[aK (by omega),aK (by omega),hi,hb];rfl
 rw[hA]at hr ⊢;unfold Gl at hr ⊢;rw[aK (by omega),aK (by omega),aK (by omega),aO hk]at hr ⊢;by_cases hq:b.aM.mD=true∨b.cZ<0
 ·rw[aO hq]at hr;exact absurd hr (by show ¬(10:Int)=0;decide)
 ·rw[aK hq];exact⟨_,by show s.aD.set 0 _=_;rw[hb];rfl,rfl,rfl⟩
theorem Uz{l:List fk}{t:Int}(h1:0≤t∧t≤36000000)(h2:nN l≤t):wB l t=0:=by unfold wB;rw[aO (DJ h1.1 h1.2),bZ (by omega)];rfl
end
section
set_option maxRecDepth 100000
open HP
section
variable {aJ σ : Heap} {R : HP}
theorem mq{f:aq→Heap→Option LS}{v:aq}{P:Heap→Prop}{q0:Heap→LS}(h:∃q,A.loop f v σ=some q∧∃W,q=q0 W∧P W):∃W,A.loop f v σ=some (q0 W)∧P W:=by obtain⟨q,e,W,rfl,k⟩:=h;exact⟨W,e,k⟩
theorem ml{f:aq→Heap→Option LS}{v:aq}{q0:LS}(h:∃q,A.loop f v σ=some q∧q=q0):A.loop f v σ=some q0:=by obtain⟨q,e,rfl⟩:=h;exact e
theorem al1{pd u:AV}{l:List fk}(hl:l.length≤bu){d:bJ}(hK:yZ d)(H:Hs cS aJ σ (nu pd d*R)):∃W,A.loop ((λdz jJ=>
    (A.lss (aj dz 1) (AV.ah (l.length:Int))).bind λcN=>
    A.cond cN (
     (A.bh 5 (sl 5 bX l) (aj dz 1)).bind λey=>
     ((A.deref ey jJ).bind λjf=>A.aC 0 5 jf).bind λcO=>
     (A.cells 5 cO).bind λiM=>
     (A.au 0 iM [(AV.ah 0),(AV.ah 0),(AV.ah 0),(AV.ah 0),(AV.ah 0)]).bind λfJ=>
     (A.ak 1 fJ).bind λx24=>
     (A.neq .i x24 (AV.ah 8)).bind λx25=>
     (A.guard x25 true (A.ak 1 fJ) ay).bind λiw=>
     (A.guard x25 true (A.neq .i iw (AV.ah 9)) ay).bind λeE=>
     (A.pick x25 eE aR).bind λx28=>
     (A.cond x28 (
      (A.aC 0 5 fJ).bind λdF=>
      (Fm [pd,dF] jJ).bind λqZ=>
      some ([(aj dz 0)],qZ.2)) (
      some ([(aj dz 0)],jJ))).bind λgR=>
     (A.add (aj dz 1) (AV.ah 1)).bind λx32=>
     some (AX.normal,[(aj gR.1 0),x32],gR.2)) (
     some (AX.exit 0,[(aj dz 0),(aj dz 1)],jJ)))) [u,.ah 0] σ=some (.exit 0,[u,.ah (l.length:Int)],W)∧Hs cS aJ W (nu pd (runM d l)*R):=by
 refine mq (q0:=λW=>(.exit 0,[u,.ah (l.length:Int)],W)) ?_;refine pE (λz v w=>∃(i:Nat)(e:bJ),i≤l.length∧v=[u,.ah (i:Int)]∧z=l.length-i∧runM e (l.drop i)=runM d l∧yZ e∧Hs cS aJ w (nu pd e*R)) ?_ (n:=l.length) ⟨0,d,jQ _,rfl,rfl,rfl,hK,H⟩;rintro z v w ⟨i,e,hi,rfl,hz,hT,Xy,K⟩;by_cases h:i<l.length
 ·obtain⟨x,dG⟩:∃x,x=l[i]:=⟨_,rfl⟩
  have hx:l[i]? =some x:=by rw[dG];exact bR h
  rw[List.drop_eq_getElem_cons h,←dG]at hT;have hT:runM (if x.kind=8∨x.kind=9 then e else(kH e x).1) (l.drop (i+1))=runM d l:=hT;by_cases q:x.kind=8∨x.kind=9
  ·rw[aO q]at hT;refine .inl ⟨l.length-(i+1),_,w,by omega,?_,i+1,e,h,rfl,rfl,hT,Xy,K⟩;simp only[bW,cQ];rw[lF hx,bS,dO,kK hx,bS,qx,bS,KV,bS,show A.cells 5 (.agg (bX x))=some (bX x)from rfl,bS,adf,bS,Zh,bS,fW,bS];by_cases q8:x.kind=8
   ·rw[bZ (λz=>z q8)];simp only[wO,bS,mZ,cF,bW];rw[iF hx hl,bS]
   ·have q9:x.kind=9:=by omega
    rw[ct q8];simp only[gT,bS,fW,bZ (show ¬¬x.kind=9 from λz=>z q9),mM,cF,bW];rw[iF hx hl,bS]
  ·rw[aK q]at hT;obtain⟨w',d1,d2⟩:=VJ Xy x K;refine .inl ⟨l.length-(i+1),_,w',by omega,?_,i+1,(kH e x).1,h,rfl,rfl,hT,P3 Xy x,d2⟩;simp only[bW,cQ];rw[lF hx,bS,dO,kK hx,bS,qx,bS,KV,bS,show A.cells 5 (.agg (bX x))=some (bX x)from rfl,bS,adf,bS,Zh,bS,fW,bS,ct (show ¬x.kind=8 from λz=>q (.inl z))];simp only[gT,bS,fW,ct (show ¬x.kind=9 from λz=>q (.inr z)),mM,cT,bW,KV,d1];rw[iF hx hl,bS]
 ·have:i=l.length:=by omega
  subst this;rw[List.drop_length]at hT;have hT:e=runM d l:=hT;rw[hT]at K;refine .inr ⟨(.exit 0,[u,.ah (l.length:Int)],w),?_,by simp,w,rfl,K⟩;simp only[bW,cQ];rw[lR,bS,dw]
theorem an4{a b:Int}(h1:0≤a∧a≤65535)(h2:0≤b∧b≤65535)(σ:Heap):IN [.ah a,.ah b] σ=some (.aL [.ah (tO a b),.ah 0],σ):=by show(if 0≤a∧a≤65535∧0≤b∧b≤65535 then some (AV.aL [.ah (Mx a.toNat b.toNat:Nat),.ah 0],σ)else none)=_;rw[aO ⟨h1.1,h1.2,h2.1,h2.2⟩,aqH h1.1 h2.1]
theorem anC{W:Heap}{v1 v2 v3:AV}{keys:List aG}{f0 f1 f2:aG→Int}{s:iT}{m:Int}(hk:keys.length≤bu)(h1:Ap eo 3 W v1 (keys.map λk=>⟨k,f0 k⟩)) (h2:Ap eo 3 W v2 (keys.map λk=>⟨k,f1 k⟩)) (h3:Ap eo 3 W v3 (keys.map λk=>⟨k,f2 k⟩)) (hr:BM s.aZ) (hm:0≤m∧m≤65535)
  (hkey : ∀ k, (0 ≤ f0 k ∧ f0 k ≤ 65535) ∧ ((nr s.aZ k).1.group = 1 → f1 k = tO (f0 k) m ∧ f2 k = 0) ∧ (¬ (nr s.aZ k).1.group = 1 → f1 k = f0 k ∧ f2 k = f0 k)) : A.loop ((λgn Ia =>
        (A.lss (aj gn 2) (AV.ah (keys.length:Int))).bind λx95=>
        A.cond x95 (
         (A.bh 3 v1 (aj gn 2)).bind λx96=>
         ((A.deref x96 Ia).bind λvK=>A.aC 0 3 vK).bind λx98=>
         (A.cells 3 x98).bind λvL=>
         (A.au 0 vL [(AV.ah 0),bB,(AV.ah 0)]).bind λqI=>
         (A.ak 2 qI).bind λx101=>
         ((A.lb (aj gn 0)).bind λ_=>some (0)).bind λWx=>
         ((A.lb (aj gn 0)).bind λAr=>A.aC Wx 2 Ar).bind λx104=>
         (A.aC 0 2 qI).bind λxS=>
         (KG [x104,xS] Ia).bind λnR=>
         (A.ext 0 nR.1).bind λoh=>
         (A.ext 1 nR.1).bind λGO=>
         (A.cells 7 oh).bind λLW=>
         (A.au 0 LW [bB,(AV.ah 0),(AV.ah 0),(AV.ah 0),(AV.ah 0),aR,AV.az]).bind λAs=>
         (A.ak 1 As).bind λWJ=>
         (A.eql .i WJ (AV.ah 1)).bind λx112=>
         A.cond x112 (
          (IN [x101,.ah m] nR.2).bind λlU=>
          (A.ext 0 lU.1).bind λx114=>
          (A.ext 1 lU.1).bind λx115=>
          (A.bh 3 v3 (aj gn 2)).bind λAO=>
          (A.aF 2 AO).bind λpP=>
          ((A.deref pP lU.2).bind λLY=>A.ak 0 LY).bind λxT=>
          (A.neq .i xT (AV.ah 0)).bind λxU=>
          A.cond xU (
           some (AX.ret,[(aj gn 0),aR,(aj gn 2)],lU.2)) (
           (A.bh 3 v2 (aj gn 2)).bind λvA=>
           (A.aF 2 vA).bind λDd=>
           ((A.deref Dd lU.2).bind λn5=>A.ak 0 n5).bind λtc=>
           (A.neq .i tc x114).bind λlB=>
           A.cond lB (
            some (AX.ret,[(aj gn 0),aR,(aj gn 2)],lU.2)) (
            (A.add (aj gn 2) (AV.ah 1)).bind λvB=>
            some (AX.normal,[(aj gn 0),(aj gn 1),vB],lU.2)))) (
          (A.bh 3 v3 (aj gn 2)).bind λvC=>
          ((A.deref vC nR.2).bind λmF=>A.aC 0 3 mF).bind λnT=>
          (A.aC 0 3 qI).bind λqP=>
          (A.neq (.s [0,2,0]) nT qP).bind λtd=>
          A.cond td (
           some (AX.ret,[(aj gn 0),aR,(aj gn 2)],nR.2)) (
           (A.bh 3 v2 (aj gn 2)).bind λnC=>
           (A.aF 2 nC).bind λoo=>
           ((A.deref oo nR.2).bind λn9=>A.ak 0 n9).bind λtg=>
           (A.neq .i tg x101).bind λoq=>
           A.cond oq (
            some (AX.ret,[(aj gn 0),aR,(aj gn 2)],nR.2)) (
            (A.add (aj gn 2) (AV.ah 1)).bind λth=>
            some (AX.normal,[(aj gn 0),(aj gn 1),th],nR.2))))) (
         some (AX.exit 2,[(aj gn 0),(aj gn 1),(aj gn 2)],Ia)))) [.lbx (bO s),.bool false,.ah 0] W=some (.exit 2,[.lbx (bO s),.bool false,.ah (keys.length:Int)],W):=by
 refine ml (pE (λz v w=>∃i:Nat,i≤keys.length∧v=[.lbx (bO s),.bool false,.ah (i:Int)]∧z=keys.length-i∧w=W) ?_ (n:=keys.length) ⟨0,jQ _,rfl,rfl,rfl⟩);rintro z v w ⟨i,hi,rfl,hz,rfl⟩;by_cases h:i<keys.length
 ·obtain⟨k,hkk⟩:∃k,k=keys[i]:=⟨_,rfl⟩
  have hx:keys[i]? =some k:=by rw[hkk];exact bR h
  obtain⟨hb,hg1,hg2⟩:=hkey k;have x1:(keys.map λk=>(⟨k,f0 k⟩:nK))[i]? =some ⟨k,f0 k⟩:=by rw[qH,hx];rfl
  have x2:(keys.map λk=>(⟨k,f1 k⟩:nK))[i]? =some ⟨k,f1 k⟩:=by rw[qH,hx];rfl
  have x3:(keys.map λk=>(⟨k,f2 k⟩:nK))[i]? =some ⟨k,f2 k⟩:=by rw[qH,hx];rfl
  obtain⟨i1,g1,a1,d1,-⟩:=h1.at x1;obtain⟨i2,g2,a2,d2,-⟩:=h2.at x2;obtain⟨i3,g3,a3,d3,-⟩:=h3.at x3;have ae8:=iF hx hk;refine .inl ⟨keys.length-(i+1),_,w,by omega,?_,i+1,h,rfl,rfl,rfl⟩;simp only[bW,cQ];rw[lF hx,bS,dO,a1,bS,d1,bS,List.drop_zero,Tg,bS,ai0,bS,Tq _ _ rfl,bS,ah4,bS];simp only[jI,bS];rw[show A.aC 0 2 (bO s)=some (.agg (kE s.aZ))from rfl,bS,ahp,bS,aiV s.aZ hr k w,bS];simp only;rw[mo,bS,ext1,bS,show A.cells 7 (.agg (eX (nr s.aZ k).1))=some (eX (nr s.aZ k).1)from rfl,bS,Cl _ _ rfl,bS,show A.ak 1 (eX (nr s.aZ k).1)=some (.ah (nr s.aZ k).1.group)from rfl,bS,jU,bS];by_cases hg:(nr s.aZ k).1.group=1
  ·obtain⟨e1,e2⟩:=hg1 hg;rw[ct hg,dO,an4 hb hm,bS];simp only;rw[mo,bS,ext1,bS,a3,bS,show A.aF 2 (.oe i3 g3 i 0)=some (.oe i3 g3 i 2)from rfl,bS,d3,bS,show A.ak 0 ((eo ⟨k,f2 k⟩).drop 2)=some (.ah (f2 k))from rfl,bS,fW,bS,bZ (λz=>z e2),dw,a2,bS,show A.aF 2 (.oe i2 g2 i 0)=some (.oe i2 g2 i 2)from rfl,bS,d2,bS,show A.ak 0 ((eo ⟨k,f1 k⟩).drop 2)=some (.ah (f1 k))from rfl,bS,fW,bS,bZ (λz=>z e1),dw,ae8,bS]
  ·obtain⟨e1,e2⟩:=hg2 hg;rw[bZ hg,dw,a3,bS,d3,bS,List.drop_zero,Tg,bS,Tg,bS,akm,bS,bZ (λz=>z (by rw[e2])),dw,a2,bS,show A.aF 2 (.oe i2 g2 i 0)=some (.oe i2 g2 i 2)from rfl,bS,d2,bS,show A.ak 0 ((eo ⟨k,f1 k⟩).drop 2)=some (.ah (f1 k))from rfl,bS,fW,bS,bZ (λz=>z e1),dw,ae8,bS]
 ·have:i=keys.length:=by omega
  subst this;refine .inr ⟨(.exit 2,[.lbx (bO s),.bool false,.ah (keys.length:Int)],w),?_,by simp,rfl⟩;simp only[bW,cQ];rw[lR,bS,dw]
end
theorem Vl{α β:Type}{c:α→aq}{e:β→aq}{sz sz':Nat}{B:aS→Prop}{aJ σ:Heap}{R:HP}{v w:AV}{l:List α}{m:List β}(H:Hs B aJ σ (Sl (fl c) sz v l*(Sl (fl e) sz' w m*R))):Ap e sz' σ w m:=Ly (eu (show _=Sl (fl e) sz' w m*(Sl (fl c) sz v l*R) by ac_rfl) H)
theorem gPF{α:Type}(X d:Option α):A.guard (.bool false) false X d=X:=rfl
theorem gPT{α:Type}(X d:Option α):A.guard (.bool true) true X d=X:=rfl
set_option maxHeartbeats 2000000 in
theorem agE{s:iT}{l:List fk}{m:Int}{σ:Heap}(h:Cw s∧gE Pk l):Ym [.agg (bO s),sl 5 bX l,.ah m] σ=some (.bool true,σ):=by
 obtain⟨hs,hl⟩:=h;refine aqR rfl (kM (uv rfl) rfl) ?_;unfold RT;rw[show A.cells 5 (.agg (bO s))=some (bO s)from rfl,bS,show A.aC 0 5 (bO s)=some (.agg (bO s))from rfl,bS];by_cases h0:Ep s=0
 case neg=>
  rw[apX hs h0,bS];simp only;rw[mo,bS,ext1,bS,fW,bS,ct h0];simp only[A0,gU,gT,bS,mM,mZ,cT,show A.eql .p .np .np=some (.bool true)from rfl];exact Qh true (LF (B:=cS) σ)
 obtain⟨id,W1,n1,K1⟩:=aqW hs h0 (LF (B:=cS) σ);have hO:=aeK hs h0;have hK0:=anG hO;have hK:=an2 hK0 l;rw[n1,bS];simp only;rw[mo,bS,ext1,bS,fW,bS,bZ (λq=>q rfl)];simp only[gF,wO,gU,bS,mZ,mM,cF,show A.eql .p (.op id 0) .np=some (.bool false)from rfl,iS];obtain⟨W2,l1,K2⟩:=al1 (pd:=.op id 0) (u:=.lbx (bO s)) (l:=l) hl.1 hK0 (eu (show _=nu (.op id 0) (nB s)*emp by ac_rfl) K1);refine(congrArg (λz=>Option.bind z _) l1).trans ?_;rw[bS];obtain⟨⟨hq1,vP,hq3⟩,hq4,hq5⟩:=amt (nB s) l;obtain⟨d,hd⟩:∃d,d=runM (nB s) l:=⟨_,rfl⟩
 rw[←hd]at K2 hK hq1 vP hq3 hq4 hq5;have hdk:d.keys.length≤1000000:=by rw[vP];exact al4 hO
 have hpar:d.params=some (wJ s.aZ):=hq3;have Mp:jT s.aZ=0:=hO.aZ;have t1:=ap0 hK.len K2;simp only[oT,t1,bS,bW];obtain⟨T,hT⟩:∃T,T=nN d.bV:=⟨_,rfl⟩
 rw[←hT];have hn0:0≤T∧T≤36000000:=by rw[hT];exact hK.si.n
 have z0:wB d.bV T=0:=Uz hn0 (by omega);have hsi:jE T d.state:=by rw[hT];exact hK.si
 obtain⟨st,hst⟩:∃st,st=jr d d.state T:=⟨_,rfl⟩
 have hS:jE T st:=by rw[hst];exact OR hK.di hsi (Int.le_refl _) hn0.2
 have hN:qn d T st=none:=by rw[hst];exact aln hK.di hsi (Int.le_refl _) hn0.2
 have hg:=aby d d.state T;rw[←hst]at hg;have hg1:st.l5=65535∧st.black=false:=⟨hg.1.trans hq4,hg.2.trans hq5⟩
 have L0:AK d T=(d.keys.map (λk=>⟨k,iH d st k T⟩),0):=by unfold AK;rw[aK (λq=>q z0),←hst]
 obtain⟨v1,W3,e1,K3⟩:=TQ hK hdk T K2;rw[L0]at e1 K3;rw[e1,bS];simp only;rw[mo,bS,ext1,bS,fW,bS,bZ (λq=>q rfl)];obtain⟨a,ha⟩:∃a:fk,a=⟨T,8,0,0,m⟩:=⟨_,rfl⟩
 simp only[gF,bS];rw[show((((A.cell (AV.ah 8)).bind λv=>some [v]).bind λmI=>(A.au 1 mI [(AV.ah 0),(AV.ah 0),(AV.ah 0),(AV.ah 0),(AV.ah 0)]).bind λtu=>((A.cell (.ah T)).bind λv=>some [v]).bind λG5=>(A.au 0 G5 tu).bind λAU=>((A.cell (.ah m)).bind λv=>some [v]).bind λG6=>(A.au 4 G6 AU).bind λjH=>some jH).bind λcs=>some (AV.agg cs))=some (.agg (bX a))from by rw[ha];rfl,bS];obtain⟨W4,d1,K4⟩:=VJ hK a (eu (show _=nu (.op id 0) d*(Sl (fl eo) 3 v1 (d.keys.map (λk=>⟨k,iH d st k T⟩))*emp) by ac_rfl) K3);rw[gPF,d1,bS];simp only[gF,bS,fW,mZ];by_cases hf:(kH d a).2=0
 case neg=>
  rw[ct hf,dO,jU,bS,ct rfl];exact Qh true K4
 rw[bZ (λq=>q hf),dw];obtain⟨hE,hD⟩:=asL (d:=d) (a:=a) (by rw[ha]) hf;have Hh:a.time=T:=by rw[ha]
 have Dv:a.level=m:=by rw[ha]
 rw[Hh,Dv,←hst]at hD;have J6:=P3 hK a;rw[hD]at K4 J6;obtain⟨e,he⟩:∃e,e=({d with state:={st with aA:=IntKind.i64.wrap (st.aA+1),l5:=m},bV:=d.bV++[a]}:bJ):=⟨_,rfl⟩
 rw[←he]at K4 J6;have ea:e.bV=d.bV++[a]:=by rw[he]
 have eT:nN e.bV=T:=by rw[ea];unfold nN;simp [Hh]
 have ek:e.keys=d.keys:=by rw[he]
 have ep:e.params=d.params:=by rw[he]
 have es:e.setup=d.setup:=by rw[he]
 have hm:0≤m∧m≤65535:=by obtain⟨_,q1,_,_,q2⟩:=U8 hE;have:=(U4 hK.pl q1 q2).2.2.1 (by rw[ha];show(8:Int)≠6;decide);rw[Dv]at this;exact this
 have z1:wB e.bV T=0:=Uz hn0 (by omega);have Xz:qn e T e.state=none:=aa1 (d:=d) (s:=st) (by rw[he]) hN;have L1:AK e T=(d.keys.map (λk=>⟨k,iH e e.state k T⟩),0):=by rw[adR z1 Xz,ek]
 obtain⟨v2,W5,e2,K5⟩:=TQ J6 (by rw[ek];exact hdk) T K4;rw[L1]at e2 K5;rw[e2,bS];have S2:=Ly K5;have S1:=Vl (eu (show _=Sl (fl eo) 3 v2 (d.keys.map (λk=>⟨k,iH e e.state k T⟩))*(Sl (fl eo) 3 v1 (d.keys.map (λk=>⟨k,iH d st k T⟩))*(nu (.op id 0) e*emp)) by ac_rfl) K5);have hlen:∀f:aG→Int,((d.keys.map (λk=>(⟨k,f k⟩:nK))).length:Int)=(d.keys.length:Int):=λf=>by rw[List.length_map]
 simp only;rw[mo,bS,ext1,bS,fW,bS,bZ (λq=>q rfl)];simp only[gF,bS,S1.len,S2.len,fW,hlen,not_true_eq_false,decide_false,mZ];obtain⟨b,hb⟩:∃b:fk,b=⟨T,9,0,0,1⟩:=⟨_,rfl⟩
 rw[show((((A.cell (AV.ah 9)).bind λv=>some [v]).bind λvG=>(A.au 1 vG [(AV.ah 0),(AV.ah 0),(AV.ah 0),(AV.ah 0),(AV.ah 0)]).bind λG7=>((A.cell (.ah T)).bind λv=>some [v]).bind λvH=>(A.au 0 vH G7).bind λDp=>((A.cell (AV.ah 1)).bind λv=>some [v]).bind λpV=>(A.au 4 pV Dp).bind λG8=>some G8).bind λcs=>some (AV.agg cs))=some (.agg (bX b))from by rw[hb];rfl,bS];obtain⟨W6,d2,K6⟩:=VJ J6 b (eu (show _=nu (.op id 0) e*(Sl (fl eo) 3 v2 (d.keys.map (λk=>⟨k,iH e e.state k T⟩))*(Sl (fl eo) 3 v1 (d.keys.map (λk=>⟨k,iH d st k T⟩))*emp)) by ac_rfl) K5);rw[gPF,d2,bS];simp only[gF,bS,fW,mZ];have Q4:b.time=T:=by rw[hb]
 obtain⟨q9,q9'⟩:=asM (d:=e) (a:=b) (by rw[hb]);by_cases tL:(kH e b).2=0
 case neg=>
  rw[ct tL,dO,jU,bS,ct rfl]
  have hsame:(kH e b).1=e:=by
   rcases am0 e b with⟨q,_⟩|q
   ·exact absurd q tL
   ·exact q
  rw[hsame]at K6
  have h5:(e.bV.length:Int)=5000:=by
   by_cases q:(e.bV.length:Int)=5000
   ·exact q
   ·have:=q9 (by rw[hb];exact aop hn0 (by omega) q);rw[this]at tL;exact absurd rfl tL
  obtain⟨va,W7,a1,K7⟩:=alh J6.len K6;simp only[gT,bS];rw[gPT,a1,bS];simp only[gT,bS,aea K7,jU,ct h5,mM];exact Qh true K7
 rw[bZ (λq=>q tL),dw];have Hg:=q9' tL;have Xv:=q9 Hg;have as6:jr e e.state b.time=e.state:=by rw[Q4];exact aaA Xz
 rw[as6]at Xv;have XC:decide (b.level=1)=true:=by rw[hb];rfl
 rw[XC]at Xv;have Q1:=P3 J6 b;rw[Xv]at K6 Q1;obtain⟨g,rY⟩:∃g,g=({e with state:={e.state with aA:=IntKind.i64.wrap (e.state.aA+1),black:=true},bV:=e.bV++[b]}:bJ):=⟨_,rfl⟩
 have K6:Hs cS σ W6 (nu (.op id 0) g*(Sl (fl eo) 3 v2 (d.keys.map (λk=>⟨k,iH e e.state k T⟩))*(Sl (fl eo) 3 v1 (d.keys.map (λk=>⟨k,iH d st k T⟩))*emp))):=by rw[rY];exact K6
 have Q1:yZ g:=by rw[rY];exact Q1
 have ga:g.bV=e.bV++[b]:=by rw[rY]
 have gT':nN g.bV=T:=by rw[ga];unfold nN;simp [Q4]
 have gk:g.keys=d.keys:=by rw[rY];exact ek
 have gp:g.params=d.params:=by rw[rY];exact ep
 have z2:wB g.bV T=0:=Uz hn0 (by omega);have hN2:qn g T g.state=none:=aa1 (d:=e) (s:=e.state) (by rw[rY]) Xz;have L2:AK g T=(d.keys.map (λk=>⟨k,iH g g.state k T⟩),0):=by rw[adR z2 hN2,gk]
 obtain⟨v3,W7,e3,K7⟩:=TQ Q1 (by rw[gk];exact hdk) T K6;rw[L2]at e3 K7;rw[e3,bS];have S3:=Ly K7;have S2:=Vl (eu (show _=Sl (fl eo) 3 v3 (d.keys.map (λk=>⟨k,iH g g.state k T⟩))*(Sl (fl eo) 3 v2 (d.keys.map (λk=>⟨k,iH e e.state k T⟩))*(nu (.op id 0) g*(Sl (fl eo) 3 v1 (d.keys.map (λk=>⟨k,iH d st k T⟩))*emp))) by ac_rfl) K7);have S1:=Vl (eu (show _=Sl (fl eo) 3 v3 (d.keys.map (λk=>⟨k,iH g g.state k T⟩))*(Sl (fl eo) 3 v1 (d.keys.map (λk=>⟨k,iH d st k T⟩))*(nu (.op id 0) g*(Sl (fl eo) 3 v2 (d.keys.map (λk=>⟨k,iH e e.state k T⟩))*emp))) by ac_rfl) K7);simp only;rw[mo,bS,ext1,bS,fW,bS,bZ (λq=>q rfl)];simp only[gF,bS,S1.len,S3.len,fW,hlen,not_true_eq_false,decide_false,mZ,cF]
 have hcmp:=anC (s:=s) (m:=m) (keys:=d.keys) (by unfold bu;omega) S1 S2 S3 hs.1 hm (λk=>by
  rw[amf Mp hpar k]
  exact anD hK.di ep gp hS (by rw[he]) (by rw[rY,he]) hg1 ⟨by rw[he],by rw[he];exact hg1.2⟩ (by rw[rY]) k)
 refine(congrArg (λz=>Option.bind z _) hcmp).trans ?_;rw[bS];simp only[oT];exact Qh true K7
theorem agF(s:iT)(l:List fk)(m:Int)(hs:Cw s)(hl:gE Pk l)(_:aU m):Cw s∧gE Pk l:=⟨hs,hl⟩
end
section
open Go.ChangeShapes Go.WideShapes Go.ChangeAt Go.RowKit
theorem own:ownKnob Tryz.prog.godebug=none:=by kernel_rfl
theorem laidOut:laidOutB Tryz.prog=true:=by kernel_rfl
theorem Y6{H:Type}{enc:TypeId×Value→H}{P:Program}(hl:laidOutB P=true){W W':World}(hb:Below W.heap.size W W'):
  ∀{ts:List TypeId}{vs:List Value}{ds:List (DataW H)}{ps:List MemPlace},(ts.all λt=>P.readableRec t&&decide (t<P.types.size))=true→
   DataW.TrodAll enc P W 0 (λ_=>true) true ts vs ds ps→(∀x∈ps,x.block<W.heap.size)→DataW.TrodAll enc P W' 0 (λb=>decide (b<W.heap.size)) true ts vs ds ps
 |[],[],[],_,_,h,_=>h
 |t::ts,v::vs,d::ds,ps,hts,h,hlt=>by
  obtain⟨p,q,h1,h2,rfl⟩:=h;simp only[List.all_cons,jC,decide_eq_true_eq]at hts
  exact⟨p,q,Below.trod hl hts.1.1 hts.1.2 h1 hb (λx hx=>hlt x (List.mem_append_left _ hx)),
   Y6 hl hb (by simpa using hts.2) h2 (λx hx=>hlt x (List.mem_append_right _ hx)),rfl⟩
 |[],_::_,_,_,_,h,_=>h.elim
 |[],[],_::_,_,_,h,_=>h.elim
 |_::_,[],_,_,_,h,_=>h.elim
 |_::_,_::_,[],_,_,h,_=>h.elim
theorem anr{H:Type}{enc:TypeId×Value→H}{f:Func}{s:ChangeSpec}{W W':World}{args:Array Value}{ds gs:List (DataW H)}{before:List MemPlace}{t:TypeId}
  (hts:(f.params.toList.all λt=>Tryz.prog.readableRec t&&decide (t<Tryz.prog.types.size))=true) (Dz:f.resultTypes=#[t]) (ht:Tryz.prog.underlying t=some .bool) (hvs:s.vars=[])
  (hW:DataW.Whole enc Tryz.prog f.params.toList s.vars false W args.toList ds gs before) (hb:Below W.heap.size W W')
  (VA:s.fn H (ds++gs)={results:=[.lit (.bool true)],args:=ds}):
  s.post enc Tryz.prog f false true false false W args (.bool true) W':=by
 have Q3:=hW;obtain⟨p,q,hA,hV,rfl,hfz,hnd⟩:=hW;have hlt:∀x∈p++q,x.block<W.heap.size:=λx hx=>Q3.lt x hx
 refine⟨ds,gs,p++q,[],p,[],Q3,?_,?_,?_,hb.frame _,λh=>by cases h⟩
 ·rw[VA,Dz];exact trodAll_cons_mk (shut_bool ht _) trodAll_mk0
 ·rw[VA];exact Y6 laidOut hb hts hA (λx hx=>hlt x (List.mem_append_left _ hx))
 ·rw[VA,hvs];exact rfl
end
section
open Go.RowKit Go.Deep
section
variable {c : RC}
theorem wg:aP c [] []:=by simp [aP]
theorem eW{a:AV}{v:Value}{l:aq}{vs:List Value}(h:an c a v)(k:aP c l vs):aP c (a::l) (v::vs):=by simp only[aP];exact⟨v,vs,rfl,h,k⟩
theorem jA(k:IntKind)(n:Int):an c (.int k n) (.int k n):=by simp [an]
theorem Pn(b:Bool):an c (.bool b) (.bool b):=by simp [an]
theorem Eg(s:ByteArray):an c (.str s) (.string s):=by simp [an]
def RP{α:Type}(c:RC)(d:cz α)(e:α→aq)(ok:α→Prop):Prop:=∀cs x,d.is c.w cs x→aP c (e x) cs∧ok x∧(∀v∈cs,ff v=true)
theorem ack:∀{l:aq}{vs:List Value},aP c l vs→l.length=vs.length
 |[],vs,h=>by simp only[aP]at h;subst h;rfl
 |a::l,vs,h=>by simp only[aP]at h;obtain⟨v,vs',rfl,_,h⟩:=h;simp [ack h]
theorem aci{b:Nat}:∀{l:aq}{vs:List Value}{off:Nat},aP c l vs→(∀v∈vs,ff v=true)→(∀j,j<vs.length→c.w.cell? ⟨b,off+j,none⟩=vs[j]?)→bL c b off l
 |[],vs,off,h,_,_=>by simp [bL]
 |a::l,vs,off,h,ho,hc=>by simp only[aP]at h;obtain⟨v,vs',rfl,h1,h2⟩:=h;simp only[bL];refine⟨⟨v,by simpa using hc 0 (by simp),ho v (by simp),h1⟩,aci h2 (λv hv=>ho v (by simp [hv])) λj hj=>?_⟩;have:=hc (j+1) (by simpa using hj);rw[show off+1+j=off+(j+1) by omega];simpa using this
theorem acj{α:Type}{d:cz α}{e:α→aq}{ok:α→Prop}(H:RP c d e ok){b sz:Nat}(hsz:d.size=sz):∀{l:List α}{off:Nat},(∀(i:Nat)(x:α),l[i]? =some x→∃cs',(∀j,j<d.size→c.w.cell? ⟨b,off+(i*d.size+j),none⟩=cs'[j]?)∧d.is c.w cs' x)→bP c sz b off (l.map e)∧∀x∈l,ok x
 |[],off,h=>by simp [bP]
 |x::l,off,h=>by
  obtain⟨cs,h1,h2⟩:=h 0 x rfl;obtain⟨k1,k2,k3⟩:=H cs x h2;have hl:cs.length=d.size:=d.len h2
  obtain⟨r1,r2⟩:=acj H hsz (l:=l) (off:=off+sz) (λi y hy=>by
   obtain⟨cs',q1,q2⟩:=h (i+1) y (by simpa using hy);refine⟨cs',λj hj=>?_,q2⟩;have:=q1 j hj;rw[←hsz]
   rwa[show off+d.size+(i*d.size+j)=off+((i+1)*d.size+j) by rw[Nat.succ_mul];omega])
  refine⟨?_,λy hy=>?_⟩
  ·simp only[eY,bP];refine⟨by rw[ack k1,hl,hsz],aci k1 k3 λj hj=>?_,r1⟩;have:=h1 j (by rw[←hl];exact hj);simpa using this
  ·rcases jt.1 hy with rfl|hy
   ·exact k2
   ·exact r2 y hy
theorem aow{w:World}{b off:Nat}{v:Value}(h:w.cell? ⟨b,off,none⟩=some v):b<w.heap.size:=by
 rcases Nat.lt_or_ge b w.heap.size with k|k
 ·exact k
 ·simp [World.cell?,Array.getElem?_eq_none k]at h
theorem yJ{α:Type}{d:cz α}{e:α→aq}{ok:α→Prop}(hX:∀b,¬c.X b)(H:RP c d e ok){sz:Nat}(hsz:d.size=sz)(h0:0<sz){v:Value}{l:List α}(h:(cK d).is c.w [v] l):an c (sl sz e l) v∧gE ok l∧ff v=true:=by
 rcases h with⟨h1,rfl⟩|⟨b,off,sp,cap,h1,h2,h3,h4⟩
 ·simp only[List.cons.injEq,and_true]at h1;subst h1;exact⟨by simp [sl,an,h0],⟨by simp,by simp⟩,rfl⟩
 ·simp only[List.cons.injEq,and_true]at h1;subst h1
  have A7:sp=none∨l=[]:=by
   cases l with
   |nil=>exact .inr rfl
   |cons x l=>exact .inl (h4 0 (by simp)).1
  have hh:∀(i:Nat)(x:α),l[i]? =some x→∃cs',(∀j,j<d.size→c.w.cell? ⟨b,off+(i*d.size+j),none⟩=cs'[j]?)∧d.is c.w cs' x:=by intro i x hx;obtain⟨hi,hx⟩:=bQ.1 hx;subst hx;exact(h4 i hi).2
  obtain⟨r1,r2⟩:=acj H hsz hh;refine⟨?_,⟨by unfold maxLen at h3;unfold bu;omega,r2⟩,rfl⟩;simp only[sl,an];refine⟨some ⟨b,off,sp⟩,cap,by simp,by simpa using h2,h0,?_⟩;rcases A7 with rfl|rfl
  ·cases l with
   |nil=>exact .inl rfl
   |cons x l=>
    refine .inr ⟨b,off,rfl,?_,hX b,r1⟩;obtain⟨cs,q1,q2⟩:=hh 0 x rfl;have hl:cs.length=d.size:=d.len q2;have:=q1 0 (by omega);obtain⟨y,hy⟩:∃y,cs[0]? =some y:=⟨cs[0],bR (by omega)⟩
    rw[hy]at this;exact aow this
  ·exact .inl rfl
theorem xq:∀v∈([]:List Value),ff v=true:=by simp
theorem fB{v:Value}{vs:List Value}(h:ff v=true)(k:∀x∈vs,ff x=true):∀x∈v::vs,ff x=true:=by
 intro x hx;rcases jt.1 hx with rfl|hx
 ·exact h
 ·exact k x hx
theorem anZ:RP c Ad jB acZ:=by rintro cs x ⟨rfl,h0,h1⟩;exact⟨(eW (jA _ _) (eW (jA _ _) wg)),⟨h0,h1⟩,(fB rfl (fB rfl xq))⟩
theorem an0:RP c CG pI UX:=by rintro cs x ⟨rfl,h0,h1,h2⟩;exact⟨(eW (jA _ _) (eW (jA _ _) (eW (Eg _) wg))),⟨h0,h1,(show kS _ by unfold kS bu;have:=h2;unfold maxLen at this;omega)⟩,(fB rfl (fB rfl (fB rfl xq)))⟩
theorem anY(hX:∀b,¬c.X b):RP c CF eX acY:=by rintro cs x ⟨v0,rfl,h0,h1,h2,h3,h4,h6⟩;obtain⟨r6,o6,n6⟩:=yJ hX an0 (sz:=3) rfl (by decide) h6;exact⟨(eW (Eg _) (eW (jA _ _) (eW (jA _ _) (eW (jA _ _) (eW (jA _ _) (eW (Pn _) (eW r6 wg))))))),⟨(show kS _ by unfold kS bu;have:=h0;unfold maxLen at this;omega),h1,h2,h3,h4,o6⟩,(fB rfl (fB rfl (fB rfl (fB rfl (fB rfl (fB rfl (fB n6 xq)))))))⟩
theorem akN(hX:∀b,¬c.X b):RP c zU cI KY:=by rintro cs x ⟨v0,rfl,h0,h1,h2⟩;obtain⟨r2,o2,n2⟩:=yJ hX (anY hX) (sz:=7) rfl (by decide) h2;exact⟨(eW (Eg _) (eW (jA _ _) (eW r2 wg))),⟨(show kS _ by unfold kS bu;have:=h0;unfold maxLen at this;omega),h1,o2⟩,(fB rfl (fB rfl (fB n2 xq)))⟩
theorem apI:RP c Al dg adZ:=by rintro cs x ⟨rfl,h0,h1,h2,h3⟩;exact⟨(eW (jA _ _) (eW (Eg _) (eW (jA _ _) (eW (jA _ _) wg)))),⟨h0,(show kS _ by unfold kS bu;have:=h1;unfold maxLen at this;omega),h2,h3⟩,(fB rfl (fB rfl (fB rfl (fB rfl xq))))⟩
theorem akO:RP c Cp eo aa4:=by rintro cs x ⟨rfl,h0,h1,h2⟩;exact⟨(eW (jA _ _) (eW (Eg _) (eW (jA _ _) wg))),⟨⟨h0,(show kS _ by unfold kS bu;have:=h1;unfold maxLen at this;omega)⟩,h2⟩,(fB rfl (fB rfl (fB rfl xq)))⟩
theorem ams(hX:∀b,¬c.X b):RP c Cx fq Co:=by rintro cs x ⟨v0,rfl,h0,h1,h2⟩;obtain⟨r2,o2,n2⟩:=yJ hX akO (sz:=3) rfl (by decide) h2;exact⟨(eW (jA _ _) (eW (Eg _) (eW r2 wg))),⟨h0,(show kS _ by unfold kS bu;have:=h1;unfold maxLen at this;omega),o2⟩,(fB rfl (fB rfl (fB n2 xq)))⟩
theorem apH:RP c CP gZ Qa:=by rintro cs x ⟨rfl,h0,h1,h2,h3,h6,h7⟩;exact⟨(eW (jA _ _) (eW (Eg _) (eW (jA _ _) (eW (jA _ _) (eW (Pn _) (eW (Pn _) (eW (jA _ _) (eW (jA _ _) wg)))))))),⟨⟨h0,(show kS _ by unfold kS bu;have:=h1;unfold maxLen at this;omega)⟩,⟨h2,h3⟩,h6,h7⟩,(fB rfl (fB rfl (fB rfl (fB rfl (fB rfl (fB rfl (fB rfl (fB rfl xq))))))))⟩
theorem aqE(hX:∀b,¬c.X b):RP c C5 bA Ew:=by rintro cs x ⟨v0,v1,rfl,h0,h1,h2,h3,h4,h5,h6,h7,h9,Xr⟩;obtain⟨r7,o7,n7⟩:=yJ hX anZ (sz:=2) rfl (by decide) h7;obtain⟨mN,o10,n10⟩:=yJ hX apH (sz:=8) rfl (by decide) Xr;exact⟨(eW (jA _ _) (eW (Eg _) (eW (jA _ _) (eW (jA _ _) (eW (jA _ _) (eW (jA _ _) (eW (jA _ _) (eW r7 (eW (Pn _) (eW (jA _ _) (eW mN wg))))))))))),⟨h0,(show kS _ by unfold kS bu;have:=h1;unfold maxLen at this;omega),h2,h3,h4,h5,⟨h6,o7⟩,h9,o10⟩,(fB rfl (fB rfl (fB rfl (fB rfl (fB rfl (fB rfl (fB rfl (fB n7 (fB rfl (fB rfl (fB n10 xq)))))))))))⟩
theorem apG(hX:∀b,¬c.X b):RP c CN fD adY:=by rintro cs x ⟨v0,rfl,h0,h1⟩;obtain⟨r1,o1,n1⟩:=yJ hX (aqE hX) (sz:=11) rfl (by decide) h1;exact⟨(eW (jA _ _) (eW r1 wg)),⟨h0,o1⟩,(fB rfl (fB n1 xq))⟩
theorem ajA:RP c Cj dI Z7:=by rintro cs x ⟨rfl,h0,h1,h2⟩;exact⟨(eW (jA _ _) (eW (jA _ _) (eW (jA _ _) wg))),⟨h0,h1,h2⟩,(fB rfl (fB rfl (fB rfl xq)))⟩
theorem an1(hX:∀b,¬c.X b):RP c ad9 bO Cw:=by rintro cs x ⟨v0,v1,v2,v3,v4,rfl,h0,h1,h2,h3,h4⟩;obtain⟨r0,o0,n0⟩:=yJ hX (akN hX) (sz:=3) rfl (by decide) h0;obtain⟨r1,o1,n1⟩:=yJ hX apI (sz:=4) rfl (by decide) h1;obtain⟨r2,o2,n2⟩:=yJ hX (ams hX) (sz:=3) rfl (by decide) h2;obtain⟨r3,o3,n3⟩:=yJ hX (apG hX) (sz:=2) rfl (by decide) h3;obtain⟨r4,o4,n4⟩:=yJ hX ajA (sz:=3) rfl (by decide) h4;exact⟨(eW r0 (eW r1 (eW r2 (eW r3 (eW r4 wg))))),⟨⟨o0,o1⟩,o2,o3,o4⟩,(fB n0 (fB n1 (fB n2 (fB n3 (fB n4 xq)))))⟩
theorem amr:RP c PA bX Pk:=by rintro cs x ⟨rfl,h0,h1,h2,h3,h4⟩;exact⟨(eW (jA _ _) (eW (jA _ _) (eW (jA _ _) (eW (jA _ _) (eW (jA _ _) wg))))),⟨h0,h1,h2,h3,h4⟩,(fB rfl (fB rfl (fB rfl (fB rfl (fB rfl xq)))))⟩
theorem aqF{α:Type}{d:cz α}{e:α→aq}{ok:α→Prop}(H:RP c d e ok){cs:Array Value}{x:α}(h:d.is c.w cs.toList x):an c (.agg (e x)) (.agg cs)∧ok x:=by obtain⟨h1,h2,h3⟩:=H _ _ h;simp only[an];exact⟨⟨cs,rfl,h1,h3⟩,h2⟩
end
end
section
open Go.RowKit
noncomputable def base (W:World):RC:=ctx ⟨W,[],λ_=>False,aN⟩ W [] dS
theorem adv(W:World):∀b,¬(base W).X b:=by
 rintro b (k|⟨p,hp,_⟩|⟨i,k⟩)
 ·exact k
 ·cases hp
 ·cases k
theorem ao6{n:FuncId}{m:aq→Heap→aH}{qw:aq}(hs:Sound Tryz.prog aN n m)(hc:∀us w,(callFunc n us).run Tryz.prog w=.ok (.enter n us) w)(W:World)(vs:Array Value)(hr:aP (base W) qw vs.toList)(hm:m qw []=some (.bool true,[])):
  Calls Tryz.prog n vs W λe W'=>e=.returned (.bool true)∧Below W.heap.size W W':=by
 have hh0:jO (ctx ⟨W,[],λ_=>False,aN⟩ W [] dS) []:=by
  refine⟨rfl,λi j p q hp=>?_,λi p x hp=>?_⟩
  ·simp [ctx]at hp
  ·simp [ctx]at hp
 rcases hs _ _ _ _ hm with⟨g,h1,h2⟩|hv
 case inr=>
  obtain⟨v,w',E',k1,_⟩:=hv ⟨W,[],λ_=>False,aN⟩ vs rfl (λb k=>k.elim) hh0 hr;rw[hc]at k1;injection k1 with k1
  cases k1
 have hg:g=n:=by
  have e1:=h1 #[] W;rw[hc #[] W]at e1;injection e1 with e1
  injection e1 with e1
  exact e1.symm
 subst hg
 have hh:jO (ctx ⟨W,[],λ_=>False,aN⟩ W [] dS) []:=by
  refine⟨rfl,λi j p q hp=>?_,λi p x hp=>?_⟩
  ·simp [ctx]at hp
  ·simp [ctx]at hp
 refine(h2 ⟨W,[],λ_=>False,aN⟩ vs rfl (λb k=>k.elim) hh hr).mono ?_;rintro e w' ⟨v,E',rfl,ho,_,hv⟩;simp only[an]at hv;subst hv;exact⟨rfl,ho.os,ho.tape,ho.output,ho.size,λk hk=>ho.stay k hk (λp hp=>by cases hp)⟩
end
end Go.Proofs.YtooknfkholjpbaaGreat
