/- Parts of the proof of PickUnitsAreUnits, in order. -/
import Derived.Lib.SmallJoins
import Derived.Deep.DeepHandedRow
import Derived.Test.YtkdafecbdncmiaaDoorKPickUnitsAreUnits4
namespace Go.Proofs.YtkdafecbdncmiaaDoor
set_option linter.unusedVariables false
set_option linter.unusedSimpArgs false
set_option linter.unusedSectionVars false
set_option maxRecDepth 1000000
noncomputable section
open IntKind renaming i64->Ξ
open Option renaming none->η,some->δ
open Nat renaming le_trans->o8
open Bool renaming true->ι,false->θ
open List renaming take_append_drop->WD,mem_append_left->Z0,sum_cons->X2,all_cons->amm
section
open Go.RowKit Go.Deep
theorem fF.imp{F:Nat->Prop}{P:Program}{α β:Type}{c:cR α}{d:cR β}{t:TypeId}(h:fF F P c t)(k:∀w cs a,c.is w cs a->∃b,d.is w cs b/\d.bM b<=c.bM a):fF F P d t:=by intro H enc w base spare held fuel cs x hF h1;obtain⟨a,ha,hb⟩:=h hF h1;obtain⟨b,h2,h3⟩:=k _ _ _ ha;exact⟨b,h2,o8 h3 hb⟩
theorem jm{α:Type}{cs a b:List α}{n:Nat}(h1:cs.take n=a)(h2:cs.drop n=b):cs=a++b:=by rw[<-h1,<-h2,WD]
def uz:cR mF where
 size:=3
 is:=λw cs x=>cs=[.int Ξ x.low,.int Ξ x.high,.string x.name]/\bA x.low/\bA x.high/\x.name.size<=maxLen
 len:=λh=>by obtain⟨rfl,_⟩:=h;rfl
 mono:=λh _=>h
 bM:=λx=>ep.bM x.low+(ep.bM x.high+(pe.bM x.name))
theorem YG:Reads Tryd.prog uz 176:=
 (Im (F:=λ_=>True) Tryd.underlying176 (c0:=ep) (c1:=ep) (c2:=pe) (by kernel_rfl) rfl rfl rfl (by kernel_rfl) (by kernel_rfl) (by kernel_rfl) (lK Tryd.underlying3) (lK Tryd.underlying3) (Ah Tryd.underlying9)).imp λw cs a h=>by obtain⟨a0,a1,a2⟩:=a;obtain⟨h0,h1,h2⟩:=h;obtain⟨e0,b0⟩:=h0;obtain⟨e1,b1⟩:=h1;obtain⟨e2,b2⟩:=h2;have sk:=jm e1 e2;have lY:=jm e0 sk;exact⟨⟨a0,a1,a2⟩,⟨by rw[lY];rfl,b0,b1,b2⟩,bJ _⟩
theorem aj2:Reads Tryd.prog (cW uz) 150:=vN Tryd.underlying150 (c:=uz) (by kernel_rfl) (by decide) YG
def uy:cR gY where
 size:=7
 is:=λw cs x=>∃v0:Value,cs=[.string x.name,.int Ξ x.group,.int Ξ x.mj,.int Ξ x.kW,.int Ξ x.default,.bool x.snap,v0]/\x.name.size<=maxLen/\bA x.group/\bA x.mj/\bA x.kW/\bA x.default/\(cW uz).is w [v0] x.ranges
 len:=λh=>by obtain⟨v0,rfl,_⟩:=h;rfl
 mono:=λ{w w' cs x}h g=>by obtain⟨v0,e,h0,h1,h2,h3,h4,h5⟩:=h;exact⟨v0,e,h0,h1,h2,h3,h4,((cW uz)).mono h5 g⟩
 bM:=λx=>pe.bM x.name+(ep.bM x.group+(ep.bM x.mj+(ep.bM x.kW+(ep.bM x.default+(Gh.bM x.snap+((cW uz).bM x.ranges))))))
theorem YF:Reads Tryd.prog uy 152:=
 (XH (F:=λ_=>True) Tryd.underlying152 (c0:=pe) (c1:=ep) (c2:=ep) (c3:=ep) (c4:=ep) (c5:=Gh) (c6:=(cW uz)) (by kernel_rfl) rfl rfl rfl rfl rfl rfl rfl (by kernel_rfl) (by kernel_rfl) (by kernel_rfl) (by kernel_rfl) (by kernel_rfl) (by kernel_rfl) (by kernel_rfl) (Ah Tryd.underlying9) (lK Tryd.underlying3) (lK Tryd.underlying3) (lK Tryd.underlying3) (lK Tryd.underlying3) (ain Tryd.underlying4) aj2).imp λw cs a h=>by obtain⟨a0,a1,a2,a3,a4,a5,a6⟩:=a;obtain⟨h0,h1,h2,h3,h4,h5,h6⟩:=h;obtain⟨e0,b0⟩:=h0;obtain⟨e1,b1⟩:=h1;obtain⟨e2,b2⟩:=h2;obtain⟨e3,b3⟩:=h3;obtain⟨e4,b4⟩:=h4;have e5:=h5;simp only[Gh]at e5;obtain⟨s6,e6⟩:=tv.1 (((cW uz)).len h6);rw[e6]at h6;have afH:=jm e5 e6;have afG:=jm e4 afH;have afF:=jm e3 afG;have CJ:=jm e2 afF;have sk:=jm e1 CJ;have lY:=jm e0 sk;exact⟨⟨a0,a1,a2,a3,a4,a5,a6⟩,⟨s6,by rw[lY];rfl,b0,b1,b2,b3,b4,h6⟩,bJ _⟩
theorem akn:Reads Tryd.prog (cW uy) 126:=vN Tryd.underlying126 (c:=uy) (by kernel_rfl) (by decide) YF
def uu:cR cO where
 size:=3
 is:=λw cs x=>∃v0:Value,cs=[.string x.name,.int Ξ x.size,v0]/\x.name.size<=maxLen/\bA x.size/\(cW uy).is w [v0] x.params
 len:=λh=>by obtain⟨v0,rfl,_⟩:=h;rfl
 mono:=λ{w w' cs x}h g=>by obtain⟨v0,e,h0,h1,h2⟩:=h;exact⟨v0,e,h0,h1,((cW uy)).mono h2 g⟩
 bM:=λx=>pe.bM x.name+(ep.bM x.size+((cW uy).bM x.params))
theorem XF:Reads Tryd.prog uu 128:=
 (Im (F:=λ_=>True) Tryd.underlying128 (c0:=pe) (c1:=ep) (c2:=(cW uy)) (by kernel_rfl) rfl rfl rfl (by kernel_rfl) (by kernel_rfl) (by kernel_rfl) (Ah Tryd.underlying9) (lK Tryd.underlying3) akn).imp λw cs a h=>by obtain⟨a0,a1,a2⟩:=a;obtain⟨h0,h1,h2⟩:=h;obtain⟨e0,b0⟩:=h0;obtain⟨e1,b1⟩:=h1;obtain⟨s2,e2⟩:=tv.1 (((cW uy)).len h2);rw[e2]at h2;have sk:=jm e1 e2;have lY:=jm e0 sk;exact⟨⟨a0,a1,a2⟩,⟨s2,by rw[lY];rfl,b0,b1,h2⟩,bJ _⟩
theorem Xq:Reads Tryd.prog (cW uu) 30:=vN Tryd.underlying30 (c:=uu) (by kernel_rfl) (by decide) XF
def uE:cR dZ where
 size:=4
 is:=λw cs x=>cs=[.int Ξ x.aI,.string x.gM,.int Ξ x.univ,.int Ξ x.address]/\bA x.aI/\x.gM.size<=maxLen/\bA x.univ/\bA x.address
 len:=λh=>by obtain⟨rfl,_⟩:=h;rfl
 mono:=λh _=>h
 bM:=λx=>ep.bM x.aI+(pe.bM x.gM+(ep.bM x.univ+(ep.bM x.address)))
theorem Zt:Reads Tryd.prog uE 42:=
 (Oy (F:=λ_=>True) Tryd.underlying42 (c0:=ep) (c1:=pe) (c2:=ep) (c3:=ep) (by kernel_rfl) rfl rfl rfl rfl (by kernel_rfl) (by kernel_rfl) (by kernel_rfl) (by kernel_rfl) (lK Tryd.underlying3) (Ah Tryd.underlying9) (lK Tryd.underlying3) (lK Tryd.underlying3)).imp λw cs a h=>by obtain⟨a0,a1,a2,a3⟩:=a;obtain⟨h0,h1,h2,h3⟩:=h;obtain⟨e0,b0⟩:=h0;obtain⟨e1,b1⟩:=h1;obtain⟨e2,b2⟩:=h2;obtain⟨e3,b3⟩:=h3;have CJ:=jm e2 e3;have sk:=jm e1 CJ;have lY:=jm e0 sk;exact⟨⟨a0,a1,a2,a3⟩,⟨by rw[lY];rfl,b0,b1,b2,b3⟩,bJ _⟩
theorem YH:Reads Tryd.prog (cW uE) 31:=vN Tryd.underlying31 (c:=uE) (by kernel_rfl) (by decide) Zt
def UF:cR cS where
 size:=2
 is:=λw cs x=>∃v0 v1:Value,cs=[v0,v1]/\(cW uu).is w [v0] x.cB/\(cW uE).is w [v1] x.eZ
 len:=λh=>by obtain⟨v0,v1,rfl,_⟩:=h;rfl
 mono:=λ{w w' cs x}h g=>by obtain⟨v0,v1,e,h0,h1⟩:=h;exact⟨v0,v1,e,((cW uu)).mono h0 g,((cW uE)).mono h1 g⟩
 bM:=λx=>(cW uu).bM x.cB+((cW uE).bM x.eZ)
theorem aaj:Reads Tryd.prog UF 33:=
 (ES (F:=λ_=>True) Tryd.underlying33 (c0:=(cW uu)) (c1:=(cW uE)) (by kernel_rfl) rfl rfl (by kernel_rfl) (by kernel_rfl) Xq YH).imp λw cs a h=>by obtain⟨a0,a1⟩:=a;obtain⟨h0,h1⟩:=h;obtain⟨s0,e0⟩:=tv.1 (((cW uu)).len h0);rw[e0]at h0;obtain⟨s1,e1⟩:=tv.1 (((cW uE)).len h1);rw[e1]at h1;have lY:=jm e0 e1;exact⟨⟨a0,a1⟩,⟨s0,s1,by rw[lY];rfl,h0,h1⟩,bJ _⟩
def L2:cR cK where
 size:=2
 is:=λw cs x=>cs=[.int Ξ x.unit,.string x.param]/\bA x.unit/\x.param.size<=maxLen
 len:=λh=>by obtain⟨rfl,_⟩:=h;rfl
 mono:=λh _=>h
 bM:=λx=>ep.bM x.unit+(pe.bM x.param)
theorem aai:Reads Tryd.prog L2 72:=
 (ES (F:=λ_=>True) Tryd.underlying72 (c0:=ep) (c1:=pe) (by kernel_rfl) rfl rfl (by kernel_rfl) (by kernel_rfl) (lK Tryd.underlying3) (Ah Tryd.underlying9)).imp λw cs a h=>by obtain⟨a0,a1⟩:=a;obtain⟨h0,h1⟩:=h;obtain⟨e0,b0⟩:=h0;obtain⟨e1,b1⟩:=h1;have lY:=jm e0 e1;exact⟨⟨a0,a1⟩,⟨by rw[lY];rfl,b0,b1⟩,bJ _⟩
def uw:cR pJ where
 size:=3
 is:=λw cs x=>cs=[.int Ξ x.key.unit,.string x.key.param,.int Ξ x.level]/\bA x.key.unit/\x.key.param.size<=maxLen/\bA x.level
 len:=λh=>by obtain⟨rfl,_⟩:=h;rfl
 mono:=λh _=>h
 bM:=λx=>L2.bM x.key+(ep.bM x.level)
theorem alC:Reads Tryd.prog uw 74:=
 (ES (F:=λ_=>True) Tryd.underlying74 (c0:=L2) (c1:=ep) (by kernel_rfl) rfl rfl (by kernel_rfl) (by kernel_rfl) aai (lK Tryd.underlying3)).imp λw cs a h=>by obtain⟨a0,a1⟩:=a;obtain⟨h0,h1⟩:=h;obtain⟨e0,b0⟩:=h0;obtain⟨aez,aeA⟩:=b0;obtain⟨e1,b1⟩:=h1;have lY:=jm e0 e1;exact⟨⟨a0,a1⟩,⟨by rw[lY];rfl,aez,aeA,b1⟩,bJ _⟩
theorem akY:Reads Tryd.prog (cW uw) 68:=vN Tryd.underlying68 (c:=uw) (by kernel_rfl) (by decide) alC
def F1:cR eE where
 size:=3
 is:=λw cs x=>∃v0:Value,cs=[.int Ξ x.aI,.string x.title,v0]/\bA x.aI/\x.title.size<=maxLen/\(cW uw).is w [v0] x.gC
 len:=λh=>by obtain⟨v0,rfl,_⟩:=h;rfl
 mono:=λ{w w' cs x}h g=>by obtain⟨v0,e,h0,h1,h2⟩:=h;exact⟨v0,e,h0,h1,((cW uw)).mono h2 g⟩
 bM:=λx=>ep.bM x.aI+(pe.bM x.title+((cW uw).bM x.gC))
theorem aj8:Reads Tryd.prog F1 70:=
 (Im (F:=λ_=>True) Tryd.underlying70 (c0:=ep) (c1:=pe) (c2:=(cW uw)) (by kernel_rfl) rfl rfl rfl (by kernel_rfl) (by kernel_rfl) (by kernel_rfl) (lK Tryd.underlying3) (Ah Tryd.underlying9) akY).imp λw cs a h=>by obtain⟨a0,a1,a2⟩:=a;obtain⟨h0,h1,h2⟩:=h;obtain⟨e0,b0⟩:=h0;obtain⟨e1,b1⟩:=h1;obtain⟨s2,e2⟩:=tv.1 (((cW uw)).len h2);rw[e2]at h2;have sk:=jm e1 e2;have lY:=jm e0 sk;exact⟨⟨a0,a1,a2⟩,⟨s2,by rw[lY];rfl,b0,b1,h2⟩,bJ _⟩
theorem XE:Reads Tryd.prog (cW F1) 35:=vN Tryd.underlying35 (c:=F1) (by kernel_rfl) (by decide) aj8
end
section
open Go.RowKit Go.Deep
def jr:Nat->cR aD
 |0=>{size:=4,is:=λ_ _ _=>False,len:=λh=>h.elim,mono:=λh _=>h.elim,bM:=λ_=>0}
 |n+1=>{size:=4,is:=λw cs x=>∃v:Value,cs=[.int Ξ x.kind,.int Ξ x.from_,.int Ξ x.Bs,v]/\bA x.kind/\bA x.from_/\bA x.Bs/\(cW (jr n)).is w [v] x.args,len:=λh=>(by obtain⟨v,rfl,_⟩:=h;rfl),mono:=λ{w w' cs x}h g=>(by obtain⟨v,e,h0,h1,h2,h3⟩:=h;exact⟨v,e,h0,h1,h2,(cW (jr n)).mono h3 g⟩),bM:=λx=>ep.bM x.kind+(ep.bM x.from_+(ep.bM x.Bs+(cW (jr n)).bM x.args))}
theorem zZ(n:Nat):(jr n).size=4:=by cases n<;>rfl
theorem Jm:∀n:Nat,fF (λm=>m<=n) Tryd.prog (jr n) 24
 |0=>by intro H enc w base spare held fuel cs x hF h;obtain rfl:fuel=0:=Nat.le_zero.1 hF;simp [DataW.trod]at h
 |n+1=>by
  intro H enc w base spare held fuel cs x hF h
  have hs:fF (λm=>m<=n) Tryd.prog (cW (jr n)) 22:=by have hr:=Jm n;exact vN Tryd.underlying22 (c:=jr n) (by rw[zZ];kernel_rfl) (by rw[zZ];decide) (λH enc w base spare held fuel cs x hF h=>hr (show fuel<=n by have:fuel+1<=n:=hF;omega) h)
  obtain⟨a,h1,hb⟩:=(Oy (F:=λm=>m<=n+1) Tryd.underlying24 (c0:=ep) (c1:=ep) (c2:=ep) (c3:=cW (jr n)) (by kernel_rfl) rfl rfl rfl rfl (by kernel_rfl) (by kernel_rfl) (by kernel_rfl) (by kernel_rfl)
   (lK Tryd.underlying3) (lK Tryd.underlying3) (lK Tryd.underlying3) (λH enc w base spare held fuel cs x hF h=>hs (show fuel<=n by have:fuel+1<=n+1:=hF;omega) h)) hF h
  obtain⟨a0,a1,a2,a3⟩:=a;obtain⟨h0,h1,h2,h3⟩:=h1;obtain⟨e0,b0⟩:=h0;obtain⟨e1,b1⟩:=h1;obtain⟨e2,b2⟩:=h2;obtain⟨s3,e3⟩:=tv.1 ((cW (jr n)).len h3);rw[e3]at h3;have CJ:=jm e2 e3;have sk:=jm e1 CJ;have lY:=jm e0 sk;exact⟨.mk a0 a1 a2 a3,⟨s3,by rw[lY];rfl,b0,b1,b2,h3⟩,hb⟩
theorem JB:∀(n:Nat){w:World}{cs:List Value}{p:aD},(jr n).is w cs p->bn p<=(jr n).bM p
 |0,_,_,_,h=>h.elim
 |n+1,w,cs,p,h=>by
  obtain⟨v,_,_,_,_,h3⟩:=h
  have hl:∀q∈p.args,bn q<=(jr n).bM q:=by
   rcases h3 with⟨_,e⟩|⟨b,off,sp,cap,_,_,_,h4⟩
   ·rw[e];intro q hq;cases hq
   ·intro q hq;obtain⟨i,hi,rfl⟩:=List.getElem_of_mem hq;obtain⟨_,cs',_,h5⟩:=h4 i hi;exact JB n h5
  have LZ:cC p.args<=(p.args.map (jr n).bM).sum:=by
   rw[BZ];generalize p.args=l at hl;induction l with
   |nil=>simp
   |cons q l ih=>simp only[bU,X2];have h1:=hl q (by simp);have h2:=ih (λx hx=>hl x (by simp [hx]));omega
  rw[qH];show _<=ep.bM p.kind+(ep.bM p.from_+(ep.bM p.Bs+(cW (jr n)).bM p.args))
  simp only[ep,cW];omega
def vY(n:Nat):cR bG where
 size:=5
 is:=λw cs g=>∃ps:List Value,cs=Value.int Ξ g.aI::ps/\bA g.aI/\(jr n).is w ps g.pick
 len:=λh=>by obtain⟨ps,rfl,_,h2⟩:=h;have:=(jr n).len h2;rw[zZ]at this;simp [this]
 mono:=λ{w w' cs x}h g=>by obtain⟨ps,e,h0,h1⟩:=h;exact⟨ps,e,h0,(jr n).mono h1 g⟩
 bM:=λg=>ep.bM g.aI+(jr n).bM g.pick
theorem YE(n:Nat):fF (λm=>m<=n) Tryd.prog (vY n) 67:=by
 have h:=ES (F:=λm=>m<=n) Tryd.underlying67 (c0:=ep) (c1:=jr n) (by rw[zZ];kernel_rfl) rfl rfl (by kernel_rfl) (by rw[zZ];kernel_rfl)
  (lK Tryd.underlying3) (λH enc w base spare held fuel cs x hF h=>Jm n (show fuel<=n by have:fuel+1<=n:=hF;omega) h)
 refine h.imp λw cs a h=>?_
 obtain⟨a0,a1⟩:=a;obtain⟨h0,h1⟩:=h;obtain⟨e0,b0⟩:=h0;refine⟨⟨a0,a1⟩,⟨cs.drop 1,?_,b0,h1⟩,bJ _⟩;exact(WD 1 cs).symm.trans (congrArg (·++cs.drop 1) e0)
theorem X1(n:Nat):fF (λm=>m<=n) Tryd.prog (cW (vY n)) 34:=
 vN Tryd.underlying34 (c:=vY n) (by kernel_rfl) (show 0<5 by decide) (λH enc w base spare held fuel cs x hF h=>YE n (show fuel<=n by have:fuel+1<=n:=hF;omega) h)
theorem aao{α:Type}{c:cR α}{w:World}{cs:List Value}{l:List α}(h:(cW c).is w cs l){x:α}(hx:x∈l):∃cs',c.is w cs' x:=by
 rcases h with⟨_,e⟩|⟨b,off,sp,cap,_,_,_,h4⟩
 ·rw[e]at hx;cases hx
 ·obtain⟨i,hi,rfl⟩:=List.getElem_of_mem hx;obtain⟨_,cs',_,h5⟩:=h4 i hi;exact⟨cs',h5⟩
theorem PC{α:Type}{f g:α->Nat}:∀{l:List α},(∀x∈l,f x<=g x)->(l.map f).sum<=(l.map g).sum
 |[],_=>bJ _
 |x::l,h=>by
  rw[bU,bU,X2,X2];have:=h x (by simp);have:=PC (f:=f) (g:=g) (l:=l) λy hy=>h y (by simp [hy])
  omega
theorem Yv{n:Nat}{w:World}{cs:List Value}{l:List bG}(h:(cW (vY n)).is w cs l):(l.map λg=>bn g.pick).sum<=(cW (vY n)).bM l:=by
 show _<=(l.map (vY n).bM).sum+1
 have:=PC (f:=λg:bG=>bn g.pick) (g:=(vY n).bM) (l:=l) λg hg=>by obtain⟨cs',ps,_,_,h2⟩:=aao h hg;have:=JB n h2;show _<=ep.bM g.aI+(jr n).bM g.pick;omega
 omega
end
section
open Go.RowKit Go.Deep
section
variable {c : RC}
theorem uv:aJ c [] []:=by simp [aJ]
theorem fE{a:AV}{v:Value}{l:aq}{vs:List Value}(h:ak c a v)(k:aJ c l vs):aJ c (a::l) (v::vs):=by simp only[aJ];exact⟨v,vs,rfl,h,k⟩
theorem lQ(k:IntKind)(n:Int):ak c (.int k n) (.int k n):=by simp [ak]
theorem abg(b:Bool):ak c (.bool b) (.bool b):=by simp [ak]
theorem Az(s:ByteArray):ak c (.str s) (.string s):=by simp [ak]
def RP{α:Type}(c:RC)(d:cR α)(e:α->aq)(ok:α->Prop):Prop:=∀cs x,d.is c.w cs x->aJ c (e x) cs/\ok x/\(∀v∈cs,bY v=ι)
theorem Q4:∀{l:aq}{vs:List Value},aJ c l vs->l.length=vs.length
 |[],vs,h=>by simp only[aJ]at h;subst h;rfl
 |a::l,vs,h=>by simp only[aJ]at h;obtain⟨v,vs',rfl,_,h⟩:=h;simp [Q4 h]
theorem Q2{b:Nat}:∀{l:aq}{vs:List Value}{off:Nat},aJ c l vs->(∀v∈vs,bY v=ι)->(∀j,j<vs.length->c.w.cell? ⟨b,off+j,η⟩=vs[j]?)->aY c b off l
 |[],vs,off,h,_,_=>by simp [aY]
 |a::l,vs,off,h,ho,hc=>by simp only[aJ]at h;obtain⟨v,vs',rfl,h1,h2⟩:=h;simp only[aY];refine⟨⟨v,by simpa using hc 0 (by simp),ho v (by simp),h1⟩,Q2 h2 (λv hv=>ho v (by simp [hv])) λj hj=>?_⟩;have:=hc (j+1) (by simpa using hj);rw[show off+1+j=off+(j+1) by omega];simpa using this
theorem Q3{α:Type}{d:cR α}{e:α->aq}{ok:α->Prop}(H:RP c d e ok){b sz:Nat}(hsz:d.size=sz):∀{l:List α}{off:Nat},(∀(i:Nat)(x:α),l[i]? =δ x->∃cs',(∀j,j<d.size->c.w.cell? ⟨b,off+(i*d.size+j),η⟩=cs'[j]?)/\d.is c.w cs' x)->bh c sz b off (l.map e)/\∀x∈l,ok x
 |[],off,h=>by simp [bh]
 |x::l,off,h=>by
  obtain⟨cs,h1,h2⟩:=h 0 x rfl;obtain⟨k1,k2,k3⟩:=H cs x h2;have hl:cs.length=d.size:=d.len h2
  obtain⟨r1,r2⟩:=Q3 H hsz (l:=l) (off:=off+sz) (λi y hy=>by
   obtain⟨cs',q1,q2⟩:=h (i+1) y (by simpa using hy);refine⟨cs',λj hj=>?_,q2⟩;have:=q1 j hj;rw[<-hsz]
   rwa[show off+d.size+(i*d.size+j)=off+((i+1)*d.size+j) by rw[Nat.succ_mul];omega])
  refine⟨?_,λy hy=>?_⟩
  ·simp only[bU,bh];refine⟨by rw[Q4 k1,hl,hsz],Q2 k1 k3 λj hj=>?_,r1⟩;have:=h1 j (by rw[<-hl];exact hj);simpa using this
  ·rcases eo.1 hy with rfl|hy
   ·exact k2
   ·exact r2 y hy
theorem abI{w:World}{b off:Nat}{v:Value}(h:w.cell? ⟨b,off,η⟩=δ v):b<w.heap.size:=by
 rcases Nat.lt_or_ge b w.heap.size with k|k
 ·exact k
 ·simp [World.cell?,Array.getElem?_eq_none k]at h
theorem vR{α:Type}{d:cR α}{e:α->aq}{ok:α->Prop}(hX:∀b,¬c.X b)(H:RP c d e ok){sz:Nat}(hsz:d.size=sz)(h0:0<sz){v:Value}{l:List α}(h:(cW d).is c.w [v] l):ak c (sl sz e l) v/\fD ok l/\bY v=ι:=by
 rcases h with⟨h1,rfl⟩|⟨b,off,sp,cap,h1,h2,h3,h4⟩
 ·simp only[List.cons.injEq,and_true]at h1;subst h1;exact⟨by simp [sl,ak,h0],⟨by simp,by simp⟩,rfl⟩
 ·simp only[List.cons.injEq,and_true]at h1;subst h1
  have Nk:sp=η\/l=[]:=by
   cases l with
   |nil=>exact .inr rfl
   |cons x l=>exact .inl (h4 0 (by simp)).1
  have hh:∀(i:Nat)(x:α),l[i]? =δ x->∃cs',(∀j,j<d.size->c.w.cell? ⟨b,off+(i*d.size+j),η⟩=cs'[j]?)/\d.is c.w cs' x:=by intro i x hx;obtain⟨hi,hx⟩:=bB.1 hx;subst hx;exact(h4 i hi).2
  obtain⟨r1,r2⟩:=Q3 H hsz hh;refine⟨?_,⟨by unfold maxLen at h3;unfold bD;omega,r2⟩,rfl⟩;simp only[sl,ak];refine⟨δ ⟨b,off,sp⟩,cap,by simp,by simpa using h2,h0,?_⟩;rcases Nk with rfl|rfl
  ·cases l with
   |nil=>exact .inl rfl
   |cons x l=>
    refine .inr ⟨b,off,rfl,?_,hX b,r1⟩;obtain⟨cs,q1,q2⟩:=hh 0 x rfl;have hl:cs.length=d.size:=d.len q2;have:=q1 0 (by omega);obtain⟨y,hy⟩:∃y,cs[0]? =δ y:=⟨cs[0],cA (by omega)⟩
    rw[hy]at this;exact abI this
  ·exact .inl rfl
theorem vV:∀v∈([]:List Value),bY v=ι:=by simp
theorem fU{v:Value}{vs:List Value}(h:bY v=ι)(k:∀x∈vs,bY x=ι):∀x∈v::vs,bY x=ι:=by
 intro x hx;rcases eo.1 hx with rfl|hx
 ·exact h
 ·exact k x hx
theorem abk:RP c uz lR Ke:=by rintro cs x ⟨rfl,h0,h1,h2⟩;exact⟨(fE (lQ _ _) (fE (lQ _ _) (fE (Az _) uv))),⟨h0,h1,(show gW _ by unfold gW bD;have:=h2;unfold maxLen at this;omega)⟩,(fU rfl (fU rfl (fU rfl vV)))⟩
theorem abj(hX:∀b,¬c.X b):RP c uy iS RN:=by rintro cs x ⟨v0,rfl,h0,h1,h2,h3,h4,h6⟩;obtain⟨r6,o6,n6⟩:=vR hX abk (sz:=3) rfl (by decide) h6;exact⟨(fE (Az _) (fE (lQ _ _) (fE (lQ _ _) (fE (lQ _ _) (fE (lQ _ _) (fE (abg _) (fE r6 uv))))))),⟨(show gW _ by unfold gW bD;have:=h0;unfold maxLen at this;omega),h1,h2,h3,h4,o6⟩,(fU rfl (fU rfl (fU rfl (fU rfl (fU rfl (fU rfl (fU n6 vV)))))))⟩
theorem Zv(hX:∀b,¬c.X b):RP c uu fA Fm:=by rintro cs x ⟨v0,rfl,h0,h1,h2⟩;obtain⟨r2,o2,n2⟩:=vR hX (abj hX) (sz:=7) rfl (by decide) h2;exact⟨(fE (Az _) (fE (lQ _ _) (fE r2 uv))),⟨(show gW _ by unfold gW bD;have:=h0;unfold maxLen at this;omega),h1,o2⟩,(fU rfl (fU rfl (fU n2 vV)))⟩
theorem acy:RP c uE dJ SM:=by rintro cs x ⟨rfl,h0,h1,h2,h3⟩;exact⟨(fE (lQ _ _) (fE (Az _) (fE (lQ _ _) (fE (lQ _ _) uv)))),⟨h0,(show gW _ by unfold gW bD;have:=h1;unfold maxLen at this;omega),h2,h3⟩,(fU rfl (fU rfl (fU rfl (fU rfl vV))))⟩
theorem adA(hX:∀b,¬c.X b):RP c UF cZ pW:=by rintro cs x ⟨v0,v1,rfl,h0,h1⟩;obtain⟨r0,o0,n0⟩:=vR hX (Zv hX) (sz:=3) rfl (by decide) h0;obtain⟨r1,o1,n1⟩:=vR hX acy (sz:=4) rfl (by decide) h1;exact⟨(fE r0 (fE r1 uv)),⟨o0,o1⟩,(fU n0 (fU n1 vV))⟩
theorem als:RP c uw jV P8:=by rintro cs x ⟨rfl,h0,h1,h2⟩;exact⟨(fE (lQ _ _) (fE (Az _) (fE (lQ _ _) uv))),⟨⟨h0,(show gW _ by unfold gW bD;have:=h1;unfold maxLen at this;omega)⟩,h2⟩,(fU rfl (fU rfl (fU rfl vV)))⟩
theorem aam(hX:∀b,¬c.X b):RP c F1 eA uq:=by rintro cs x ⟨v0,rfl,h0,h1,h2⟩;obtain⟨r2,o2,n2⟩:=vR hX als (sz:=3) rfl (by decide) h2;exact⟨(fE (lQ _ _) (fE (Az _) (fE r2 uv))),⟨h0,(show gW _ by unfold gW bD;have:=h1;unfold maxLen at this;omega),o2⟩,(fU rfl (fU rfl (fU n2 vV)))⟩
theorem SV{α:Type}{d:cR α}{e:α->aq}{ok:α->Prop}(H:RP c d e ok){cs:Array Value}{x:α}(h:d.is c.w cs.toList x):ak c (.agg (e x)) (.agg cs)/\ok x:=by obtain⟨h1,h2,h3⟩:=H _ _ h;simp only[ak];exact⟨⟨cs,rfl,h1,h3⟩,h2⟩
end
end
section
open Go.RowKit Go.Deep
section
variable {c : RC}
theorem Kg(hX:∀b,¬c.X b):∀n:Nat,RP c (jr n) aF (λ_=>True)
 |0=>λcs x h=>h.elim
 |n+1=>by rintro cs x ⟨v,rfl,h0,h1,h2,h3⟩;obtain⟨r,o,k⟩:=vR hX (Kg hX n) (sz:=4) (zZ n) (by decide) h3;refine⟨?_,trivial,fU rfl (fU rfl (fU rfl (fU k vV)))⟩;rw[aA];exact fE (lQ _ _) (fE (lQ _ _) (fE (lQ _ _) (fE r uv)))
theorem abl(hX:∀b,¬c.X b)(n:Nat):RP c (vY n) bV (λ_=>True):=by rintro cs x ⟨ps,rfl,h0,h1⟩;obtain⟨r,_,k⟩:=Kg hX n ps x.pick h1;refine⟨?_,trivial,fU rfl k⟩;rw[IG];exact fE (lQ _ _) r
end
end
section
open Go.ChangeShapes Go.WideShapes Go.ChangeAt Go.RowKit
theorem own:ownKnob Tryd.prog.godebug=η:=by kernel_rfl
theorem laidOut:laidOutB Tryd.prog=ι:=by kernel_rfl
theorem Oz{H:Type}{enc:TypeId×Value->H}{P:Program}(hl:laidOutB P=ι){W W':World}(hb:Below W.heap.size W W'):
  ∀{ts:List TypeId}{vs:List Value}{ds:List (DataW H)}{ps:List MemPlace},(ts.all λt=>P.readableRec t&&decide (t<P.types.size))=ι->
   DataW.TrodAll enc P W 0 (λ_=>ι) ι ts vs ds ps->(∀x∈ps,x.block<W.heap.size)->DataW.TrodAll enc P W' 0 (λb=>decide (b<W.heap.size)) ι ts vs ds ps
 |[],[],[],_,_,h,_=>h
 |t::ts,v::vs,d::ds,ps,hts,h,hlt=>by
  obtain⟨p,q,h1,h2,rfl⟩:=h;simp only[amm,eF,decide_eq_true_eq]at hts
  exact⟨p,q,Below.trod hl hts.1.1 hts.1.2 h1 hb (λx hx=>hlt x (Z0 _ hx)),
   Oz hl hb (by simpa using hts.2) h2 (λx hx=>hlt x (List.mem_append_right _ hx)),rfl⟩
 |[],_::_,_,_,_,h,_=>h.elim
 |[],[],_::_,_,_,h,_=>h.elim
 |_::_,[],_,_,_,h,_=>h.elim
 |_::_,_::_,[],_,_,h,_=>h.elim
theorem aaZ{H:Type}{enc:TypeId×Value->H}{f:Func}{s:ChangeSpec}{W W':World}{args:Array Value}{ds gs:List (DataW H)}{before:List MemPlace}{t:TypeId}
  (hts:(f.params.toList.all λt=>Tryd.prog.readableRec t&&decide (t<Tryd.prog.types.size))=ι) (vg:f.resultTypes=#[t]) (ht:Tryd.prog.underlying t=δ .bool) (hvs:s.vars=[])
  (hW:DataW.Whole enc Tryd.prog f.params.toList s.vars θ W args.toList ds gs before) (hb:Below W.heap.size W W')
  (KW:s.fn H (ds++gs)={results:=[.lit (.bool ι)],args:=ds}):
  s.post enc Tryd.prog f θ ι θ θ W args (.bool ι) W':=by
 have G5:=hW;obtain⟨p,q,hA,hV,rfl,hfz,hnd⟩:=hW;have hlt:∀x∈p++q,x.block<W.heap.size:=λx hx=>G5.lt x hx
 refine⟨ds,gs,p++q,[],p,[],G5,?_,?_,?_,hb.frame _,λh=>by cases h⟩
 ·rw[KW,vg];exact trodAll_cons_mk (shut_bool ht _) trodAll_mk0
 ·rw[KW];exact Oz laidOut hb hts hA (λx hx=>hlt x (Z0 _ hx))
 ·rw[KW,hvs];exact rfl
end
section
open Go.RowKit
def base (W:World):RC:=ctx ⟨W,[],λ_=>False,aK⟩ W [] bP
theorem AB(W:World):∀b,¬(base W).X b:=by
 rintro b (k|⟨p,hp,_⟩|⟨i,k⟩)
 ·exact k
 ·cases hp
 ·cases k
theorem aa0{n:FuncId}{m:aq->Heap->aG}{jM:aq}(hs:Sound Tryd.prog aK n m)(hc:∀us w,(callFunc n us).run Tryd.prog w=.ok (.enter n us) w)(W:World)(hT:xO W (λ_=>False)) (vs:Array Value) (hr:aJ (base W) jM vs.toList) (hm:m jM []=δ (.bool ι,[])):
  Calls Tryd.prog n vs W λe W'=>e=.returned (.bool ι)/\Below W.heap.size W W':=by
 have hZ:qS ⟨W,[],λ_=>False,aK⟩:=⟨λ_(k:False)=>k.elim,hT.to (bJ _) (λ_ _ _=>rfl) λb _ k=>by rcases k with k|⟨p,hp,_⟩;exact k;cases hp⟩
 have hh0:eX (ctx ⟨W,[],λ_=>False,aK⟩ W [] bP) []:=by
  refine⟨rfl,λi j p q hp=>?_,λi p x hp=>?_⟩
  ·simp [ctx]at hp
  ·simp [ctx]at hp
 rcases hs _ _ _ _ hm with⟨g,h1,h2⟩|hv
 case inr=>
  obtain⟨v,w',E',k1,_⟩:=hv ⟨W,[],λ_=>False,aK⟩ vs rfl hZ hh0 hr;rw[hc]at k1;injection k1 with k1
  cases k1
 have hg:g=n:=by
  have e1:=h1 #[] W;rw[hc #[] W]at e1;injection e1 with e1
  injection e1 with e1
  exact e1.symm
 subst hg
 have hh:eX (ctx ⟨W,[],λ_=>False,aK⟩ W [] bP) []:=by
  refine⟨rfl,λi j p q hp=>?_,λi p x hp=>?_⟩
  ·simp [ctx]at hp
  ·simp [ctx]at hp
 refine(h2 ⟨W,[],λ_=>False,aK⟩ vs rfl hZ hh hr).mono ?_;rintro e w' ⟨v,E',rfl,ho,_,hv⟩;simp only[ak]at hv;subst hv;exact⟨rfl,ho.os,ho.tape,ho.output,ho.size,λk hk=>ho.stay k hk (λp hp=>by cases hp)⟩
end
section
open Go.ChangeShapes Go.WideShapes Go.ChangeAt Go.RowKit
mutual
def Tr:DataW Unit->List Value
 |.lit (.int k z)=>[.int k z]
 |.agg l=>Sy l
 |_=>[]
def Sy:List (DataW Unit)->List Value
 |[]=>[]
 |d::l=>Tr d++Sy l
end
def L3(d:DataW Unit):Obj->Obj
 |.cells _ t fr=>.cells (Tr d).toArray t fr
 |o=>o
theorem acG:(Tryd.prog.globals[1]?).map (·.type)=δ 170:=by kernel_rfl
theorem abm {W : World} (h : Lib.TabIs Tryd.prog W "internal/strconv.uint64pow10" .u64 Lib.pow10Tab) : xO W (fun _ => False) := by
 refine⟨h,?_,id⟩;unfold Lib.TabIs World.var? at h;rw[LD,aL]at h;split at h
 ·rename_i k;exact(tu.1 k).1
 ·cases h
end
end
end Go.Proofs.YtkdafecbdncmiaaDoor
